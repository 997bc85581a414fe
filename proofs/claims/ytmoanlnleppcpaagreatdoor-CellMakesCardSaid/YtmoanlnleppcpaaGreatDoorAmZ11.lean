/- A part of the proof of CellMakesCardSaid: lemmas on the way (AmU, AmUa, AmQa, AmQb, AmQc, AmQd, AmQw, AmQe, AmTa, AmTb, AmTc, AmTd, AmTe, AmTw, AmTf, AmDj, AmBx, AmBa, AmBb, AmBc, AmTg, AmBd, AmBe, AmBf, AmBg, AmTh, AmTj, AmTk, AmCt, AmCx, AmDk, AmBh, AmBi, AmBj, AmBk, AmBl, AmBm, AmBn). Conditions: none of ours. -/
import Derived.OpenShut
import Derived.Test.YtmoanlnleppcpaaGreatDoorProg
import Derived.KernelRfl
import Derived.Test.YtmoanlnleppcpaaGreatDoorAmZ10
set_option linter.unusedSectionVars false
set_option maxHeartbeats 32000000
set_option maxRecDepth 100000
set_option linter.unusedVariables false
set_option linter.unusedSimpArgs false
namespace Go.AM
variable {ok:Okc}
open Go.ChangeShapes Go.WideShapes
def inF (w:World) (k:Nat):Prop:=k<w.heap.size
end Go.AM
namespace Go.AM
open Go.ChangeShapes Go.WideShapes
inductive Ty where
 |int (k:IntKind)
 |bool
 |str
 |arr (n:Nat) (t:Ty)
 |sl (t:Ty)
 |st (fs:Ty)
 |unit
 |pair (a b:Ty)
def Ty.sz:Ty->Nat
 | .int _| .bool| .str| .sl _=>1
 | .arr n t=>n*t.sz
 | .st fs=>fs.sz
 | .unit=>0
 | .pair a b=>a.sz+b.sz
abbrev Ty.D:Ty->Type
 | .int _=>Int
 | .bool=>Bool
 | .str=>List UInt8
 | .arr _ t| .sl t=>List t.D
 | .st fs=>fs.D
 | .unit=>Unit
 | .pair a b=>a.D×b.D
def Ty.cells:(t:Ty)->t.D->List AV
 | .int k,n=>[.int k n]
 | .bool,b=>[.bool b]
 | .str,s=>[.str s]
 | .arr _ t,l=>List.flatMap (Ty.cells t) l
 | .sl t,l=>[.fsl (List.flatMap (Ty.cells t) l) (List.length l) t.sz]
 | .st fs,d=>Ty.cells fs d
 | .unit,_=>[]
 | .pair a b,d=>Ty.cells a d.1++Ty.cells b d.2
def Ty.wf:(t:Ty)->t.D->Prop
 | .int k,n=>(Lit.int k n).wf=true
 | .bool,_=>True
 | .str,s=>List.length s<=9223372036854775807
 | .arr n t,l=>List.length l=n/\∀x∈(show List t.D from l),Ty.wf t x
 | .sl t,l=>List.length l<=9223372036854775807/\∀x∈(show List t.D from l),Ty.wf t x
 | .st fs,d=>Ty.wf fs d
 | .unit,_=>True
 | .pair a b,d=>Ty.wf a d.1/\Ty.wf b d.2
mutual
def okTy (P:Program):Ty->TypeId->Bool
 | .int k,t=>match P.underlying t with|some (.int k')=>k'==k|_=>false
 | .bool,t=>match P.underlying t with|some .bool=>true|_=>false
 | .str,t=>match P.underlying t with|some .string=>true|_=>false
 | .arr n e,t=>match P.underlying t with|some (.array m u)=>n==m&&okTy P e u&&P.cellsOf u==e.sz&&P.cellsOf t==n*e.sz|_=>false
 | .sl e,t=>match P.underlying t with|some (.slice u)=>okTy P e u&&P.cellsOf u==e.sz&&Nat.blt 0 e.sz|_=>false
 | .st fs,t=>match P.underlying t with|some (.struct l)=>okFs P fs l.toList 0&&P.cellsOf t==fs.sz|_=>false
 |_,_=>false
termination_by structural ty=>ty
def okFs (P:Program):Ty->List Field->Nat->Bool
 | .unit,l,_=>match l with|[]=>true|_=>false
 | .pair a b,l,off=>match l with|f::l=>f.offset==off&&okTy P a f.type&&P.cellsOf f.type==a.sz&&okFs P b l (off+a.sz)|_=>false
 |_,_,_=>false
termination_by structural ty=>ty
end
section
variable {ok:Okc} {H:Type} {enc:TypeId×Value->H} {P:Program} {W:World} {spare:Nat->Bool}
theorem QcM:∀(t:Ty) (d:t.D),t.wf d->(t.cells d).length=t.sz
 | .int _,_,_=>rfl
 | .bool,_,_=>rfl
 | .str,_,_=>rfl
 | .sl _,_,_=>rfl
 | .unit,_,_=>rfl
 | .st fs,d,h=>QcM fs d h
 | .pair a b,d,h=>by
  simp only[Ty.cells,Ty.sz,List.length_append,QcM a d.1 h.1,QcM b d.2 h.2]
 | .arr n t, l, h => by
  obtain⟨h1,h2⟩:=h
  simp only[Ty.cells,Ty.sz,<-h1]
  have:∀(l:List t.D),(∀x∈l,t.wf x)->(l.flatMap t.cells).length=l.length*t.sz:=by
   intro l
   induction l with
   |nil=>intro _;simp
   |cons x l ih=>intro hl;simp[List.flatMap_cons,QcM t x (hl x (by simp)),ih fun y hy=>hl y (by simp[hy]),Nat.succ_mul];omega
  exact this l h2
theorem QfS {α β:Type} {f:α->Option β}:∀{l:List α} {r:List β},l.mapM f=some r->r.length=l.length/\∀(i:Nat) (x:α),l[i]?=some x->∃y,f x=some y/\r[i]?=some y
 |[],r,h=>by simp at h;subst h;simp
 |a::l,r,h=>by
  simp only[List.mapM_cons,Option.bind_eq_bind,Option.bind_eq_some_iff]at h
  obtain⟨y,hy,ys,hys,e⟩:=h
  simp at e;subst e
  obtain⟨h1,h2⟩:=QfS hys
  refine⟨by simp[h1],fun i x hx=>?_⟩
  cases i with
  |zero=>simp at hx;subst hx;exact⟨y,hy,rfl⟩
  |succ i=>simpa using h2 i x (by simpa using hx)
theorem many {ok:Okc} {t:Ty} {c:Ctx ok} {n:Nat}:∀{cs:List Value},(∀i,i<n->∃x:t.D,t.wf x/\VRels c W (t.cells x) ((cs.drop (i*t.sz)).take t.sz))->n*t.sz<=cs.length->
  ∃l:List t.D,l.length=n/\(∀x∈l,t.wf x)/\VRels c W (l.flatMap t.cells) (cs.take (n*t.sz)):=by
 induction n with
 |zero=>intro cs _ _;exact⟨[],rfl,by simp,by simp[VRels]⟩
 | succ n ih =>
  intro cs hx hl
  obtain⟨x,h1,h2⟩:=hx 0 (by omega)
  rw[Nat.succ_mul]at hl
  obtain⟨l,h3,h4,h5⟩:=ih (cs:=cs.drop t.sz) (fun i hi=>by
   obtain⟨y,g1,g2⟩:=hx (i+1) (by omega)
   refine⟨y,g1,?_⟩
   rw[List.drop_drop,show t.sz+i*t.sz=(i+1)*t.sz by rw[Nat.succ_mul];omega]
   exact g2) (by simp;omega)
  refine⟨x::l,by simp[h3],by simpa using⟨h1,h4⟩,?_⟩
  rw[List.flatMap_cons,Nat.succ_mul,Nat.add_comm,List.take_add]
  refine QaN ?_ h5
  simpa using h2
mutual
theorem QeP : ∀ (ty : Ty) (t : TypeId) (fuel : Nat) (cs : List Value) (x : DataW H × List MemPlace), (∀ b, spare b = true) -> okTy P ty t = true -> DataW.trod enc P W 0 spare true fuel t cs = some x ->
    ∃d:ty.D,ty.wf d/\VRels (only (ok:=ok) (inF W)) W (ty.cells d) cs:=by
  intro ty t fuel cs x hs ho h
  match ty with
  | .int k =>
    simp only[okTy]at ho
    split at ho<;>try (cases ho;done)
    rename_i k' hu
    simp only[beq_iff_eq]at ho
    subst ho
    obtain⟨n,rfl,_,hw⟩:=DataW.trod_int hu h
    exact⟨n,hw,by simp[Ty.cells,VRels,VRel]⟩
  | .bool =>
    simp only[okTy]at ho
    split at ho<;>try (cases ho;done)
    rename_i hu
    obtain⟨b,rfl,_⟩:=DataW.trod_bool hu h
    exact⟨b,trivial,by simp[Ty.cells,VRels,VRel]⟩
  | .str =>
    simp only[okTy]at ho
    split at ho<;>try (cases ho;done)
    rename_i hu
    obtain⟨s,rfl,_,hl⟩:=DataW.trod_string hu h
    refine⟨s.data.toList,?_,?_⟩
    · simp only [ByteArray.size, maxLen] at hl
      simp only[Ty.wf,Array.length_toList]
      omega
    · simp[Ty.cells,VRels,VRel]
  | .unit=>simp[okTy]at ho
  | .pair a b=>simp[okTy]at ho
  | .st fs =>
    simp only[okTy]at ho
    split at ho<;>try (cases ho;done)
    rename_i l hu
    simp only[Bool.and_eq_true,beq_iff_eq]at ho
    obtain⟨ho,hsz⟩:=ho
    cases fuel with
    |zero=>simp[DataW.trod]at h
    | succ n =>
      unfold DataW.trod at h
      rw[hu]at h
      split at h<;>first|(simp_all;done)|skip
      rename_i fs' he
      injection he with he;injection he with he;subst he
      split at h
      · rename_i hl
        simp only[Option.map_eq_some_iff]at h
        obtain⟨xs,hm,_⟩:=h
        obtain⟨d,h1,h2⟩:=Qkb fs l.toList 0 n _ xs hs ho hm (by omega)
        refine⟨d,h1,?_⟩
        simpa[Ty.cells,<-hsz,<-hl]using h2
      · cases h
  | .arr m e =>
    simp only[okTy]at ho
    split at ho<;>try (cases ho;done)
    rename_i m' u hu
    simp only[Bool.and_eq_true,beq_iff_eq]at ho
    obtain⟨⟨⟨rfl,ho⟩,hsz⟩,hst⟩:=ho
    cases fuel with
    |zero=>simp[DataW.trod]at h
    | succ n =>
      unfold DataW.trod at h
      rw[hu]at h
      split at h<;>first|(simp_all;done)|skip
      rename_i m' u' he
      injection he with he;injection he with he1 he2;subst he1;subst he2
      split at h
      · rename_i hl
        simp only[Option.map_eq_some_iff]at h
        obtain⟨xs,hm,_⟩:=h
        obtain⟨g1,g2⟩:=QfS hm
        rw[hst]at hl
        obtain⟨l,k1,k2,k3⟩:=many (t:=e) (c:=only (inF W)) (n:=m) (fun i hi=>by
          obtain⟨y,hy,_⟩:=g2 i i (by simp[hi])
          rw[hsz]at hy
          exact QeP e u n _ y hs ho hy) (by omega)
        refine⟨l,⟨k1,k2⟩,?_⟩
        rw[<-hl,List.take_length]at k3
        exact k3
      · cases h
  | .sl e =>
    simp only[okTy]at ho
    split at ho<;>try (cases ho;done)
    rename_i u hu
    simp only[Bool.and_eq_true,beq_iff_eq,Nat.blt_eq]at ho
    obtain⟨⟨ho,hsz⟩,hpos⟩:=ho
    rcases DataW.trod_slice hu h with⟨rfl,_⟩|⟨a,len,cap,elems,rest,n,_,rfl,_,_,hl,hm,hlen,hel,hsp,hns⟩
    · exact⟨[],⟨by simp,by simp⟩,by simp[Ty.cells,VRels,VRel]⟩
    obtain⟨hrl,hr⟩:=hsp (hs _)
    have each:∀i,i<cap->∃cs,(w':W.cells? 0 (a.add (i*e.sz)) e.sz=some cs)->True:=fun _ _=>⟨[],fun _=>trivial⟩
    have each:∀i,i<cap->∃cs y,W.cells? 0 (a.add (i*e.sz)) e.sz=some cs/\DataW.trod enc P W 0 spare true n u cs=some y:=by
      intro i hi
      by_cases hil:i<len
      · have h1 := hel i hil
        rw[List.getElem?_eq_getElem (by omega),hsz,Option.bind_eq_some_iff]at h1
        obtain⟨cs,hcs,hy⟩:=h1
        exact⟨cs,_,hcs,hy⟩
      · have h1 := hr (i - len) (by omega)
        rw[show len+(i-len)=i by omega,List.getElem?_eq_getElem (by omega),hsz,Option.bind_eq_some_iff]at h1
        obtain⟨cs,hcs,hy⟩:=h1
        exact⟨cs,_,hcs,hy⟩
    by_cases h0:cap=0
    · have : len = 0 := by omega
      subst h0;subst this
      exact⟨[],⟨by simp,by simp⟩,by simp[Ty.cells,VRels,VRel]⟩
    have cellsAt:∀i cs,W.cells? 0 (a.add (i*e.sz)) e.sz=some cs->cs.length=e.sz/\∀j,j<e.sz->W.cell? ((a.add (i*e.sz)).add j)=cs[j]?:=by
      intro i cs hcs
      unfold World.cells? at hcs
      rw[if_pos (Nat.zero_le _)]at hcs
      obtain⟨g1,g2⟩:=QfS hcs
      refine⟨by simpa using g1,fun j hj=>?_⟩
      obtain⟨y,k1,k2⟩:=g2 j j (by simp[hj])
      rw[k1,k2]
    obtain⟨cs0,y0,hc0,_⟩:=each 0 (by omega)
    obtain⟨q1,q2⟩:=cellsAt 0 cs0 hc0
    have hcell0:=q2 0 hpos
    rw[List.getElem?_eq_getElem (by omega)]at hcell0
    obtain⟨b,off,spot⟩:=a
    have hspot:spot=none:=by simpa[Addr.add]using World.cell?_spot hcell0
    subst hspot
    have hb:∃C e fr,W.heap[b]?=some (.cells C e fr):=by
      unfold World.cell? at hcell0
      split at hcell0
      · rename_i C e fr hh;exact⟨C,e,fr,by simpa[Addr.add]using hh⟩
      · cases hcell0
    obtain⟨C,et,fr,hb⟩:=hb
    have hcell:∀i cs,W.cells? 0 ((⟨b,off,none⟩:Addr).add (i*e.sz)) e.sz=some cs->i<cap->(C.toList.drop (off+i*e.sz)).take e.sz=cs:=by
      intro i cs hcs hi
      obtain⟨k1,k2⟩:=cellsAt i cs hcs
      refine List.ext_getElem? fun j=>?_
      by_cases hj:j<e.sz
      · rw [List.getElem?_take_of_lt hj, List.getElem?_drop, <- k2 j hj]
        rw[Go.WideShapes.add_plain,Go.WideShapes.add_plain]
        unfold World.cell?
        simp only[hb,Option.isSome_none,Bool.false_eq_true,if_false]
        rw[Array.getElem?_toList]
      · rw[List.getElem?_eq_none (by simp;omega),List.getElem?_eq_none (by omega)]
    have hCs:len*e.sz<=(C.toList.drop off).length:=by
      by_cases hl0:len=0
      · subst hl0;simp
      obtain⟨cs,y,hcs,_⟩:=each (len-1) (by omega)
      have h1:=hcell (len-1) cs hcs (by omega)
      obtain⟨k1,_⟩:=cellsAt (len-1) cs hcs
      have h2:=congrArg List.length h1
      rw[k1,List.length_take,List.length_drop]at h2
      rw[List.length_drop]
      have h3:len*e.sz=(len-1)*e.sz+e.sz:=by
        rw[<-Nat.succ_mul];congr 1;omega
      omega
    obtain⟨l,k1,k2,k3⟩:=many (t:=e) (c:=only (inF W)) (n:=len) (cs:=C.toList.drop off) (fun i hi=>by
      obtain⟨cs,y,hcs,hy⟩:=each i (by omega)
      rw[List.drop_drop,hcell i cs hcs (by omega)]
      exact QeP e u n cs y hs ho hy) hCs
    refine⟨l,⟨by simp[maxLen]at hm;omega,k2⟩,?_⟩
    simp only[Ty.cells,VRels,VRel]
    have hll:(l.flatMap e.cells).length=l.length*e.sz:=QcM (.arr l.length e) l ⟨rfl,k2⟩
    refine⟨_,[],rfl,.inr ⟨b,off,cap,C,et,fr,by rw[k1],by omega,hll,QaA hb,hb,?_⟩,rfl⟩
    have:=Qfz (vs:=(C.toList.drop off).drop (len*e.sz)) k3
    rwa [List.take_append_drop]at this
termination_by structural ty=>ty
theorem Qkb:∀(ty:Ty) (fs:List Field) (off fuel:Nat) (cs:List Value) (xs:List (DataW H×List MemPlace)),(∀b,spare b=true)->okFs P ty fs off=true->
    (fs.mapM fun f=>DataW.trod enc P W 0 spare true fuel f.type ((cs.drop f.offset).take (P.cellsOf f.type)))=some xs->off+ty.sz<=cs.length->
    ∃d:ty.D,ty.wf d/\VRels (only (ok:=ok) (inF W)) W (ty.cells d) ((cs.drop off).take ty.sz):=by
  intro ty fs off fuel cs xs hs ho h hl
  match ty with
  | .unit=>exact⟨(),trivial,by simp[Ty.cells,VRels,Ty.sz]⟩
  | .pair a b =>
    cases fs with
    |nil=>simp[okFs]at ho
    | cons f fs =>
      simp only[okFs,Bool.and_eq_true,beq_iff_eq]at ho
      obtain⟨⟨⟨rfl,h1⟩,h2⟩,h3⟩:=ho
      simp only[List.mapM_cons,Option.bind_eq_bind,Option.bind_eq_some_iff]at h
      obtain⟨y,hy,ys,hys,_⟩:=h
      rw[h2]at hy
      simp only[Ty.sz]at hl
      obtain⟨d1,g1,g2⟩:=QeP a f.type fuel _ y hs h1 hy
      obtain⟨d2,g3,g4⟩:=Qkb b fs (f.offset+a.sz) fuel cs ys hs h3 hys (by omega)
      refine⟨(d1,d2),⟨g1,g3⟩,?_⟩
      simp only[Ty.cells,Ty.sz]
      rw[List.take_add]
      refine QaN g2 ?_
      rw[List.drop_drop]
      exact g4
  | .int _=>simp[okFs]at ho
  | .bool=>simp[okFs]at ho
  | .str=>simp[okFs]at ho
  | .arr _ _=>simp[okFs]at ho
  | .sl _=>simp[okFs]at ho
  | .st _=>simp[okFs]at ho
termination_by structural ty=>ty
end
def Ty.val:(t:Ty)->t.D->AV
 | .arr n t,d=> .agg (Ty.cells (.arr n t) d)
 | .st fs,d=> .agg (Ty.cells (.st fs) d)
 | .int k,n=> .int k n
 | .bool,b=> .bool b
 | .str,s=> .str s
 | .sl t,l=> .fsl (List.flatMap (Ty.cells t) l) (List.length l) t.sz
 | .unit,_=> .any
 | .pair _ _,_=> .any
theorem arg_in (ty:Ty) {t:TypeId} {base:Nat} {v:Value} {d:DataW H} {ps:List MemPlace} (ho:okTy P ty t=true) (hv:Value.okWide P W .any base t v) (h:DataW.Trod enc P W 0 (fun _=>true) true t v d ps):
  ∃d:ty.D,ty.wf d/\VRel (only (ok:=ok) (inF W)) W (ty.val d) v:=by
 obtain⟨fuel,h⟩:=h
 obtain⟨d,h1,h2⟩:=QeP (spare:=fun _=>true) ty t fuel _ _ (fun _=>rfl) ho h
 refine⟨d,h1,?_⟩
 have one:∀(u:AV),VRels (only (ok:=ok) (inF W)) W [u] v.cells.toList->(∀cs,v≠ .agg cs)->VRel (only (ok:=ok) (inF W)) W u v:=by
  intro u hu hn
  have:v.cells= #[v]:=by cases v<;>first|rfl|exact absurd rfl (hn _)
  rw[this]at hu
  simp only[VRels]at hu
  obtain⟨v',vs',e,h3,_⟩:=hu
  cases e;exact h3
 cases ty with
 |unit=>simp[okTy]at ho
 |pair a b=>simp[okTy]at ho
 |arr n e=>
  simp only[okTy]at ho
  split at ho<;>try (cases ho;done)
  rename_i hu
  simp only[Value.okWide,hu]at hv
  obtain⟨cs,rfl,_⟩:=hv
  simp only[Ty.val,VRel]
  exact⟨_,rfl,h2⟩
 |st fs=>
  simp only[okTy]at ho
  split at ho<;>try (cases ho;done)
  rename_i hu
  simp only[Value.okWide,hu]at hv
  obtain⟨cs,rfl,_⟩:=hv
  simp only[Ty.val,VRel]
  exact⟨_,rfl,h2⟩
 |int k=>
  refine one _ h2 ?_
  rintro cs rfl
  simp only[okTy]at ho
  split at ho<;>try (cases ho;done)
  rename_i hu
  simp[Value.okWide,hu,Cell.okWide,Cell.ok]at hv
 |bool=>
  refine one _ h2 ?_
  rintro cs rfl
  simp only[okTy]at ho
  split at ho<;>try (cases ho;done)
  rename_i hu
  simp[Value.okWide,hu,Cell.okWide,Cell.ok]at hv
 |str=>
  refine one _ h2 ?_
  rintro cs rfl
  simp only[okTy]at ho
  split at ho<;>try (cases ho;done)
  rename_i hu
  simp[Value.okWide,hu,Cell.okWide,Cell.ok]at hv
 |sl e=>
  refine one _ h2 ?_
  rintro cs rfl
  simp only[okTy]at ho
  split at ho<;>try (cases ho;done)
  rename_i hu
  simp[Value.okWide,hu,Cell.okWide,Cell.ok]at hv
end
end Go.AM
namespace Go.AM
variable {P:Program}
section
variable {N:NM} {n:Nat} {d:Option Nat} {af dead:List Nat} {r:List SOper} {T:Tmps} {h:Heap} {Q:QC} {fs:List Fr}
def wL (P:Program) (N:NM) (o:Option (List AV)) (len:Nat) (v:AV) (d:Option Nat) (ops:List SOper) (dead:List Nat) (fs:List Fr) (n:Nat) (T:Tmps) (h:Heap) (Q:QC):Prop:=
 ∃cs,o=some cs/\cs.length=len/\wN P N cs v d ops dead fs n T h Q
theorem QgI {cs:List AV} {len:Nat} {v:AV}:wL P N (some cs) len v d r dead fs n T h Q=if cs.length=len then wN P N cs v d r dead fs n T h Q else False:=by
 by_cases hl:cs.length=len<;>simp[wL,hl]
theorem wN_go {x:List AV} {v:AV} (hl:n<1099511627775):wN P N x v d r dead fs n T h Q=if h.get n=none then wR P N r dead fs (n+1) (putD T d v) (h.set n (.cells 0 x)) Q else False:=by
 split
 ·rename_i hn;exact Qn6 hn hl
 ·rename_i hn;simp[wN,hn]
theorem wB_go {x:Blk} {b:Nat} {v:AV} (hl:b<1099511627775):wB P N (some x) b v d r dead fs n T h Q=wR P N r dead fs (n+1) (putD T d v) (h.set b x) Q:=QgD hl
theorem QaP {k:Nat} {x:Blk} (hk:k<1099511627775):(h.set k x).get k=some x:=by rw[Tr.Qav h hk];simp
theorem QaX {j k:Nat} {x:Blk} (hk:k<1099511627775) (hj:j≠k):(h.set k x).get j=h.get j:=by rw[Tr.Qav h hk];simp[hj]
theorem Qgm {x:Nat->Blk} {y:List AV} (hx:x 0= .cells 0 y) {w:Nat->Nat->AV}:wM P N (HM.new .dyn n x fun b g=> .ret (w b g)) d r dead fs n T h Q=wN P N y (w n 0) d r dead fs n T h Q:=by
 apply propext;constructor
 ·rintro ⟨v', h1, hm, hk⟩
  unfold HM.new at hm
  simp only[HM.run]at hm
  cases hn:h.get n with
  |none=>
   rw[hn]at hm
   obtain⟨hl,hm⟩:=QaB hm
   simp only[HM.run,Option.some.injEq,Prod.mk.injEq]at hm
   obtain⟨rfl,rfl⟩:=hm
   rw[hx]at hk
   exact⟨hn,hl,hk⟩
  |some z=>rw[hn]at hm;cases hm
 ·rintro ⟨hn, hl, hk⟩
  refine⟨_,_,?_,by rw[<-hx]at hk;exact hk⟩
  unfold HM.new
  simp only[HM.run,hn]
  have hl':Nat.blt n lim=true:=by simp[Nat.blt];omega
  rw[hl'];rfl
theorem QiL {x:AV}:wM P N (aBox .dyn n x) d r dead fs n T h Q=if x.boxable=true then wN P N x.cells (.ptr n 0 0) d r dead fs n T h Q else False:=by
 split
 ·rename_i hb;exact QmQ hb
 ·rename_i hb;simp only[aBox,if_neg hb,Qc1]
theorem Qdw {sz len:Nat} {z:List AV} {ps:List (Nat×Nat×AV)}:wM P N (aBuildSlice false .dyn n sz len z ps) d r dead fs n T h Q=wL P N (fillA z ps) (len*sz) (.sl n 0 0 len sz) d r dead fs n T h Q:=by
 unfold aBuildSlice
 cases fillA z ps with
 |none=>simp[Qc1,wL]
 |some cs=>
  simp only[QgI,Bool.false_eq_true,if_false]
  split
  ·exact Qgm rfl
  ·exact Qc1
theorem QdN {sz bytes:Nat} {z:List AV} {k1 k2:IntKind} {l c:Int}:wM P N (aMakeSlice .dyn n sz bytes z (.int k1 l) (.int k2 c)) d r dead fs n T h Q=
  if 0<=l/\l<=c/\bytes*c<=1099511627776/\c<=1099511627776 then wN P N (List.replicate c.toNat z).flatten (.sl n 0 0 l.toNat sz) d r dead fs n T h Q else False:=by
 by_cases hc:0<=l/\l<=c/\bytes*c<=1099511627776/\c<=1099511627776
 ·simp only[aMakeSlice,if_pos hc];exact Qgm (x:=fun g=> .cells g (List.replicate c.toNat z).flatten) rfl
 ·simp only[aMakeSlice,if_neg hc];exact Qc1
theorem Qho {cs:List AV}:fillA cs []=some cs:=rfl
theorem Qgn {cs:List AV} {off size:Nat} {v:AV} {r:List (Nat×Nat×AV)}:fillA cs ((off,size,v)::r)=if v.cells.length=size/\off+size<=cs.length/\v.boxable=true then fillA (putR cs off v.cells) r else none:=rfl
theorem Qhp {z:List AV} {ps:List (Nat×Nat×AV)}:aBuild z ps=(fillA z ps).map AV.agg:=by unfold aBuild;cases fillA z ps<;>rfl
theorem Qhq {k:IntKind} {a:Int}:(AV.int k a).cells=[.int k a]:=rfl
theorem Qhr {cs:List AV}:(AV.agg cs).cells=cs:=rfl
theorem QiM {b g off len sz:Nat}:(AV.sl b g off len sz).cells=[.sl b g off len sz]:=rfl
theorem Qhs {cs:List AV} {len sz:Nat}:(AV.fsl cs len sz).cells=[.fsl cs len sz]:=rfl
theorem Qfq:AV.nilsl.cells=[.nilsl]:=rfl
theorem Qkc {k:IntKind} {a:Int}:(AV.int k a).boxable=true:=rfl
theorem Qkd {cs:List AV}:(AV.agg cs).boxable=true:=rfl
theorem QlU {b g off len sz:Nat}:(AV.sl b g off len sz).boxable=true:=rfl
theorem Qke {cs:List AV} {len sz:Nat}:(AV.fsl cs len sz).boxable=true:=rfl
theorem Qht:AV.nilsl.boxable=true:=rfl
theorem Qkf {k:IntKind} {a:Int}:(AV.int k a).one=true:=rfl
theorem QlV {b g off len sz:Nat}:(AV.sl b g off len sz).one=true:=rfl
theorem Qkg {cs:List AV} {len sz:Nat}:(AV.fsl cs len sz).one=true:=rfl
theorem Qhu:AV.nilsl.one=true:=rfl
theorem QiN {cs:List AV} {off:Nat} {v:AV}:putR cs off [v]=cs.set off v:=rfl
theorem Qhv {cs:List AV} {off:Nat} {v w:AV} {vs:List AV}:putR cs off (v::w::vs)=cs.take off++(v::w::vs)++cs.drop (off+(v::w::vs).length):=rfl
def srcB (o:Option Blk) (g off len sz:Nat):Option (List AV):=
 match o with
 |some (.cells g' cs)=>if g'=g/\off+len*sz<=cs.length then some ((cs.drop off).take (len*sz))else none
 |_=>none
theorem Qb8 {g g' off len sz:Nat} {cs:List AV}:srcB (some (.cells g' cs)) g off len sz=if g'=g/\off+len*sz<=cs.length then some ((cs.drop off).take (len*sz))else none:=rfl
theorem QjD {sz bytes b g off len:Nat}:wM P N (aAppend .dyn n sz bytes .nilsl (.sl b g off (len+1) sz)) d r dead fs n T h Q=
  ∃ys,srcB (h.get b) g off (len+1) sz=some ys/\((len+1)*bytes<=1099511627776/\len+1<=1099511627776)/\ys.all AV.one=true/\wN P N ys (.sl n 0 0 (len+1) sz) d r dead fs n T h Q:=by
 simp only[aAppend,aSrc,if_true,slLen,Nat.zero_add,Qcw,Qck]
 apply propext;constructor
 ·rintro ⟨cs, hb, h1, h2, h3⟩
  rw[hb,Qb8,if_pos ⟨rfl,h1⟩]
  exact⟨_,rfl,⟨h2.1,h2.2.1⟩,h2.2.2,by rw[Qgm rfl]at h3;exact h3⟩
 ·rintro ⟨ys, hy, h2, h3, h4⟩
  unfold srcB at hy
  split at hy
  ·rename_i g' cs hb
   split at hy
   ·rename_i e
    obtain⟨rfl,e⟩:=e
    cases hy
    exact⟨cs,hb,e,⟨h2.1,h2.2,h3⟩,by rw[Qgm rfl];exact h4⟩
   ·cases hy
  ·cases hy
theorem Qk0 {sz bytes b g off len b2 g2 off2 len2:Nat}:wM P N (aAppend .dyn n sz bytes (.sl b2 g2 off2 len2 sz) (.sl b g off len sz)) d r dead fs n T h Q=
  ∃ys zs,srcB (h.get b) g off len sz=some ys/\srcB (h.get b2) g2 off2 len2 sz=some zs/\((len2+len)*bytes<=1099511627776/\len2+len<=1099511627776)/\ys.all AV.one=true/\
   wB P N (some (.cells (g2+1) (zs++ys))) b2 (.sl b2 (g2+1) 0 (len2+len) sz) d r dead fs n T h Q:=by
 simp only[aAppend,aSrc,if_true,slLen,Qcw,Qck,QeA]
 apply propext;constructor
 ·rintro ⟨cs, hb, h1, h2, cs2, hb2, h3, h4⟩
  rw[hb,hb2,Qb8,Qb8,if_pos ⟨rfl,h1⟩,if_pos ⟨rfl,h3⟩]
  exact⟨_,_,rfl,rfl,⟨h2.1,h2.2.1⟩,h2.2.2,h4⟩
 ·rintro ⟨ys, zs, hy, hz, h2, h3, h4⟩
  unfold srcB at hy hz
  split at hy
  ·rename_i g' cs hb
   split at hy
   ·rename_i e
    obtain⟨rfl,e⟩:=e
    cases hy
    split at hz
    ·rename_i g3 cs2 hb2
     split at hz
     ·rename_i e2
      obtain⟨rfl,e2⟩:=e2
      cases hz
      exact⟨cs,hb,e,⟨h2.1,h2.2,h3⟩,cs2,hb2,e2,h4⟩
     ·cases hz
    ·cases hz
   ·cases hy
  ·cases hy
end
def Fresh (n:Nat) (h:Heap):Prop:=∀b,n<=b->h.get b=none
theorem Fresh.e {n:Nat}:Fresh n .e:=fun b _=>by simp[Tr.get]
theorem Fresh.le {n m:Nat} {h:Heap} (hf:Fresh n h) (hl:n<=m):Fresh m h:=fun b hb=>hf b (Nat.le_trans hl hb)
theorem Fresh.set {n k:Nat} {h:Heap} {x:Blk} (hf:Fresh n h) (hk:k<1099511627775) (hl:k<n):Fresh n (h.set k x):=fun b hb=>by
 rw[QaX hk (by omega)];exact hf b hb
end Go.AM
namespace Go.AM
variable {P:Program}
def FrzTo (h:Heap) (x y:AV):Prop:=∀(ok:Okc) (c:Ctx ok) (w:World) (v:Value),HRel c h w->VRel c w x v->VRel (lent c) w y v
def FrzL (h:Heap):List AV->List AV->Prop
 |[],[]=>True
 |x::xs,y::ys=>FrzTo h x y/\FrzL h xs ys
 |_,_=>False
variable {h:Heap}
theorem FrzTo.same (x:AV):FrzTo h x x:=fun _ c w v _ hv=>VRel.mono (QfF c w) _ _ hv
theorem FrzL.same:∀(xs:List AV),FrzL h xs xs
 |[]=>trivial
 |x::xs=>⟨.same x,FrzL.same xs⟩
theorem FrzL.length:∀{xs ys:List AV},FrzL h xs ys->ys.length=xs.length
 |[],[],_=>rfl
 |[],_::_,hh=>hh.elim
 |_::_,[],hh=>hh.elim
 |x::xs,y::ys,hh=>by simp[FrzL.length hh.2]
theorem FrzL.pre {ok:Okc} {c:Ctx ok} {w:World} (H:HRel c h w):∀{xs ys:List AV} {vs:List Value},FrzL h xs ys->VPre c w xs vs->VPre (lent c) w ys vs
 |[],[],_,_,_=>by simp[VPre]
 |[],_::_,_,hh,_=>hh.elim
 |_::_,[],_,hh,_=>hh.elim
 |x::xs,y::ys,vs,hh,hv=>by
  simp only[VPre]at hv⊢
  obtain⟨v,vs',rfl,g1,g2⟩:=hv
  exact⟨v,vs',rfl,hh.1 _ c w v H g1,FrzL.pre H hh.2 g2⟩
theorem FrzL.rels {ok:Okc} {c:Ctx ok} {w:World} (H:HRel c h w):∀{xs ys:List AV} {vs:List Value},FrzL h xs ys->VRels c w xs vs->VRels (lent c) w ys vs
 |[],[],_,_,hv=>by simpa[VRels]using hv
 |[],_::_,_,hh,_=>hh.elim
 |_::_,[],_,hh,_=>hh.elim
 |x::xs,y::ys,vs,hh,hv=>by
  simp only[VRels]at hv⊢
  obtain⟨v,vs',rfl,g1,g2⟩:=hv
  exact⟨v,vs',rfl,hh.1 _ c w v H g1,FrzL.rels H hh.2 g2⟩
theorem FrzTo.sl {b g off len sz : Nat} {cs ys : List AV} (hb : h.get b = some (.cells g cs)) (hl : off + len * sz <= cs.length) (hL : FrzL h ((cs.drop off).take (len * sz)) ys) :
    FrzTo h (.sl b g off len sz) (.fsl ys len sz):=fun _ c w v H hv=>by
  have hlen:=hL.length
  simp only[VRel]at hv
  rcases hv with⟨hp,rfl,rfl,rfl⟩|⟨cb,base,o,cap,C,e,fr,hp,rfl,hlc,hC,hcap⟩
  · have hys : ys = [] := by
      apply List.eq_nil_of_length_eq_zero
      rw[hlen];simp
    subst hys
    simp only[VRel];exact .inl (by simp)
  · obtain ⟨C', e', fr', hO, hC', hfr, hbs, hpre⟩ := H.here hb hp
    rw[hC]at hC';cases hC'
    by_cases h0:cap=0
    · have hl0 : len = 0 := by omega
      subst hl0
      have hys:ys=[]:=by
        apply List.eq_nil_of_length_eq_zero
        rw[hlen];simp
      subst hys
      simp only[VRel]
      exact .inr ⟨cb,o,cap,C,e,fr,rfl,hlc,by simp,.inr hO,hC,by simp[VPre]⟩
    · obtain ⟨rfl, hbd⟩ := hcap.resolve_left h0
      have hp2:=Qbt (len*sz) (QaU off hpre)
      rw[List.drop_drop]at hp2
      simp only[VRel]
      exact .inr ⟨cb,base+off,cap,C,e,fr,rfl,hlc,by rw[hlen];simp;omega,.inr hO,hC,hL.pre H hp2⟩
section
variable {N:NM} {n:Nat} {d:Option Nat} {af dead:List Nat} {r:List SOper} {T:Tmps} {Q:QC} {fs:List Fr}
end
end Go.AM
namespace Go.AM
variable {P:Program}
section
variable {N:NM} {n:Nat} {d:Option Nat} {dead:List Nat} {r:List SOper} {T:Tmps} {Q:QC} {fs:List Fr}
end
end Go.AM
namespace Go.AM
variable {P:Program}
abbrev HL:=List (Nat×Blk)
def hp:HL->Heap
 |[]=> .e
 |p::r=>(hp r).set p.1 p.2
theorem QlW:hp []= .e:=rfl
theorem Qb9 {b:Nat} {x:Blk} {r:HL}:hp ((b,x)::r)=(hp r).set b x:=rfl
theorem get_e {b:Nat}:Tr.get (α:=Blk) .e b=none:=by simp[Tr.get]
def lkS:List (Nat×Src)->Nat->Option Src
 |[],_=>none
 |(b,s)::r,k=>if k=b then some s else lkS r k
def srcNew (s:Src):List (Nat×Src)->Bool
 |[]=>true
 |(_,t)::r=>(match s,t with| .blk b _,.blk b' _=> !Nat.beq b b'|_,_=>true)&&srcNew s r
def okPs (m:Nat):List (Nat×Src)->HL->Bool
 |[],[]=>true
 |(b,s)::r,(b',_)::l=>Nat.beq b b'&&Nat.blt b 1099511627775&&(Nat.blt b m||((match s with| .blk k _=>Nat.ble m k| .nil=>true)&&srcNew s r))&&(r.all fun p=> !Nat.beq p.1 b)&&okPs m r l
 |_,_=>false
def ow (m:Nat) (ps:List (Nat×Src)):Nat->Option Src:=fun b=>if b<m then none else lkS ps b
def RB (m:Nat) (π:Nat->Option Src) (h:Heap):HL->Prop
 |[]=>True
 |(b',x)::r=>((b'<m/\BRn m π h (some (.blk b' x.gen)) x)\/(m<=b'/\x.gen=0/\(∀g,x≠ .dead g)/\BRn m π h (π b') x))/\RB m π h r
section
variable {m:Nat} {π:Nat->Option Src} {h:Heap}
theorem QlX:∀{L:HL} {ps:List (Nat×Src)},okPs m ps L=true->∀{b:Nat} {x:Blk},(hp L).get b=some x->(b,x)∈L
 |[],[],_,b,x,hx=>by simp[hp,Tr.get]at hx
 |[],_::_,hh,_,_,_=>by simp[okPs]at hh
 |(b',x')::L,[],hh,_,_,_=>by simp[okPs]at hh
 | (b', x') :: L, (k, s) :: ps, hh, b, x, hx => by
  simp only[okPs,Bool.and_eq_true,Nat.blt_eq,Nat.beq_eq]at hh
  obtain⟨⟨⟨⟨rfl,h3⟩,_⟩,_⟩,h4⟩:=hh
  simp only[hp]at hx
  by_cases e:b=k
  ·subst e
   rw[QaP h3]at hx;cases hx
   simp
  ·rw [QaX h3 e] at hx
   simp[QlX h4 hx]
theorem Qkh:∀{L:HL} {ps:List (Nat×Src)},okPs m ps L=true->∀{b:Nat},(hp L).get b=none->lkS ps b=none
 |[],[],_,b,_=>rfl
 |[],_::_,hh,_,_=>by simp[okPs]at hh
 |(b',x')::L,[],hh,_,_=>by simp[okPs]at hh
 | (b', x') :: L, (k, s) :: ps, hh, b, hx => by
  simp only[okPs,Bool.and_eq_true,Nat.blt_eq,Nat.beq_eq]at hh
  obtain⟨⟨⟨⟨rfl,h3⟩,_⟩,_⟩,h4⟩:=hh
  simp only[hp]at hx
  by_cases e:b=k
  ·subst e
   rw[QaP h3]at hx;cases hx
  ·rw [QaX h3 e] at hx
   simp only[lkS,if_neg e]
   exact Qkh h4 hx
theorem RB.mem:∀{L:HL},RB m π h L->∀{b:Nat} {x:Blk},(b,x)∈L->(b<m/\BRn m π h (some (.blk b x.gen)) x)\/(m<=b/\x.gen=0/\(∀g,x≠ .dead g)/\BRn m π h (π b) x)
 |[],_,_,_,hm=>by cases hm
 |(b',x')::L,hh,b,x,hm=>by
  rcases List.mem_cons.1 hm with e|hm
  ·cases e;exact hh.1
  ·exact RB.mem hh.2 hm
theorem QiO:∀{ps:List (Nat×Src)} {L:HL},okPs m ps L=true->∀{b b1 g:Nat},m<=b->lkS ps b=some (.blk b1 g)->m<=b1
 |[],_,_,_,_,_,_,hs=>by simp[lkS]at hs
 |_::_,[],hh,_,_,_,_,_=>by simp[okPs]at hh
 | (k, s) :: ps, (b', x') :: L, hh, b, b1, g, hb, hs => by
  simp only[okPs,Bool.and_eq_true,Bool.or_eq_true,Nat.blt_eq]at hh
  obtain⟨⟨⟨_,h3⟩,_⟩,h4⟩:=hh
  simp only[lkS]at hs
  split at hs
  ·rename_i e
   cases hs
   rcases h3 with h3|h3
   ·omega
   ·simpa using h3.1
  ·exact QiO h4 hb hs
theorem QeF:∀{ps:List (Nat×Src)} {b g b' g' k:Nat},srcNew (.blk b g) ps=true->lkS ps k=some (.blk b' g')->b≠b'
 |[],_,_,_,_,_,_,hs=>by simp[lkS]at hs
 | (j, s) :: ps, b, g, b', g', k, hh, hs => by
  simp only[srcNew,Bool.and_eq_true]at hh
  simp only[lkS]at hs
  split at hs
  ·cases hs
   have:=hh.1
   simp only[Bool.not_eq_true']at this
   intro e;subst e;simp at this
  ·exact QeF hh.2 hs
theorem QiP:∀{ps:List (Nat×Src)} {L:HL},okPs m ps L=true->∀{b1 b2 b g g2:Nat},m<=b1->m<=b2->lkS ps b1=some (.blk b g)->lkS ps b2=some (.blk b g2)->b1=b2
 |[],_,_,_,_,_,_,_,_,_,hs,_=>by simp[lkS]at hs
 |_::_,[],hh,_,_,_,_,_,_,_,_,_=>by simp[okPs]at hh
 | (k, s) :: ps, (b', x') :: L, hh, b1, b2, b, g, g2, m1, m2, h1, h2 => by
  simp only[okPs,Bool.and_eq_true,Bool.or_eq_true,Nat.blt_eq]at hh
  obtain⟨⟨⟨_,hn⟩,_⟩,h4⟩:=hh
  simp only[lkS]at h1 h2
  split at h1<;>split at h2
  ·rename_i e1 e2;rw[e1,e2]
  ·rename_i e1 e2
   cases h1
   rcases hn with hn|hn
   ·omega
   ·exact absurd rfl (QeF hn.2 h2)
  ·rename_i e1 e2
   cases h2
   rcases hn with hn|hn
   ·omega
   ·exact absurd rfl (QeF hn.2 h1)
  ·exact QiP h4 m1 m2 h1 h2
theorem Qki:∀{ps:List (Nat×Src)} {L:HL},okPs m ps L=true->∀{b:Nat} {s:Src},lkS ps b=some s->∃x,(b,x)∈L
 |[],_,_,_,_,hs=>by simp[lkS]at hs
 |_::_,[],hh,_,_,_=>by simp[okPs]at hh
 | (k, t) :: ps, (b', x') :: L, hh, b, s, hs => by
  simp only[okPs,Bool.and_eq_true,Nat.beq_eq]at hh
  obtain⟨⟨⟨⟨rfl,_⟩,_⟩,_⟩,h4⟩:=hh
  simp only[lkS]at hs
  split at hs
  ·rename_i e;subst e;exact⟨x',by simp⟩
  ·obtain ⟨x, hx⟩ := Qki h4 hs
   exact⟨x,by simp[hx]⟩
def RO (m:Nat) (L:HL) (h:Heap):Prop:=∀b,b<m->(∀p∈L,p.1≠b)->h.get b=none
theorem RO.zero {L:HL}:RO 0 L h:=fun b hb=>absurd hb (Nat.not_lt_zero _)
theorem RO.e {L:HL}:RO m L .e:=fun b _ _=>get_e
theorem RO.set {L:HL} {k:Nat} {x:Blk} (hk:(Nat.blt k 1099511627775&&(Nat.ble m k||L.any fun p=>Nat.beq p.1 k))=true) (hr:RO m L h):RO m L (h.set k x):=fun b hb hn=>by
 simp only[Bool.and_eq_true,Bool.or_eq_true,Nat.blt_eq,Nat.ble_eq,List.any_eq_true,Nat.beq_eq]at hk
 obtain⟨h1,h2⟩:=hk
 have:b≠k:=by
  rintro rfl
  rcases h2 with h2|⟨p,hp,h2⟩
  ·omega
  ·exact hn p hp h2
 rw[QaX h1 this];exact hr b hb hn
def Rec (m:Nat) (T':Tmps) (L:HL) (T:Tmps) (h:Heap):Prop:=∃ps,okPs m ps L=true/\RO m L h/\RB m (ow m ps) h L/\RT m (ow m ps) h T' T
theorem ow_ge {ps:List (Nat×Src)} {b:Nat} (hb:m<=b):ow m ps b=lkS ps b:=if_neg (by omega)
theorem Rec.maps {ps:List (Nat×Src)} {L:HL} (ho:okPs m ps L=true) (hb:RB m (ow m ps) h L):Maps m (ow m ps) h:=by
 refine⟨fun b' b g hm hs=>?_,fun b1 b2 b g g2 m1 m2 h1 h2=>QiP ho m1 m2 (by rw[<-ow_ge m1];exact h1) (by rw[<-ow_ge m2];exact h2)⟩
 rw[ow_ge hm]at hs
 refine⟨?_,QiO ho hm hs⟩
 obtain⟨x,hx⟩:=Qki ho hs
 rcases hb.mem hx with⟨q0,_⟩|⟨_,q1,q2,q3⟩
 ·omega
 rw[ow_ge hm,hs]at q3
 cases x with
 |cells g' cs=>obtain⟨ds,_,k1,_⟩:=q3;exact⟨_,k1,rfl,fun k=>by simp⟩
 |map g' es=>obtain⟨ds,k1,_⟩:=q3;exact⟨_,k1,rfl,fun k=>by simp⟩
 |loop g' N T ps asg body st=>obtain⟨T0,k1,_⟩:=q3;exact⟨_,k1,rfl,fun k=>by simp⟩
 |dead g'=>exact absurd rfl (q2 g')
theorem Rec.heap {ps:List (Nat×Src)} {L:HL} (ho:okPs m ps L=true) (hb:RB m (ow m ps) h L):RH m (ow m ps) h (hp L):=fun b' x' hx=>hb.mem (QlX ho hx)
theorem QlY:∀{L:HL} {ps:List (Nat×Src)},okPs m ps L=true->∀{b:Nat},(hp L).get b=none->∀p∈L,p.1≠b
 |[],_,_,_,_,p,hp=>by cases hp
 |(b',x')::L,[],hh,_,_,_,_=>by simp[okPs]at hh
 | (b', x') :: L, (k, s) :: ps, hh, b, hx, p, hpm => by
  simp only[okPs,Bool.and_eq_true,Nat.blt_eq,Nat.beq_eq]at hh
  obtain⟨⟨⟨⟨rfl,h3⟩,_⟩,_⟩,h4⟩:=hh
  simp only[hp]at hx
  by_cases e:b=k
  ·subst e;rw[QaP h3]at hx;cases hx
  ·rw [QaX h3 e] at hx
   rcases List.mem_cons.1 hpm with rfl|hpm
   ·exact fun e2=>e e2.symm
   ·exact QlY h4 hx p hpm
theorem Rec.dom {ps:List (Nat×Src)} {L:HL} (ho:okPs m ps L=true) (hr:RO m L h):RD m (ow m ps) h (hp L):=fun b' hx=>
 ⟨fun hlt=>hr b' hlt (QlY ho hx),fun hge=>by rw[ow_ge hge];exact Qkh ho hx⟩
theorem W2.recL {sc:SCode} {n:Nat} {Q:SX->St->Prop} {T T':Tmps} {L:HL} (hr:Rec m T' L T h) (hw:W2 P ⟨n,m⟩ sc Q ⟨T',hp L⟩):W2 P ⟨n,m⟩ sc Q ⟨T,h⟩:=by
 obtain⟨ps,ho,hro,hb,ht⟩:=hr
 exact W2.recast (N:=⟨n,m⟩) (Rec.maps ho hb) (Rec.heap ho hb) (Rec.dom ho hro) ht hw
theorem W2.post {sc:SCode} {k:Nat} {Q:SX->St->Prop} {A:St} (hw:W2 P ⟨k,m⟩ sc (fun e B=>Q e B\/∃T' L,Rec m T' L B.T B.h/\Q e ⟨T',hp L⟩) A):W2 P ⟨k,m⟩ sc Q A:=by
 intro code hok c a w S ro hro Q' hQ
 refine hw code hok c a w S ro hro Q' ?_
 rintro e B c' a' w' (hq|⟨T',L,⟨ps,ho,hro,hb,ht⟩,hq⟩) S' E'
 ·exact hQ e B c' a' w' hq S' E'
 ·have M := Rec.maps ho hb
  exact hQ e ⟨T',hp L⟩ (nctx m (ow m ps) B.h c') a' w' hq ⟨(Rec.heap ho hb).hrel (Rec.dom ho hro) M S'.heap,fun i=>ht i _ c' w' _ S'.heap M (S'.tmps i),S'.size,S'.defers.mono2 (Qdd (m:=m) (π:=ow m ps) (h:=B.h) c' w')⟩ (E'.trans (Qdd c' w'))
theorem RT.nil {T:Tmps}:RT m π h [] T:=fun _=>Rn.any
theorem RT.cons {T' T:Tmps} {j:Nat} {v:AV} (hv:Rn m π h v (lk T j)) (hr:RT m π h T' T):RT m π h ((j,v)::T') T:=by
 intro i
 rw[QaF]
 split
 ·rename_i e;subst e;exact hv
 ·exact hr i
theorem RB.nil:RB m π h []:=trivial
theorem RB.cells {b b' g:Nat} {cs ds:List AV} {r:HL} (hm:Nat.ble m b'=true) (hp:π b'=some (.blk b g)) (hg:h.get b=some (.cells g ds)) (hc:RnL m π h cs ds) (hr:RB m π h r):RB m π h ((b',.cells 0 cs)::r):=
 ⟨.inr ⟨Nat.le_of_ble_eq_true hm,rfl,fun _=>by simp,by rw[hp];exact⟨ds,ds.length,hg,by rw[List.take_length];exact hc⟩⟩,hr⟩
theorem RB.newnil {b':Nat} {r:HL} (hm:Nat.ble m b'=true) (hp:π b'=some .nil) (hr:RB m π h r):RB m π h ((b',.cells 0 [])::r):=⟨.inr ⟨Nat.le_of_ble_eq_true hm,rfl,fun _=>by simp,by rw[hp];rfl⟩,hr⟩
theorem RB.map {b b' g:Nat} {es fs:List (AV×AV)} {r:HL} (hm:Nat.ble m b'=true) (hp:π b'=some (.blk b g)) (hg:h.get b=some (.map g fs)) (hc:RnM m π h es fs) (hr:RB m π h r):RB m π h ((b',.map 0 es)::r):=
 ⟨.inr ⟨Nat.le_of_ble_eq_true hm,rfl,fun _=>by simp,by rw[hp];exact⟨fs,hg,hc⟩⟩,hr⟩
theorem RB.cellsB {b g:Nat} {cs ds:List AV} {r:HL} (hm:Nat.blt b m=true) (hg:h.get b=some (.cells g ds)) (hc:RnL m π h cs ds) (hr:RB m π h r):RB m π h ((b,.cells g cs)::r):=
 ⟨.inl ⟨by simpa using hm,ds,ds.length,hg,by rw[List.take_length];exact hc⟩,hr⟩
theorem RB.mapB {b g:Nat} {es fs:List (AV×AV)} {r:HL} (hm:Nat.blt b m=true) (hg:h.get b=some (.map g fs)) (hc:RnM m π h es fs) (hr:RB m π h r):RB m π h ((b,.map g es)::r):=
 ⟨.inl ⟨by simpa using hm,fs,hg,hc⟩,hr⟩
theorem Qkj {s:Src}:∀{ps:List (Nat×Src)},srcNew s ps=true->∀b' g',lkS ps b'=some g'->(match s,g' with| .blk b _,.blk b2 _=>b≠b2|_,_=>True)
 |[],_,b',g',hs=>by simp[lkS]at hs
 | (j, t) :: ps, hh, b', g', hs => by
  simp only[srcNew,Bool.and_eq_true]at hh
  simp only[lkS]at hs
  split at hs
  ·cases hs
   have:=hh.1
   cases s<;>cases t<;>simp_all
   intro e;subst e;simp at this
  ·exact Qkj hh.2 b' g' hs
theorem RnL.nil {m:Nat} {π:Nat->Option Src} {h:Heap}:RnL m π h [] []:=trivial
theorem RnL.cons {m:Nat} {π:Nat->Option Src} {h:Heap} {x y:AV} {xs ys:List AV} (h1:Rn m π h x y) (h2:RnL m π h xs ys):RnL m π h (x::xs) (y::ys):=⟨h1,h2⟩
theorem Rn.fz {ps:List (Nat×Src)} {b g len sz:Nat} {cs ds:List AV} (hb:h.get b=some (.cells g ds)) (hn:srcNew (.blk b g) ps=true) (hm:Nat.ble m b=true) (hl:ds.length=len*sz)
  (hL:RnL m (ow m ps) h cs ds):Rn m (ow m ps) h (.fsl cs len sz) (.sl b g 0 len sz):=by
 refine Rn.frz hb (by simpa using hm) (fun b' g' hb' e=>?_) (by omega) ?_
 ·rw[ow_ge hb']at e;exact Qkj hn b' _ e rfl
 ·rw[List.drop_zero,<-hl,List.take_length];exact hL
theorem Rn.fzm {ps:List (Nat×Src)} {b g len sz k:Nat} {cs ds:List AV} (hb:h.get b=some (.cells g ds)) (hn:srcNew (.blk b g) ps=true) (hm:Nat.ble m b=true) (hk:k=len) (hl:ds.length=len*sz)
  (hL:RnL m (ow m ps) h cs ds):Rn m (ow m ps) h (.fsl cs k sz) (.sl b g 0 len sz):=by subst hk;exact Rn.fz hb hn hm hl hL
theorem Rn.fz0 {b g len sz:Nat} {cs ds:List AV} (hb:h.get b=some (.cells g ds)) (hl:ds.length=len*sz)
  (hL:RnL 0 π0 h cs ds):Rn 0 π0 h (.fsl cs len sz) (.sl b g 0 len sz):=by
 refine Rn.frz hb (Nat.zero_le _) (fun b' g' _ e=>by simp[π0]at e) (by omega) ?_
 rw[List.drop_zero,<-hl,List.take_length];exact hL
end
theorem Rn.slot {m:Nat} {π:Nat->Option Src} {h:Heap} {T:Tmps} {j:Nat} {v:AV} (hv:lk T j=v) (hn:noRef v=true):Rn m π h v (lk T j):=by rw[hv];exact Rn.same hn
section
variable {m:Nat} {π:Nat->Option Src} {h:Heap}
theorem Rn.x1 {b' b g off len sz:Nat} (hm:Nat.ble m b'=true) (hp:π b'=some (.blk b g)):Rn m π h (.sl b' 0 off len sz) (.sl b g off len sz):=Rn.sl (Nat.le_of_ble_eq_true hm) hp
theorem Rn.x2 {b' b g off:Nat} (hm:Nat.ble m b'=true) (hp:π b'=some (.blk b g)):Rn m π h (.ptr b' 0 off) (.ptr b g off):=Rn.ptr (Nat.le_of_ble_eq_true hm) hp
theorem Rn.x3 {b' b g:Nat} (hm:Nat.ble m b'=true) (hp:π b'=some (.blk b g)):Rn m π h (.map b' 0) (.map b g):=Rn.map (Nat.le_of_ble_eq_true hm) hp
theorem Rn.x4 {b' sz:Nat} (hm:Nat.ble m b'=true) (hp:π b'=some .nil):Rn m π h (.sl b' 0 0 0 sz) .nilsl:=Rn.slnil (Nat.le_of_ble_eq_true hm) hp
theorem Rn.x5 {b g off len sz:Nat} (hm:Nat.ble (b+1) m=true):Rn m π h (.sl b g off len sz) (.sl b g off len sz):=Rn.slB (Nat.le_of_ble_eq_true hm)
theorem Rn.x6 {b g off:Nat} (hm:Nat.ble (b+1) m=true):Rn m π h (.ptr b g off) (.ptr b g off):=Rn.ptrB (Nat.le_of_ble_eq_true hm)
theorem Rn.x7 {b g:Nat} (hm:Nat.ble (b+1) m=true):Rn m π h (.map b g) (.map b g):=Rn.mapB (Nat.le_of_ble_eq_true hm)
end
section
variable {k m n:Nat} {T:Tmps} {h:Heap} {Q:QC} {fs:List Fr} {α:Type} {env:α->Tmps} {H:α->HL} {I:α->Prop} {μ:α->Nat} {a:α}
def loopR (P:Program) (k m:Nat) {α:Type} (env:α->Tmps) (H:α->HL) (I:α->Prop) (μ:α->Nat) (a:α) (fs:List Fr) (Q:QC):QC:=fun e T h n=>
 match e with
 | .normal=>∃a',μ a'<μ a/\I a'/\Rec m (env a') (H a') T h
 |e=>wX P ⟨k,m⟩ e fs n T h Q
theorem QeG:loopR P k m env H I μ a fs Q .normal T h n=∃a',μ a'<μ a/\I a'/\Rec m (env a') (H a') T h:=rfl
theorem Qgo {i:Nat}:loopR P k m env H I μ a fs Q (.exit i) T h n=wX P ⟨k,m⟩ (.exit i) fs n T h Q:=rfl
theorem Qhw:loopR P k m env H I μ a fs Q .ret T h n=wX P ⟨k,m⟩ .ret fs n T h Q:=rfl
theorem Qat {b:SCode} (n0:Nat) (env:α->Tmps) (H:α->HL) (I:α->Prop) (μ:α->Nat) (a0:α)
  (h0:Rec m (env a0) (H a0) T h) (hI:I a0) (round:∀a,I a->wS P ⟨k,m⟩ b [] n0 (env a) (hp (H a)) (loopR P k m env H I μ a fs Q)):wS P ⟨k,m⟩ (.loop b) fs n T h Q:=by
 show W2 P ⟨k,m⟩ (.loop b) (fun e B=>∃n,ct P ⟨k,m⟩ fs Q e B.T B.h n) ⟨T,h⟩
 refine W2.loop (fun q B=>∃a,μ a=q/\I a/\Rec m (env a) (H a) B.T B.h) (μ a0) ⟨a0,rfl,hI,h0⟩ ?_
 rintro q B ⟨a,rfl,hi,hr⟩
 refine W2.recL hr ((wpC.toW (round a hi)).mono ?_)
 rintro e C ⟨n2,hq⟩
 cases e with
 |normal=>obtain⟨a',h1,h2,h3⟩:=hq;exact⟨μ a',h1,a',rfl,h2,h3⟩
 |exit i=>exact⟨n2,hq⟩
 |ret=>exact⟨n2,hq⟩
def loopX (P:Program) (k m:Nat) {α β:Type} (env:α->Tmps) (H:α->HL) (I:α->Prop) (μ:α->Nat) (i:Nat) (T1:β->Tmps) (L1:β->HL) (J:β->Prop) (a:α) (fs:List Fr) (Q:QC):QC:=fun e T h n=>
 match e with
 | .normal=>∃a',μ a'<μ a/\I a'/\Rec m (env a') (H a') T h
 | .exit j=>if j=i then ∃b,J b/\Rec m (T1 b) (L1 b) T h else wX P ⟨k,m⟩ (.exit j) fs n T h Q
 | .ret=>wX P ⟨k,m⟩ .ret fs n T h Q
section
variable {β:Type} {i:Nat} {T1:β->Tmps} {L1:β->HL} {J:β->Prop}
theorem QeH:loopX P k m env H I μ i T1 L1 J a fs Q .normal T h n=∃a',μ a'<μ a/\I a'/\Rec m (env a') (H a') T h:=rfl
theorem Qd6 {j:Nat}:loopX P k m env H I μ i T1 L1 J a fs Q (.exit j) T h n=if j=i then ∃b,J b/\Rec m (T1 b) (L1 b) T h else wX P ⟨k,m⟩ (.exit j) fs n T h Q:=rfl
theorem Qhx:loopX P k m env H I μ i T1 L1 J a fs Q .ret T h n=wX P ⟨k,m⟩ .ret fs n T h Q:=rfl
end
theorem Qax {b:SCode} {β:Type} (n0:Nat) (env:α->Tmps) (H:α->HL) (I:α->Prop) (μ:α->Nat) (a0:α) (i n1:Nat) (T1:β->Tmps) (L1:β->HL) (J:β->Prop)
  (h0:Rec m (env a0) (H a0) T h) (hI:I a0) (round:∀a,I a->wS P ⟨k,m⟩ b [] n0 (env a) (hp (H a)) (loopX P k m env H I μ i T1 L1 J a fs Q))
  (cont:∀b,J b->wX P ⟨k,m⟩ (.exit i) fs n1 (T1 b) (hp (L1 b)) Q):wS P ⟨k,m⟩ (.loop b) fs n T h Q:=by
 show W2 P ⟨k,m⟩ (.loop b) (fun e B=>∃n,ct P ⟨k,m⟩ fs Q e B.T B.h n) ⟨T,h⟩
 refine W2.post ?_
 refine W2.loop (fun q B=>∃a,μ a=q/\I a/\Rec m (env a) (H a) B.T B.h) (μ a0) ⟨a0,rfl,hI,h0⟩ ?_
 rintro q B ⟨a,rfl,hi,hr⟩
 refine W2.recL hr ((wpC.toW (round a hi)).mono ?_)
 rintro e C ⟨n2,hq⟩
 cases e with
 |normal=>obtain⟨a',h1,h2,h3⟩:=hq;exact⟨μ a',h1,a',rfl,h2,h3⟩
 | exit j =>
  replace hq:loopX P k m env H I μ i T1 L1 J a fs Q (.exit j) C.T C.h n2:=hq
  rw[Qd6]at hq
  split at hq
  ·rename_i e; subst e
   obtain⟨b,hJ,hr⟩:=hq
   exact .inr ⟨_,_,hr,n1,cont b hJ⟩
  ·exact .inl ⟨n2,hq⟩
 |ret=>exact .inl ⟨n2,hq⟩
end
section
variable {N:NM} {n:Nat} {d:Option Nat} {af dead:List Nat} {r:List SOper} {T:Tmps} {h:Heap} {Q:QC} {fs:List Fr}
def wA (P:Program) (N:NM) (zs ys:Option (List AV)) (g len2 len sz bytes b:Nat) (d:Option Nat) (ops:List SOper) (dead:List Nat) (fs:List Fr) (n:Nat) (T:Tmps) (h:Heap) (Q:QC):Prop:=
 ∃ y z, ys = some y /\ zs = some z /\ ((len2 + len) * bytes <= 1099511627776 /\ len2 + len <= 1099511627776) /\ y.all AV.one = true /\
   wB P N (some (.cells (g+1) (z++y))) b (.sl b (g+1) 0 (len2+len) sz) d ops dead fs n T h Q
theorem Qfr {sz bytes b g off len b2 g2 off2 len2:Nat}:wM P N (aAppend .dyn n sz bytes (.sl b2 g2 off2 len2 sz) (.sl b g off len sz)) d r dead fs n T h Q=
  wA P N (srcB (h.get b2) g2 off2 len2 sz) (srcB (h.get b) g off len sz) g2 len2 len sz bytes b2 d r dead fs n T h Q:=by
 rw[Qk0]
 apply propext;constructor
 ·rintro⟨ys,zs,h1,h2,h3,h4,h5⟩;exact⟨ys,zs,h1,h2,h3,h4,h5⟩
 ·rintro⟨ys,zs,h1,h2,h3,h4,h5⟩;exact⟨ys,zs,h1,h2,h3,h4,h5⟩
theorem Qkk {zs ys:List AV} {g len2 len sz bytes b:Nat} (h1:(len2+len)*bytes<=1099511627776) (h2:len2+len<=1099511627776):
  wA P N (some zs) (some ys) g len2 len sz bytes b d r dead fs n T h Q=if ys.all AV.one=true then wB P N (some (.cells (g+1) (zs++ys))) b (.sl b (g+1) 0 (len2+len) sz) d r dead fs n T h Q else False:=by
 by_cases ho:ys.all AV.one=true
 ·rw [if_pos ho]; apply propext; constructor
  ·rintro⟨y,z,e1,e2,_,_,h5⟩;cases e1;cases e2;exact h5
  ·intro h5;exact⟨ys,zs,rfl,rfl,⟨h1,h2⟩,ho,h5⟩
 ·rw [if_neg ho]; apply propext; constructor
  ·rintro⟨y,z,e1,e2,_,h4,h5⟩;cases e1;exact ho h4
  ·exact fun h=>h.elim
theorem QiQ {g len sz:Nat} {cs:List AV} (hl:cs.length=len*sz):srcB (some (.cells g cs)) g 0 len sz=some cs:=by
 rw[Qb8,if_pos ⟨rfl,by omega⟩,List.drop_zero,<-hl,List.take_length]
end
end Go.AM
namespace Go.AM
theorem words:type_of% @QjN/\type_of% @Qlw/\type_of% @QjO/\type_of% @Qg4/\type_of% @Qlx/\type_of% @QjP/\type_of% @Qig/\type_of% @QjQ/\type_of% @Qih/\type_of% @QjR/\type_of% @Qly/\type_of% @wX_sq/\type_of% @Qg5/\type_of% @Qf7/\type_of% @Qlz/\type_of% @Qf8/\type_of% @Qfc/\type_of% @QeD/\type_of% @Qgi/\type_of% @Qhl/\type_of% @ev_t/\type_of% @ev_c/\type_of% @ev_f/\type_of% @QlA/\type_of% @QaF/\type_of% @QgC/\type_of% @QlB/\type_of% @QlC/\type_of% @rm_no/\type_of% @QjS/\type_of% @Qg6/\type_of% @Qg7/\type_of% @Qii/\type_of% @Qg8/\type_of% @QjT/\type_of% @Qij/\type_of% @Qik/\type_of% @Qil/\type_of% @Qfd/\type_of% @Qez/\type_of% @QlD/\type_of% @Qim/\type_of% @QjU/\type_of% @QjV/\type_of% @QlE/\type_of% @QjW/\type_of% @QjX/\type_of% @Qin/\type_of% @Qg9/\type_of% @QlF/\type_of% @wR_eq/\type_of% @wR_un/\type_of% @QjY/\type_of% @Qde/\type_of% @Qip/\type_of% @Qiq/\type_of% @Qir/\type_of% @Qis/\type_of% @Qit/\type_of% @Qf9/\type_of% @Qha/\type_of% @Qiu/\type_of% @QlH/\type_of% @Qhb/\type_of% @QjZ/\type_of% @Qiv/\type_of% @Qiw/\type_of% @Qga/\type_of% @Qhc/\type_of% @Qj0/\type_of% @QlI/\type_of% @Qhd/\type_of% @Qj1/\type_of% @Qj2/\type_of% @Qc0/\type_of% @Qix/\type_of% @QlJ/\type_of% @QbK/\type_of% @QgD/\type_of% @Qhg/\type_of% @Qfe/\type_of% @Qff/\type_of% @Qgb/\type_of% @Qhh/\type_of% @Qiz/\type_of% @Qhi/\type_of% @Qfg/\type_of% @Qhj/\type_of% @Qhe/\type_of% @Qhf/\type_of% @QfJ/\type_of% @QfK/\type_of% @QfL/\type_of% @QfM/\type_of% @QiA/\type_of% @QiB/\type_of% @Qdf/\type_of% @Qdg/\type_of% @Qdh/\type_of% @Qdi/\type_of% @Qdj/\type_of% @Qdk/\type_of% @Qj4/\type_of% @Qj5/\type_of% @QeB/\type_of% @Qgd/\type_of% @Qfh/\type_of% @Qgc/\type_of% @QeC/\type_of% @QiC/\type_of% @QiD/\type_of% @QlK/\type_of% @wr_u8/\type_of% @QlM/\type_of% @QlN/\type_of% @QlL/\type_of% @QlO/\type_of% @Qge/\type_of% @Qhk/\type_of% @Qgf/\type_of% @Qfi/\type_of% @Qgg/\type_of% @Qfj/\type_of% @Qfk/\type_of% @Qfl/\type_of% @List.elem_cons.{0}/\type_of% @List.elem_nil.{0}/\type_of% @Bool.false_eq_true/\type_of% @Bool.true_eq_false/\type_of% @List.getElem?_cons_zero.{0}/\type_of% @List.getElem?_cons_succ.{0}/\type_of% @decide_eq_true_eq/\type_of% @decide_eq_false_iff_not/\type_of% @decide_true/\type_of% @decide_false/\type_of% @Bool.not_true/\type_of% @Bool.not_false/\type_of% @Bool.not_eq_true'/\type_of% @Bool.not_eq_eq_eq_not/\type_of% @List.nil_append.{0}/\type_of% @List.append_nil.{0}/\type_of% @List.cons_append.{0}/\type_of% @and_true/\type_of% @true_and/\type_of% @Int.natCast_nonneg/\type_of% @Int.toNat_natCast/\type_of% @Nat.mul_one/\type_of% @Nat.zero_add/\type_of% @Int.toNat_zero/\type_of% @Qgj/\type_of% @QiE/\type_of% @Qj6/\type_of% @Qgh:=
 ⟨@QjN,@Qlw,@QjO,@Qg4,@Qlx,@QjP,@Qig,@QjQ,@Qih,@QjR,@Qly,@wX_sq,@Qg5,@Qf7,@Qlz,@Qf8,@Qfc,@QeD,@Qgi,@Qhl,@ev_t,@ev_c,@ev_f,@QlA,@QaF,@QgC,@QlB,@QlC,@rm_no,@QjS,@Qg6,@Qg7,@Qii,@Qg8,@QjT,@Qij,@Qik,@Qil,@Qfd,@Qez,@QlD,@Qim,@QjU,@QjV,@QlE,@QjW,@QjX,@Qin,@Qg9,@QlF,@wR_eq,@wR_un,@QjY,@Qde,@Qip,@Qiq,@Qir,@Qis,@Qit,@Qf9,@Qha,@Qiu,@QlH,@Qhb,@QjZ,@Qiv,@Qiw,@Qga,@Qhc,@Qj0,@QlI,@Qhd,@Qj1,@Qj2,@Qc0,@Qix,@QlJ,@QbK,@QgD,@Qhg,@Qfe,@Qff,@Qgb,@Qhh,@Qiz,@Qhi,@Qfg,@Qhj,@Qhe,@Qhf,@QfJ,@QfK,@QfL,@QfM,@QiA,@QiB,@Qdf,@Qdg,@Qdh,@Qdi,@Qdj,@Qdk,@Qj4,@Qj5,@QeB,@Qgd,@Qfh,@Qgc,@QeC,@QiC,@QiD,@QlK,@wr_u8,@QlM,@QlN,@QlL,@QlO,@Qge,@Qhk,@Qgf,@Qfi,@Qgg,@Qfj,@Qfk,@Qfl,@List.elem_cons.{0},@List.elem_nil.{0},@Bool.false_eq_true,@Bool.true_eq_false,@List.getElem?_cons_zero.{0},@List.getElem?_cons_succ.{0},@decide_eq_true_eq,@decide_eq_false_iff_not,@decide_true,@decide_false,@Bool.not_true,@Bool.not_false,@Bool.not_eq_true',@Bool.not_eq_eq_eq_not,@List.nil_append.{0},@List.append_nil.{0},@List.cons_append.{0},@and_true,@true_and,@Int.natCast_nonneg,@Int.toNat_natCast,@Nat.mul_one,@Nat.zero_add,@Int.toNat_zero,@Qgj,@QiE,@Qj6,@Qgh⟩
theorem wordsN:type_of% @QiL/\type_of% @QdN/\type_of% @Qdw/\type_of% @Qhp/\type_of% @Option.map_some.{0,0}/\type_of% @QgI/\type_of% @wN_go/\type_of% @wB_go/\type_of% @QaP/\type_of% @QaX/\type_of% @Qho/\type_of% @Qgn/\type_of% @Qhq/\type_of% @Qhr/\type_of% @QiM/\type_of% @Qhs/\type_of% @Qfq/\type_of% @Qkc/\type_of% @Qkd/\type_of% @QlU/\type_of% @Qke/\type_of% @Qht/\type_of% @Qkf/\type_of% @QlV/\type_of% @Qkg/\type_of% @Qhu/\type_of% @QiN/\type_of% @List.set_cons_zero.{0}/\type_of% @List.set_cons_succ.{0}/\type_of% @List.length_cons.{0}/\type_of% @List.length_nil.{0}/\type_of% @List.all_cons.{0}/\type_of% @List.all_nil.{0}/\type_of% @Bool.and_true/\type_of% @Bool.true_and/\type_of% @List.drop_zero.{0}/\type_of% @List.drop_succ_cons.{0}/\type_of% @List.take_succ_cons.{0}/\type_of% @List.take_zero.{0}/\type_of% @List.head?_cons.{0}/\type_of% @Qhv/\type_of% @Nat.le_refl/\type_of% @Int.cast_ofNat_Int/\type_of% @Int.natCast_zero/\type_of% @Int.natCast_one:=
 ⟨@QiL,@QdN,@Qdw,@Qhp,@Option.map_some.{0,0},@QgI,@wN_go,@wB_go,@QaP,@QaX,@Qho,@Qgn,@Qhq,@Qhr,@QiM,@Qhs,@Qfq,@Qkc,@Qkd,@QlU,@Qke,@Qht,@Qkf,@QlV,@Qkg,@Qhu,@QiN,@List.set_cons_zero.{0},@List.set_cons_succ.{0},@List.length_cons.{0},@List.length_nil.{0},@List.all_cons.{0},@List.all_nil.{0},@Bool.and_true,@Bool.true_and,@List.drop_zero.{0},@List.drop_succ_cons.{0},@List.take_succ_cons.{0},@List.take_zero.{0},@List.head?_cons.{0},@Qhv,@Nat.le_refl,@Int.cast_ofNat_Int,@Int.natCast_zero,@Int.natCast_one⟩
theorem wordsR:type_of% @QlW/\type_of% @Qb9/\type_of% @get_e/\type_of% @QeG/\type_of% @Qgo/\type_of% @Qhw/\type_of% @QeH/\type_of% @Qd6/\type_of% @Qhx/\type_of% @Qfr/\type_of% @Qkk/\type_of% @QiQ/\type_of% @Int.ofNat_lt/\type_of% @Int.ofNat_le/\type_of% @Int.ofNat_inj/\type_of% @Int.natCast_pos/\type_of% @Int.natCast_add/\type_of% @List.length_map.{0,0}/\type_of% @List.length_append.{0}/\type_of% @List.take_length.{0}/\type_of% @Nat.zero_mul/\type_of% @Nat.one_mul/\type_of% @Nat.add_zero/\type_of% @Int.zero_add/\type_of% @Nat.not_lt_zero/\type_of% @Int.le_refl/\type_of% @not_true/\type_of% @not_false_iff/\type_of% @Nat.lt_irrefl/\type_of% @Int.lt_irrefl:=
 ⟨@QlW,@Qb9,@get_e,@QeG,@Qgo,@Qhw,@QeH,@Qd6,@Qhx,@Qfr,@Qkk,@QiQ,@Int.ofNat_lt,@Int.ofNat_le,@Int.ofNat_inj,@Int.natCast_pos,@Int.natCast_add,@List.length_map.{0,0},@List.length_append.{0},@List.take_length.{0},@Nat.zero_mul,@Nat.one_mul,@Nat.add_zero,@Int.zero_add,@Nat.not_lt_zero,@Int.le_refl,@not_true,@not_false_iff,@Nat.lt_irrefl,@Int.lt_irrefl⟩
end Go.AM
namespace Go.AM
variable {P:Program}
section
variable {h:Heap}
end
section
variable {h:Heap}
theorem FrzTo.fn {f:Nat} {xs ys us vs:List AV} (hL:FrzL h xs ys) (hK:FrzL h us vs):FrzTo h (.fn f xs us) (.fn f ys vs):=fun _ c w v H hv=>by
 simp only[VRel]at hv⊢
 obtain⟨x',y',rfl,h1,h2⟩:=hv
 exact⟨x',y',rfl,hL.rels H h1,hK.rels H h2⟩
theorem FrzTo.ptr {b g off:Nat} {cs ys:List AV} (hb:h.get b=some (.cells g cs)) (hL:FrzL h (cs.drop off) ys):FrzTo h (.ptr b g off) (.fptr ys):=fun _ c w v H hv=>by
 simp only[VRel]at hv
 obtain⟨cb,base,hp,rfl⟩:=hv
 obtain⟨C',e',fr',hO,hC',hfr,hbs,hpre⟩:=H.here hb hp
 have hp2:=QaU off hpre
 rw[List.drop_drop]at hp2
 simp only[VRel]
 exact⟨cb,base+off,C',e',fr',rfl,.inr hO,hC',hL.pre H hp2⟩
theorem HSpec.lend {f:Nat} {args bs:List AV} {v:AV} (hL:FrzL h args bs) (hp:PSpec P f bs v) (hv:flatV v=true):HSpec P f args h v h:=by
 obtain⟨h',hc,_⟩:=hp.2.2
 exact⟨hc,fun c w cargs H ha=>(hp.borrow hv H (hL.rels H ha)).2⟩
end
end Go.AM
namespace Go.AM
variable {P:Program}
section
variable {N:NM} {n:Nat} {T L:Tmps} {h:Heap} {Q:QC} {fs:List Fr} {b2:Nat} {G:Prop}
end
end Go.AM
namespace Go.AM
variable {P:Program}
section
variable {N:NM} {n:Nat} {d:Option Nat} {af dead:List Nat} {r:List SOper} {T:Tmps} {h:Heap} {Q:QC} {fs:List Fr}
theorem QeI (hl:n<1099511627775):wM P N (aMakeMap .dyn n) d r dead fs n T h Q=if h.get n=none then wR P N r dead fs (n+1) (putD T d (.map n 0)) (h.set n (.map 0 [])) Q else False:=by
 have hl':Nat.blt n lim=true:=by simp[Nat.blt];unfold lim;omega
 apply propext;constructor
 ·rintro ⟨v', h1, hm, hk⟩
  unfold aMakeMap HM.new at hm
  simp only[HM.run]at hm
  cases hn:h.get n with
  |none=>
   rw[hn]at hm
   obtain⟨hl,hm⟩:=QaB hm
   simp only[HM.run,Option.some.injEq,Prod.mk.injEq]at hm
   obtain⟨rfl,rfl⟩:=hm
   rw[if_pos rfl];exact hk
  |some z=>rw[hn]at hm;cases hm
 ·split
  ·rename_i hn
   intro hk
   refine⟨_,_,?_,hk⟩
   unfold aMakeMap HM.new
   simp only[HM.run,hn]
   rw[hl'];rfl
  ·exact fun h=>h.elim
def keyM (k:IntKind) (v:AV) (l:List Nat):List (AV×AV):=l.map fun x:Nat=>(.int k (x:Int),v)
theorem RnM.keyM {m:Nat} {π:Nat->Option Src} {h:Heap} {k:IntKind} {v:AV} (hv:noRef v=true):∀{l:List Nat},RnM m π h (keyM k v l) (keyM k v l)
 |[]=>trivial
 |x::l=>⟨⟨Rn.same rfl,Rn.same hv⟩,RnM.keyM hv (l:=l)⟩
end
theorem wordsM:AV.nilmap.boxable=true/\AV.nilmap.cells=[.nilmap]/\(∀b g,(AV.map b g).cells=[.map b g])/\(∀b g,(AV.map b g).one=true)/\(∀b g,(AV.map b g).boxable=true)/\AV.nilmap.one=true:=
 ⟨rfl,rfl,fun _ _=>rfl,fun _ _=>rfl,fun _ _=>rfl,rfl⟩
theorem HSpec.Qoa {f m:Nat} {sf:SFn} {args:List AV} {L0 L:HL} {v:AV} (n:Nat) (hok:okFn P f sf=true) (hl:Nat.ble args.length sf.n=true) (hm:(Nat.ble m 1099511627775&&L0.all fun p=>Nat.blt p.1 m)=true)
  (hv:noRef v=true) (hw:wS P ⟨sf.n,m⟩ sf.body [] n (argT 0 args) (hp L0) fun e T k _=>(e= .normal\/e= .ret)/\∃vs,resV T k sf.res=some vs/\resOf vs=v/\Rec m [] L T k):HSpec P f args (hp L0) v (hp L):=by
 simp only[Bool.and_eq_true,Nat.ble_eq]at hm
 refine HSpec.of_W2 hok (Nat.le_of_ble_eq_true hl) (fun b hb=>?_) ((wpC.toW hw).mono ?_)
 ·have : ∀ M : HL, M.all (fun p => Nat.blt p.1 m) = true -> (hp M).get b = none := by
   intro M
   induction M with
   |nil=>intro _;exact get_e
   |cons q M ih=>
    obtain⟨j,x⟩:=q
    intro hM
    simp only[List.all_cons,Bool.and_eq_true,Nat.blt,Nat.ble_eq]at hM
    rw[Qb9,QaX (by omega) (by omega)];exact ih (by simpa[Nat.blt]using hM.2)
  exact this L0 hm.2
 ·rintro e B ⟨n', h1, vs, h2, h3, ps, ho, hro, hb, ht⟩
  exact⟨h1,vs,_,h2,Rec.maps ho hb,Rec.heap ho hb,Rec.dom ho hro,by rw[h3];exact Rn.same hv⟩
end Go.AM
namespace Go.AM
variable {P:Program}
section
variable {N:NM} {n:Nat} {d:Option Nat} {dead:List Nat} {r:List SOper} {T:Tmps} {h:Heap} {Q:QC} {fs:List Fr}
theorem Qfs {sz bytes len b2 g2 off2 len2:Nat} {cs:List AV}:wM P N (aAppend .dyn n sz bytes (.sl b2 g2 off2 len2 sz) (.fsl cs len sz)) d r dead fs n T h Q=
  wA P N (srcB (h.get b2) g2 off2 len2 sz) (some cs) g2 len2 len sz bytes b2 d r dead fs n T h Q:=by
 simp only[aAppend,aSrc,if_true,slLen,Qcw,Qck,QeA]
 apply propext;constructor
 ·rintro ⟨h2, cs2, hb2, h3, h4⟩
  rw[hb2,Qb8,if_pos ⟨rfl,h3⟩]
  exact⟨_,_,rfl,rfl,⟨h2.1,h2.2.1⟩,h2.2.2,h4⟩
 ·rintro ⟨ys, zs, hy, hz, h2, h3, h4⟩
  cases hy
  unfold srcB at hz
  split at hz
  ·rename_i g3 cs2 hb2
   split at hz
   ·rename_i e2
    obtain⟨rfl,e2⟩:=e2
    cases hz
    exact⟨⟨h2.1,h2.2,h3⟩,cs2,hb2,e2,h4⟩
   ·cases hz
  ·cases hz
theorem QdD {sz bytes b2 g2 off2 len2:Nat}:wM P N (aAppend .dyn n sz bytes (.sl b2 g2 off2 len2 sz) .nilsl) d r dead fs n T h Q=
  wA P N (srcB (h.get b2) g2 off2 len2 sz) (some []) g2 len2 0 sz bytes b2 d r dead fs n T h Q:=by
 simp only[aAppend,aSrc,if_true,slLen,Qcw,Qck,QeA]
 apply propext;constructor
 ·rintro ⟨h2, cs2, hb2, h3, h4⟩
  rw[hb2,Qb8,if_pos ⟨rfl,h3⟩]
  exact⟨_,_,rfl,rfl,⟨h2.1,h2.2.1⟩,h2.2.2,h4⟩
 ·rintro ⟨ys, zs, hy, hz, h2, h3, h4⟩
  cases hy
  unfold srcB at hz
  split at hz
  ·rename_i g3 cs2 hb2
   split at hz
   ·rename_i e2
    obtain⟨rfl,e2⟩:=e2
    cases hz
    exact⟨⟨h2.1,h2.2,h3⟩,cs2,hb2,e2,h4⟩
   ·cases hz
  ·cases hz
end
theorem Qft {cs:List AV} {len sz:Nat} {k:IntKind} {a:Int}:aSliceC (some sz) (.fsl cs len sz) (some (.int k a)) none none=
  if 0<=a/\a<=len then some (.fsl ((cs.drop (a.toNat*sz)).take ((len-a.toNat)*sz)) (len-a.toNat) sz)else none:=by
 simp only[aSliceC,if_true,aSlice,bnd,Int.le_refl,Int.toNat_natCast,and_true]
theorem Qfu {cs:List AV} {len sz:Nat} {k:IntKind} {b:Int}:aSliceC (some sz) (.fsl cs len sz) none (some (.int k b)) none=
  if 0<=b/\b<=len then some (.fsl (cs.take (b.toNat*sz)) b.toNat sz)else none:=by
 simp only[aSliceC,if_true,aSlice,bnd,Int.le_refl,true_and,Int.toNat_zero,Nat.zero_mul,List.drop_zero,Nat.sub_zero]
theorem Qfv {cs:List AV} {len sz:Nat} {k k2:IntKind} {a b:Int}:aSliceC (some sz) (.fsl cs len sz) (some (.int k a)) (some (.int k2 b)) none=
  if 0<=a/\a<=b/\b<=len then some (.fsl ((cs.drop (a.toNat*sz)).take ((b.toNat-a.toNat)*sz)) (b.toNat-a.toNat) sz)else none:=by
 simp only[aSliceC,if_true,aSlice,bnd]
theorem Qgp {b g off len sz:Nat} {k:IntKind} {a:Int}:aSliceC (some sz) (.sl b g off len sz) (some (.int k a)) none none=
  if 0<=a/\a<=len then some (.sl b g (off+a.toNat*sz) (len-a.toNat) sz)else none:=by
 simp only[aSliceC,if_true,aSlice,bnd,Int.le_refl,Int.toNat_natCast,true_and,Nat.zero_lt_succ,or_true,and_true]
theorem Qgq {b g off len sz:Nat} {k:IntKind} {c:Int}:aSliceC (some sz) (.sl b g off len sz) none (some (.int k c)) none=
  if 0<=c/\c<=len then some (.sl b g off c.toNat sz)else none:=by
 simp only[aSliceC,if_true,aSlice,bnd,Int.le_refl,true_and,Int.toNat_zero,Nat.zero_mul,Nat.add_zero,Nat.sub_zero,Nat.zero_lt_succ,or_true,and_true]
theorem Qgr {b g off len sz:Nat} {k k2:IntKind} {a c:Int}:aSliceC (some sz) (.sl b g off len sz) (some (.int k a)) (some (.int k2 c)) none=
  if 0<=a/\a<=c/\c<=len then some (.sl b g (off+a.toNat*sz) (c.toNat-a.toNat) sz)else none:=by
 simp only[aSliceC,if_true,aSlice,bnd,Nat.zero_lt_succ,or_true,and_true]
end Go.AM
namespace Go.AM
variable {P:Program}
def HM.tch {α:Type} (B:Nat->Prop):HM α->Prop
 | .ret _=>True
 | .fail=>True
 | .look b k=>B b/\∀x,(k x).tch B
 | .put b _ k=>B b/\k.tch B
theorem HM.Qob {α:Type} {B:Nat->Prop} (m:HM α):m.tch B->∀h b,b∈(m.fp h).1\/b∈(m.fp h).2->B b:=by
 induction m with
 |ret a=>intro _ h b hb;simp[HM.fp]at hb
 |fail=>intro _ h b hb;simp[HM.fp]at hb
 |look b k ih=>
  rintro⟨h1,h2⟩ h b' hb
  simp only[HM.fp,List.mem_cons]at hb
  rcases hb with(rfl|hb)|hb
  ·exact h1
  ·exact ih _ (h2 _) h b' (.inl hb)
  ·exact ih _ (h2 _) h b' (.inr hb)
 |put b x k ih=>
  rintro⟨h1,h2⟩ h b' hb
  simp only[HM.fp,List.mem_cons]at hb
  rcases hb with hb|rfl|hb
  ·exact ih h2 _ b' (.inl hb)
  ·exact h1
  ·exact ih h2 _ b' (.inr hb)
theorem HM.QmU {α β:Type} {B:Nat->Prop} {m:HM α} {f:α->HM β} (h1:m.tch B) (h2:∀a,(f a).tch B):(m.bind f).tch B:=by
 induction m with
 |ret a=>exact h2 a
 |fail=>trivial
 |look b k ih=>exact⟨h1.1,fun x=>ih x (h1.2 x)⟩
 |put b x k ih=>exact⟨h1.1,ih h1.2⟩
theorem Qkl {α:Type} {B:Nat->Prop} (o:Option α):(HM.opt o).tch B:=by cases o<;>trivial
theorem QcN {α:Type} {B:Nat->Prop} {b g:Nat} {k:List AV->HM α} (hb:B b) (hk:∀cs,(k cs).tch B):(HM.cells b g k).tch B:=by
 refine⟨hb,fun x=>?_⟩
 match x with
 |some (.cells g' cs)=>
  simp only
  cases Nat.beq g' g<;>first|exact trivial|exact hk cs
 |some (.map _ _)=>trivial
 |some (.dead _)=>trivial
 |some (.loop ..)=>trivial
 |none=>trivial
theorem QgJ {α:Type} {B:Nat->Prop} {i:Nat} {x:Nat->Blk} {k:Nat->Nat->HM α} (hb:B i) (hk:∀b g,(k b g).tch B):(HM.new .dyn i x k).tch B:=by
 refine⟨hb,fun y=>?_⟩
 match y with
 |none=>exact⟨hb,hk _ _⟩
 |some z=>trivial
def blks:AV->Option (List Nat)
 | .ptr b _ _=>some [b]
 | .sl b _ _ _ _=>some [b]
 | .map b _=>some [b]
 | .any=>none
 | .agg _=>none
 | .tup []=>some []
 | .tup _=>none
 | .fn _ _ _=>none
 | .ifc _ _=>none
 | .typed _ _ _=>none
 |_=>some []
def Pts (v:AV) (bs:List Nat):Prop:=∃cs,blks v=some cs/\∀b∈cs,b∈bs
abbrev Abs:=List (Nat×Option (List Nat))
def absT (T:Tmps):Abs->Nat->Option (List Nat)
 |[],i=>blks (lk T i)
 |(j,a)::r,i=>bif Nat.beq j i then a else absT T r i
def absO (T:Tmps) (A:Abs):Opd->Option (List Nat)
 | .t i=>absT T A i
 | .c v=>blks v
 |_=>none
def SOp.absV (i:Nat) (ax:Opd->Option (List Nat)):SOp->Option (List Nat)
 | .mov x=>ax x
 | .slice _ x _ _ _=>ax x
 | .iaddr _ _ x _=>ax x
 | .faddr _ x=>ax x
 | .alloc .dyn _=>some [i]
 | .box .dyn _=>some [i]
 | .bslice false .dyn _ _ _ _=>some [i]
 | .mkslice .dyn _ _ _ _ _=>some [i]
 | .mkmap .dyn=>some [i]
 | .append .dyn _ _ x _=>(ax x).map fun bs=>i::bs
 |_=>none
def SOp.touch (i:Nat) (ax:Opd->Option (List Nat)):SOp->Option (List Nat)
 | .load _ x=>ax x
 | .store _ x _=>ax x
 | .len _ x=>ax x
 | .alloc .dyn _=>some [i]
 | .box .dyn _=>some [i]
 | .bslice _ .dyn _ _ _ _=>some [i]
 | .mkslice .dyn _ _ _ _ _=>some [i]
 | .mkmap .dyn=>some [i]
 | .append .dyn _ _ x y=>match ax x,ax y with
  |some a,some b=>some (i::(a++b))
  |_,_=>none
 | .copy _ x y=>match ax x,ax y with
  |some a,some b=>some (a++b)
  |_,_=>none
 | .lookup _ _ _ _ x _=>ax x
 | .mupd _ _ x _ _=>ax x
 |s=>bif Nat.beq s.cls 0 then some []else none
def touches (n:Nat) (T:Tmps):List SOper->Abs->List (Option (List Nat))
 |[],_=>[]
 |s::r,A=>s.op.touch n (absO T A)::touches (n+1) T r (match s.dst with|some d=>(d,s.op.absV n (absO T A))::A|none=>A)
def pairsOK (ts:List (Option (List Nat))) (ps:List (Nat×Nat)):Bool:=
 ps.all fun p=>match ts.getD p.1 none,ts.getD p.2 none with
  |some a,some b=>a.all fun x=> !b.elem x
  |_,_=>false
section
variable {i:Nat} {T:Tmps} {ax:Opd->Option (List Nat)} {B:Nat->Prop}
theorem QmV {n:Option Nat} {v:AV} {bs:List Nat} (h:Pts v bs):(aLoad n v).tch (· ∈bs):=by
 obtain⟨cs,h1,h2⟩:=h
 unfold aLoad
 split
 ·simp only [blks, Option.some.injEq] at h1
  subst h1
  refine QcN (h2 _ (by simp)) fun cs=>?_
  split
  ·exact Qkl _
  ·split<;>trivial
 ·split
  ·exact Qkl _
  ·split<;>trivial
 ·trivial
theorem QlZ {n:Nat} {v u:AV} {bs:List Nat} (h:Pts v bs):(aStore n v u).tch (· ∈bs):=by
 obtain⟨cs,h1,h2⟩:=h
 unfold aStore
 split
 ·simp only [blks, Option.some.injEq] at h1
  subst h1
  have hb:=h2 _ (List.mem_singleton.2 rfl)
  refine QcN hb fun cs=>?_
  split
  ·exact⟨hb,trivial⟩
  ·trivial
 ·trivial
theorem QnC {k:Nat} {v:AV} {bs:List Nat} (h:Pts v bs):(aLenC k v).tch (· ∈bs):=by
 obtain⟨cs,h1,h2⟩:=h
 unfold aLenC
 split
 ·unfold aLen
  split<;>try trivial
  simp only[blks,Option.some.injEq]at h1
  subst h1
  refine⟨h2 _ (by simp),fun y=>?_⟩
  match y with
  |some (.map g' es)=>
   simp only
   generalize Nat.beq g' _=t
   cases t<;>trivial
  |some (.cells _ _)=>trivial
  |some (.dead _)=>trivial
  |some (.loop ..)=>trivial
  |none=>trivial
 ·trivial
theorem QeQ {sz:Nat} {v:AV} {bs:List Nat} {k:List AV->Nat->HM AV} (h:Pts v bs) (hs:∀b∈bs,B b) (hk:∀ys n,(k ys n).tch B):(aSrc sz v k).tch B:=by
  obtain⟨cs,h1,h2⟩:=h
  unfold aSrc
  split
  · simp only [blks, Option.some.injEq] at h1
    subst h1
    split
    · refine QcN (hs _ (h2 _ (by simp))) fun cs => ?_
      split
      · exact hk _ _
      · trivial
    · trivial
  · split
    · exact hk _ _
    · trivial
  · exact hk _ _
  · exact hk _ _
  · exact hk _ _
  · split
    · exact hk _ _
    · trivial
  · trivial
theorem Qk1 {sz bytes : Nat} {x y : AV} {a b : List Nat} (hx : Pts x a) (hy : Pts y b) : (aAppend .dyn i sz bytes x y).tch (· ∈ i :: (a ++ b)) := by
  unfold aAppend
  refine QeQ hy (fun c hc=>by simp[hc]) fun ys n=>?_
  split
  · obtain ⟨cs, h1, h2⟩ := hx
    split
    · split
      · trivial
      · exact QgJ (by simp) fun _ _=>trivial
    · split
      · trivial
      · exact QgJ (by simp) fun _ _=>trivial
    · split<;>trivial
    · simp only [blks, Option.some.injEq] at h1
      subst h1
      have hb:=h2 _ (List.mem_singleton.2 rfl)
      split
      · refine QcN (by simp [hb]) fun cs => ?_
        split
        · exact⟨by simp[hb],trivial⟩
        · trivial
      · trivial
    · trivial
  · trivial
theorem QmW {sz:Nat} {x y:AV} {a b:List Nat} (hx:Pts x a) (hy:Pts y b):(aCopy sz x y).tch (· ∈a++b):=by
  obtain⟨cs,h1,h2⟩:=hx
  unfold aCopy
  split
  · simp only [blks, Option.some.injEq] at h1
    subst h1
    have hb:=h2 _ (List.mem_singleton.2 rfl)
    split
    · refine QeQ hy (fun c hc => by simp [hc]) fun ys n => ?_
      refine QcN (by simp[hb]) fun cs=>?_
      split
      · exact⟨by simp[hb],trivial⟩
      · trivial
    · trivial
  · exact QeQ hy (fun c hc=>by simp[hc]) fun ys n=>trivial
  · exact QeQ hy (fun c hc=>by simp[hc]) fun ys n=>trivial
  · trivial
theorem Qfw {α:Type} {b g:Nat} {k:List (AV×AV)->HM α} (hb:B b) (hk:∀es,(k es).tch B):(HM.entries b g k).tch B:=by
 refine⟨hb,fun x=>?_⟩
 match x with
 |some (.map g' es)=>
  simp only
  cases Nat.beq g' g<;>first|exact trivial|exact hk es
 |some (.cells _ _)=>trivial
 |some (.dead _)=>trivial
 |some (.loop ..)=>trivial
 |none=>trivial
theorem Qk2 {row ok:Bool} {ks:List LK} {z x k:AV} {bs:List Nat} (h:Pts x bs):(aLookup row ks z ok x k).tch (· ∈bs):=by
 obtain⟨cs,h1,h2⟩:=h
 unfold aLookup
 split
 ·split
  ·trivial
  ·simp only [blks, Option.some.injEq] at h1
   subst h1
   refine Qfw (h2 _ (by simp)) fun es=>?_
   split<;>trivial
  ·split<;>trivial
  ·trivial
 ·trivial
theorem QmX {row:Bool} {ks:List LK} {x k v:AV} {bs:List Nat} (h:Pts x bs):(aMapUpd row ks x k v).tch (· ∈bs):=by
 obtain⟨cs,h1,h2⟩:=h
 unfold aMapUpd
 split
 ·split
  ·simp only [blks, Option.some.injEq] at h1
   subst h1
   have hb:=h2 _ (List.mem_singleton.2 rfl)
   refine Qfw hb fun es=>?_
   split
   ·exact⟨hb,trivial⟩
   ·exact⟨hb,trivial⟩
   ·trivial
  ·trivial
 ·trivial
theorem Qbc {m:HM AV} (h:m.tch B):(hval m).tch B:=HM.QmU h fun _=>trivial
theorem QmY {s:SOp} {ts:List Nat} (hax:∀x bs,ax x=some bs->Pts (ev T x) bs) (h:s.touch i ax=some ts):s.cls≠0->(aop i T s).tch (· ∈ts)/\∀m x asg,s≠ .call m x asg:=by
 intro h0
 have new1:∀{x:Nat->Blk} {r:Nat->Nat->AV},(HM.new .dyn i x fun b g=> .ret (r b g)).tch (· ∈[i]):=fun{x r}=>QgJ (by simp) fun _ _=>trivial
 cases s<;>try (exact absurd rfl h0)
 ·rename_i s z
  cases s<;>simp only[SOp.touch,SOp.cls,show Nat.beq 2 0=false from rfl,cond_false,reduceCtorEq,Option.some.injEq]at h
  subst h
  refine⟨Qbc ?_,fun _ _ _=>by simp⟩
  unfold aBox;split
  ·exact new1
  ·trivial
 ·simp only[SOp.touch,SOp.cls,show Nat.beq 2 0=false from rfl,cond_false,reduceCtorEq]at h
 ·rename_i s z
  cases s<;>simp only[SOp.touch,SOp.cls,show Nat.beq 2 0=false from rfl,cond_false,reduceCtorEq,Option.some.injEq]at h
  subst h
  refine⟨Qbc ?_,fun _ _ _=>by simp⟩
  unfold aBox;split
  ·exact new1
  ·trivial
 ·rename_i fz s sz len z ps
  cases s<;>simp only[SOp.touch,SOp.cls,show Nat.beq 2 0=false from rfl,cond_false,reduceCtorEq,Option.some.injEq]at h
  subst h
  refine⟨Qbc ?_,fun _ _ _=>by simp⟩
  unfold aBuildSlice
  split
  ·split
   ·split
    ·split<;>trivial
    ·exact new1
   ·trivial
  ·trivial
 ·exact⟨Qbc (QmV (hax _ _ h)),fun _ _ _=>by simp⟩
 ·exact⟨Qbc (QlZ (hax _ _ h)),fun _ _ _=>by simp⟩
 ·simp only[SOp.touch,SOp.cls,show Nat.beq 1 0=false from rfl,cond_false,reduceCtorEq]at h
 ·simp only[SOp.touch,SOp.cls,show Nat.beq 2 0=false from rfl,cond_false,reduceCtorEq]at h
 ·simp only[SOp.touch,SOp.cls,show Nat.beq 2 0=false from rfl,cond_false,reduceCtorEq]at h
 ·simp only[SOp.touch,SOp.cls,show Nat.beq 2 0=false from rfl,cond_false,reduceCtorEq]at h
 ·simp only[SOp.touch,SOp.cls,show Nat.beq 2 0=false from rfl,cond_false,reduceCtorEq]at h
 ·simp only[SOp.touch,SOp.cls,show Nat.beq 2 0=false from rfl,cond_false,reduceCtorEq]at h
 ·simp only[SOp.touch,SOp.cls,show Nat.beq 2 0=false from rfl,cond_false,reduceCtorEq]at h
 ·simp only[SOp.touch,SOp.cls,show Nat.beq 1 0=false from rfl,cond_false,reduceCtorEq]at h
 ·rename_i s
  cases s<;>simp only[SOp.touch,SOp.cls,show Nat.beq 2 0=false from rfl,cond_false,reduceCtorEq,Option.some.injEq]at h
  subst h
  exact⟨Qbc new1,fun _ _ _=>by simp⟩
 ·rename_i s sz b z l c
  cases s<;>simp only[SOp.touch,SOp.cls,show Nat.beq 2 0=false from rfl,cond_false,reduceCtorEq,Option.some.injEq]at h
  subst h
  refine⟨Qbc ?_,fun _ _ _=>by simp⟩
  unfold aMakeSlice
  split
  ·split
   ·exact new1
   ·trivial
  ·trivial
 ·exact⟨Qbc (Qk2 (hax _ _ h)),fun _ _ _=>by simp⟩
 ·exact⟨Qbc (QmX (hax _ _ h)),fun _ _ _=>by simp⟩
 ·exact⟨Qbc (QnC (hax _ _ h)),fun _ _ _=>by simp⟩
 ·rename_i s sz b x y
  cases s<;>simp only[SOp.touch,SOp.cls,show Nat.beq 2 0=false from rfl,cond_false,reduceCtorEq]at h
  split at h
  ·rename_i a b ha hb
   cases h
   exact⟨Qbc (Qk1 (hax _ _ ha) (hax _ _ hb)),fun _ _ _=>by simp⟩
  ·cases h
 ·rename_i sz x y
  simp only[SOp.touch]at h
  split at h
  ·rename_i a b ha hb
   cases h
   exact⟨Qbc (QmW (hax _ _ ha) (hax _ _ hb)),fun _ _ _=>by simp⟩
  ·cases h
 ·rename_i m x asg
  exfalso
  simp only[SOp.touch]at h
  have:Nat.beq (SOp.call m x asg).cls 0=false:=by cases m<;>rfl
  rw[this]at h;cases h
theorem Qfx {s : SOper} {h h1 : Heap} {v : AV} {f : FP} {ts : List Nat} (hax : ∀ x bs, ax x = some bs -> Pts (ev T x) bs) (ht : s.op.touch i ax = some ts) (hs : StepV P i s T h v h1 f) :
    f.all=false/\∀b,b∈f.R\/b∈f.W->b∈ts:=by
  by_cases h0:s.op.cls=0
  · obtain ⟨k1, k2, k3⟩ := hs.cls (by omega)
    exact⟨k1,fun b hb=>by rw[k2,k3 h0]at hb;simp at hb⟩
  obtain⟨t1,t2⟩:=QmY hax ht h0
  have key:∀{s':SOp},s'=s.op->StepX P i s' T h v h1 f->f.all=false/\∀b,b∈f.R\/b∈f.W->b∈ts:=by
    rintro s' rfl ⟨out,h2,hm,ho⟩
    have fin:f=fpOf ((aop i T s.op).fp h)->f.all=false/\∀b,b∈f.R\/b∈f.W->b∈ts:=by
      rintro rfl;exact⟨rfl,fun b hb=>HM.Qob _ t1 h b hb⟩
    match out,ho with
    | .val u,ho=>exact fin ho.2.2
    | .call .pure f' args,ho=>exact fin ho.2.2
    | .call .borrow f' args,ho=>exact fin ho.2.2.2
    | .call .heap f' args, ho =>
      exfalso
      cases hso:s.op with
      |call m x asg=>exact t2 m x asg hso
      | _ =>
        rw[hso]at hm
        first
          |(obtain⟨u,hu,he⟩:=Qaz hm;cases he)
          |(obtain⟨u,h3,hu,he⟩:=Qau hm;cases he)
          |(simp[aop,HM.run]at hm)
    | .round b' g' args, ho =>
      exfalso
      cases hso:s.op with
      |call m x asg=>exact t2 m x asg hso
      | _ =>
        rw[hso]at hm
        first
          |(obtain⟨u,hu,he⟩:=Qaz hm;cases he)
          |(obtain⟨u,h3,hu,he⟩:=Qau hm;cases he)
          |(simp[aop,HM.run]at hm)
  unfold StepV at hs
  split at hs
  · exact key rfl hs
  · obtain ⟨t, _, hs⟩ := hs
    split at hs
    · exact key rfl hs
    · obtain⟨_,_,rfl⟩:=hs;exact⟨rfl,fun b hb=>by simp at hb⟩
theorem Pts.slice {n:Option Nat} {x v:AV} {l h m:Option AV} {bs:List Nat} (hx:Pts x bs) (hv:aSliceC n x l h m=some v):Pts v bs:=by
 obtain⟨cs,h1,h2⟩:=hx
 have key : aSlice x l h m = some v -> Pts v bs := by
  intro hv
  unfold aSlice at hv
  have nil:∀{v:AV},blks v=some []->Pts v bs:=fun h=>⟨[],h,fun b hb=>by cases hb⟩
  split at hv
  ·cases hv
  ·split at hv
   ·split at hv
    ·split at hv
     ·split at hv<;>first|(cases hv;exact nil rfl)|cases hv
     ·split at hv<;>first|(split at hv<;>first|(cases hv;first|exact⟨cs,h1,h2⟩|exact nil rfl)|cases hv)|cases hv
    ·cases hv
   ·cases hv
   ·split at hv
    ·split at hv
     ·cases hv
     ·split at hv
      ·cases hv;exact⟨cs,h1,h2⟩
      ·cases hv
    ·split at hv
     ·cases hv
     ·split at hv
      ·cases hv;exact nil rfl
      ·cases hv
    ·split at hv
     ·cases hv
     ·split at hv
      ·cases hv;exact nil rfl
      ·cases hv
    ·split at hv
     ·cases hv
     ·split at hv
      ·cases hv;exact nil rfl
      ·cases hv
    ·split at hv
     ·cases hv
     ·split at hv
      ·cases hv;exact nil rfl
      ·cases hv
    ·cases hv
 unfold aSliceC at hv
 split at hv<;>first|exact key hv|cases hv|(split at hv;exact key hv;cases hv)
theorem Pts.iaddr {a:Option Nat} {sz:Nat} {x j v:AV} {bs:List Nat} (hx:Pts x bs) (hv:aIAddr a sz x j=some v):Pts v bs:=by
 obtain⟨cs,h1,h2⟩:=hx
 have nil:∀{v:AV},blks v=some []->Pts v bs:=fun h=>⟨[],h,fun b hb=>by cases hb⟩
 unfold aIAddr at hv
 split at hv
 ·split at hv<;>first|(split at hv<;>first|(cases hv;first|exact⟨cs,h1,h2⟩|exact nil rfl)|cases hv)|cases hv
 ·cases hv
theorem Pts.faddr {off:Nat} {x v:AV} {bs:List Nat} (hx:Pts x bs) (hv:aFAddr off x=some v):Pts v bs:=by
 obtain⟨cs,h1,h2⟩:=hx
 have nil:∀{v:AV},blks v=some []->Pts v bs:=fun h=>⟨[],h,fun b hb=>by cases hb⟩
 unfold aFAddr at hv
 split at hv
 ·cases hv;exact⟨cs,h1,h2⟩
 ·cases hv;exact nil rfl
 ·simp[blks]at h1
 ·cases hv
def HM.gives {α:Type} (R:α->Prop):HM α->Prop
 | .ret a=>R a
 | .fail=>True
 | .look _ k=>∀x,(k x).gives R
 | .put _ _ k=>k.gives R
theorem HM.Ql0 {α:Type} {R:α->Prop} (m:HM α):m.gives R->∀h a h1,m.run h=some (a,h1)->R a:=by
 induction m with
 |ret a=>intro hr h b h1 hm;simp only[HM.run,Option.some.injEq,Prod.mk.injEq]at hm;rw[<-hm.1];exact hr
 |fail=>intro _ h b h1 hm;simp[HM.run]at hm
 |look b k ih=>intro hr h a h1 hm;exact ih _ (hr _) h a h1 hm
 |put b x k ih=>intro hr h a h1 hm;exact ih hr _ a h1 (QaB hm).2
theorem Qfy {α:Type} {R:α->Prop} {b g:Nat} {k:List AV->HM α} (hk:∀cs,(k cs).gives R):(HM.cells b g k).gives R:=by
 intro x
 match x with
 |some (.cells g' cs)=>
  simp only
  cases Nat.beq g' g<;>first|exact trivial|exact hk cs
 |some (.map _ _)=>trivial
 |some (.dead _)=>trivial
 |some (.loop ..)=>trivial
 |none=>trivial
theorem QbL {α:Type} {R:α->Prop} {i:Nat} {x:Nat->Blk} {k:Nat->Nat->HM α} (hk:(k i 0).gives R):(HM.new .dyn i x k).gives R:=by
 intro y
 match y with
 |none=>exact hk
 |some z=>trivial
theorem Ql1 {R:AV->Prop} {sz:Nat} {v:AV} {k:List AV->Nat->HM AV} (hk:∀ys n,(k ys n).gives R):(aSrc sz v k).gives R:=by
 unfold aSrc
 split
 ·split
  ·refine Qfy fun cs => ?_
   split
   ·exact hk _ _
   ·trivial
  ·trivial
 ·split
  ·exact hk _ _
  ·trivial
 ·exact hk _ _
 ·exact hk _ _
 ·exact hk _ _
 ·split
  ·exact hk _ _
  ·trivial
 ·trivial
theorem QiR {sz bytes:Nat} {x y:AV} {a:List Nat} (hx:Pts x a):(aAppend .dyn i sz bytes x y).gives fun v=>Pts v (i::a):=by
 have nil:∀{v:AV},blks v=some []->Pts v (i::a):=fun h=>⟨[],h,fun b hb=>by cases hb⟩
 unfold aAppend
 refine Ql1 fun ys n=>?_
 split
 ·obtain ⟨cs, h1, h2⟩ := hx
  split
  ·split
   ·exact nil rfl
   ·exact QbL ⟨_,rfl,fun b hb=>by simp at hb;simp[hb]⟩
  ·split
   ·exact nil rfl
   ·exact QbL ⟨_,rfl,fun b hb=>by simp at hb;simp[hb]⟩
  ·split
   ·exact nil rfl
   ·trivial
  ·simp only [blks, Option.some.injEq] at h1
   subst h1
   split
   ·refine Qfy fun cs => ?_
    split
    ·exact⟨_,rfl,fun b hb=>List.mem_cons_of_mem _ (h2 b hb)⟩
    ·trivial
   ·trivial
  ·trivial
 ·trivial
theorem Qd7 {s:SOper} {h h1:Heap} {v:AV} {f:FP} {bs:List Nat} (hax:∀x bs,ax x=some bs->Pts (ev T x) bs) (ht:s.op.absV i ax=some bs) (hs:StepV P i s T h v h1 f):Pts v bs:=by
 have self:∀{v:AV},blks v=some [i]->Pts v [i]:=fun h=>⟨_,h,fun b hb=>hb⟩
 have key:∀{s':SOp},s'.absV i ax=some bs->StepX P i s' T h v h1 f->Pts v bs:=by
  rintro s' ht ⟨out,h2,hm,ho⟩
  have hv:∀{m:HM AV},aop i T s'=hval m->(m.gives fun v=>Pts v bs)->Pts v bs:=by
   intro m e hg
   rw[e]at hm
   obtain⟨u,h3,hu,he⟩:=Qau hm
   cases he
   rw[ho.1]
   exact HM.Ql0 _ hg _ _ _ hu
  have hl:∀{o:Option AV},aop i T s'=lift o->(∀u,o=some u->Pts u bs)->Pts v bs:=by
   intro o e hg
   rw[e]at hm
   obtain⟨u,hu,he⟩:=Qaz hm
   cases he
   rw[ho.1]
   exact hg _ hu
  cases s'<;>try (simp only[SOp.absV,reduceCtorEq]at ht;done)
  ·simp only [aop, HM.run, Option.some.injEq, Prod.mk.injEq] at hm
   obtain⟨rfl,rfl⟩:=hm
   rw[ho.1];exact hax _ _ ht
  ·rename_i s z
   cases s<;>simp only[SOp.absV,reduceCtorEq,Option.some.injEq]at ht
   subst ht
   refine hv rfl ?_
   unfold aBox;split
   ·exact QbL (self rfl)
   ·trivial
  ·rename_i s z
   cases s<;>simp only[SOp.absV,reduceCtorEq,Option.some.injEq]at ht
   subst ht
   refine hv rfl ?_
   unfold aBox;split
   ·exact QbL (self rfl)
   ·trivial
  ·rename_i fz s sz len z ps
   cases fz<;>cases s<;>simp only[SOp.absV,reduceCtorEq,Option.some.injEq]at ht
   subst ht
   refine hv rfl ?_
   unfold aBuildSlice
   split
   ·split
    ·rw[if_neg (by simp)];exact QbL (self rfl)
    ·trivial
   ·trivial
  ·rename_i s
   cases s<;>simp only[SOp.absV,reduceCtorEq,Option.some.injEq]at ht
   subst ht
   exact hv rfl (QbL (self rfl))
  ·rename_i s sz b z l c
   cases s<;>simp only[SOp.absV,reduceCtorEq,Option.some.injEq]at ht
   subst ht
   refine hv rfl ?_
   unfold aMakeSlice
   split
   ·split
    ·exact QbL (self rfl)
    ·trivial
   ·trivial
  ·exact hl rfl fun u hu=>(hax _ _ ht).slice hu
  ·exact hl rfl fun u hu=>(hax _ _ ht).faddr hu
  ·exact hl rfl fun u hu=>(hax _ _ ht).iaddr hu
  ·rename_i s sz b x y
   cases s<;>simp only[SOp.absV,reduceCtorEq,Option.map_eq_some_iff]at ht
   obtain⟨a,ha,rfl⟩:=ht
   exact hv rfl (QiR (hax _ _ ha))
 unfold StepV at hs
 split at hs
 ·exact key ht hs
 ·obtain ⟨t, _, hs⟩ := hs
  split at hs
  ·exact key ht hs
  ·obtain⟨rfl,_⟩:=hs;exact⟨[],rfl,fun b hb=>by cases hb⟩
end
def AbsOK (T0:Tmps) (A:Abs) (T:Tmps):Prop:=∀j bs,absT T0 A j=some bs->Pts (lk T j) bs
theorem AbsOK.opd {T0 T:Tmps} {A:Abs} (h:AbsOK T0 A T):∀x bs,absO T0 A x=some bs->Pts (ev T x) bs:=by
 intro x bs hx
 cases x with
 |t i=>exact h i bs hx
 |c v=>exact⟨bs,hx,fun b hb=>hb⟩
 |f n=>cases hx
 |g n=>cases hx
theorem AbsOK.nil {T:Tmps}:AbsOK T [] T:=fun j bs h=>⟨bs,h,fun b hb=>hb⟩
theorem AbsOK.up {T0 T:Tmps} {A:Abs} {d:Nat} {v:AV} {a:Option (List Nat)} (h:AbsOK T0 A T) (hv:∀bs,a=some bs->Pts v bs):AbsOK T0 ((d,a)::A) (up T d v):=by
  intro j bs hj
  rw[lk_up]
  simp only[absT]at hj
  by_cases e:d=j
  · subst e
    have e1:Nat.beq d d=true:=by simp
    rw[e1]at hj
    rw[if_pos rfl]
    exact hv bs hj
  · have : Nat.beq d j = false := by rw [Bool.eq_false_iff]; simpa using e
    rw[this]at hj
    rw[if_neg (fun h=>e h.symm)]
    exact h j bs hj
theorem Qkm {T0:Tmps}:∀{r:List SOper} {n:Nat} {A:Abs} {T:Tmps} {h:Heap} {K:Tmps->Heap->Nat->Prop} (hA:AbsOK T0 A T) (K':List FP->Tmps->Heap->Nat->Prop),
  (∀fs T h n',fs.length=r.length->(∀(j:Nat) ts,(touches n T0 r A).getD j none=some ts->(fs.getD j ⟨false,[],[]⟩).all=false/\∀b,b∈(fs.getD j ⟨false,[],[]⟩).R\/b∈(fs.getD j ⟨false,[],[]⟩).W->b∈ts)->K T h n'->K' fs T h n')->
  wpR P n r T h K->wpRF P n r T h K'
 |[],n,A,T,h,K,hA,K',hK,hw=>hK [] T h n rfl (fun j ts hj=>by simp[touches]at hj) hw
 | s :: r, n, A, T, h, K, hA, K', hK, hw => by
  obtain⟨v,h1,f,hs,hr⟩:=hw
  refine⟨v,h1,f,hs,?_⟩
  have hA2:AbsOK T0 (match s.dst with|some d=>(d,s.op.absV n (absO T0 A))::A|none=>A) (putD T s.dst v):=by
   cases s.dst with
   |none=>exact hA
   |some d=>exact AbsOK.up hA fun bs hb=>Qd7 hA.opd hb hs
  refine Qkm hA2 (fun fs T h n=>K' (f::fs) T h n) (fun fs T h n' hl hf hk=>?_) hr
  refine hK (f::fs) T h n' (by simp[hl]) (fun j ts hj=>?_) hk
  cases j with
  |zero=>
   simp only[touches,List.getD_cons_zero]at hj⊢
   exact Qfx hA.opd hj hs
  |succ j=>
   simp only[touches,List.getD_cons_succ]at hj⊢
   exact hf j ts hj
inductive PairsOK (n:Nat) (T:Tmps) (ops:List SOper) (ps:List (Nat×Nat)):Prop
 |mk (h:pairsOK (touches n T ops []) ps=true)
theorem Qgs {N:NM} {ops:List SOper} {p:Nat×Nat} {ps:List (Nat×Nat)} {dead:List Nat} {fs:List Fr} {n:Nat} {T:Tmps} {h:Heap} {Q:QC} (hp:PairsOK n T ops (p::ps)):
  wS P N (.region ops (p::ps) dead) fs n T h Q=wR P N ops dead fs n T h Q:=by
 obtain⟨hp⟩:=hp
 apply propext;constructor
 ·intro hw
  have:∀{r:List SOper} {n:Nat} {T:Tmps} {h:Heap} {K:List FP->Tmps->Heap->Nat->Prop} {K':Tmps->Heap->Nat->Prop},(∀fs T h n,K fs T h n->K' T h n)->wpRF P n r T h K->wpR P n r T h K':=by
   intro r
   induction r with
   |nil=>intro n T h K K' hK hw;exact hK _ _ _ _ hw
   |cons s r ih=>
    rintro n T h K K' hK ⟨v,h1,f,hs,hr⟩
    exact⟨v,h1,f,hs,ih (fun fs T h n hk=>hK _ _ _ _ hk) hr⟩
  exact this (fun fs' T h n hk=>hk.2) hw
 ·intro hw
  refine Qkm AbsOK.nil _ (fun fs' T h n' hl hf hk=>⟨?_,hk⟩) hw
  rw[List.all_eq_true]
  intro q hq
  have:=List.all_eq_true.1 hp q hq
  split at this
  ·rename_i a b ha hb
   obtain⟨f1,f2⟩:=hf _ _ ha
   obtain⟨g1,g2⟩:=hf _ _ hb
   have hd:∀x y,x∈a->y∈b->x≠y:=by
    rintro x y hx hy rfl
    have:=List.all_eq_true.1 this x hx
    simp[hy]at this
   have dj:∀xs ys:List Nat,(∀x∈xs,∀y∈ys,x≠y)->disj xs ys=true:=by
    intro xs ys hh
    unfold disj
    rw[List.all_eq_true]
    intro x hx
    simp only[Bool.not_eq_true',List.contains_eq_mem,decide_eq_false_iff_not]
    intro hy
    exact hh x hx x hy rfl
   unfold FP.apart
   rw[f1,g1]
   simp only[Bool.and_eq_true]
   refine⟨⟨dj _ _ fun x hx y hy=>?_,dj _ _ fun x hx y hy=>?_⟩,dj _ _ fun x hx y hy=>?_⟩
   ·first|exact hd x y (f2 x (.inr hx)) (g2 y (.inl hy))|exact fun e=>hd y x (f2 y (.inl hy)) (g2 x (.inr hx)) e.symm
   ·first|exact hd x y (f2 x (.inr hx)) (g2 y (.inr hy))|exact fun e=>hd y x (f2 y (.inr hy)) (g2 x (.inr hx)) e.symm
   ·first|exact fun e=>hd y x (f2 y (.inl hy)) (g2 x (.inr hx)) e.symm|exact fun e=>hd y x (f2 y (.inr hy)) (g2 x (.inl hx)) e.symm|exact hd x y (f2 x (.inl hx)) (g2 y (.inr hy))
  ·cases this
theorem FrzL.nil {h:Heap}:FrzL h [] []:=trivial
theorem FrzL.cons {h:Heap} {x y:AV} {xs ys:List AV} (h1:FrzTo h x y) (h2:FrzL h xs ys):FrzL h (x::xs) (y::ys):=⟨h1,h2⟩
end Go.AM
namespace Go.AM
variable {P:Program}
def setL:HL->Heap->Heap
 |[],h=>h
 |(k,x)::r,h=>(setL r h).set k x
theorem QiS {h:Heap}:setL [] h=h:=rfl
theorem Qhy {k:Nat} {x:Blk} {r:HL} {h:Heap}:setL ((k,x)::r) h=(setL r h).set k x:=rfl
theorem QiT {b:Nat} {h:Heap} (hf:Fresh b h):∀{L:HL},(L.all fun p=>Nat.ble b p.1&&Nat.blt p.1 1099511627775)=true->∀k,(setL L h).get k=if k<b then h.get k else(hp L).get k
 |[],_,k=>by
  simp only[setL,hp]
  split
  ·rfl
  ·rw[hf k (by omega),get_e]
 | (j, x) :: r, hL, k => by
  simp only[List.all_cons,Bool.and_eq_true,Nat.ble_eq,Nat.blt_eq]at hL
  obtain⟨⟨h1,h2⟩,h3⟩:=hL
  have ih:=QiT hf (L:=r) (by simpa using h3) k
  simp only[setL,hp]
  by_cases e:k=j
  ·subst e
   rw[QaP h2,QaP h2,if_neg (by omega)]
  ·rw[QaX h2 e,QaX h2 e,ih]
theorem HSpec.of_O {f b:Nat} {args:List AV} {v:AV} {h:Heap} {L:HL} (hn:noRefs args=true) (hs:HSpec P f args .e v (hp L)) (hf:Fresh b h) (hL:(L.all fun p=>Nat.ble b p.1&&Nat.blt p.1 1099511627775)=true):HSpec P f args h v (setL L h):=by
 obtain⟨hc,hs⟩:=hs
 refine⟨hc,fun c w cargs H ha=>?_⟩
 refine(hs (only c.F) w cargs (HRel.only H.inF) (VRels.noRef (c:=c) (c':=only c.F) (fun _ h=>h) _ _ hn ha)).mono ?_
 rintro e w' ⟨cv,c',rfl,E,H',V⟩
 have hnewO:∀k,c'.O k->w.heap.size<=k:=fun k hO=>(E.own k hO).elim (fun h=>h.elim) id
 have hnewF:∀k,c'.F k->c.F k\/w.heap.size<=k:=fun k hF=>(E.frzNew k hF).elim .inl fun h=>h.elim (fun h=>h.elim) .inr
 have hkeep:∀k,k<w.heap.size->w'.heap[k]?=w.heap[k]?:=fun k hk=>E.keep k hk (fun h=>h)
 have hg:=QiT hf hL
 have hlow:∀k,(hp L).get k≠none->b<=k:=fun k hk=>by
  rcases Nat.lt_or_ge k b with h1|h1
  ·exfalso
   apply hk
   have:∀{M:HL},(M.all fun p=>Nat.ble b p.1&&Nat.blt p.1 1099511627775)=true->(hp M).get k=none:=by
    intro M
    induction M with
    |nil=>intro _;exact get_e
    |cons q M ih=>
     obtain⟨j,x⟩:=q
     intro hM
     simp only[List.all_cons,Bool.and_eq_true,Nat.ble_eq,Nat.blt_eq]at hM
     rw[Qb9,QaX hM.1.2 (by omega)];exact ih (by simpa using hM.2)
   exact this hL
  ·exact h1
 have hrlow:∀k g,k<b->c'.ρ k g=none:=fun k g hk=>by
  have:(hp L).get k=none:=by
   cases hq:(hp L).get k with
   |none=>rfl
   |some x=>exact absurd (hlow k (by rw[hq];simp)) (by omega)
  exact H'.fresh k this g
 have hrhigh:∀k g,b<=k->c.ρ k g=none:=fun k g hk=>H.fresh k (hf k hk) g
 let c2:Ctx (okc P):={ρ:=fun k g=>if k<b then c.ρ k g else c'.ρ k g,F:=c'.F,O:=fun k=>c.O k\/c'.O k,base:=c.base}
 have hr1:∀k g,k<b->c2.ρ k g=c.ρ k g:=fun k g hk=>if_pos hk
 have hr2:∀k g,b<=k->c2.ρ k g=c'.ρ k g:=fun k g hk=>if_neg (by omega)
 have hx1:∀k g p,c.ρ k g=some p->c2.ρ k g=some p:=fun k g p hp=>by
  rcases Nat.lt_or_ge k b with h1|h1
  ·rw[hr1 k g h1];exact hp
  ·rw[hrhigh k g h1]at hp;cases hp
 have hx2:∀k g p,c'.ρ k g=some p->c2.ρ k g=some p:=fun k g p hp=>by
  rcases Nat.lt_or_ge k b with h1|h1
  ·rw[hrlow k g h1]at hp;cases hp
  ·rw[hr2 k g h1];exact hp
 have E2:Evo c w c2 w':=⟨E.os,E.tape,E.output,E.size,E.shape,fun k hk _=>hkeep k hk,hx1,fun k hk=>E.frz k hk,fun k hk=>(hnewF k hk).elim .inl fun h=> .inr (.inr h),fun k hk=>hk.elim .inl fun h=> .inr (hnewO k h),rfl⟩
 have X2:Ext c' w' c2 w':=⟨hx2,fun _ h=>h,fun k _ _ h=>h,fun k C e fr h=>⟨C,fr,h,rfl⟩⟩
 refine⟨cv,c2,rfl,E2,?_,VRel.mono X2 _ _ V⟩
 refine⟨fun k hk g=>?_,fun k x hk g hlt=>?_,fun k x hk=>?_,?_,fun k hF hO=>?_,fun k hF=>H'.inF k hF,fun k hO=>hO.elim (fun h=>Nat.lt_of_lt_of_le (H.inO k h) E.size) (H'.inO k)⟩
 ·rw [hg k] at hk
  split at hk
  ·rename_i h1;rw[hr1 k g h1];exact H.fresh k hk g
  ·rename_i h1;rw[hr2 k g (by omega)];exact H'.fresh k hk g
 ·rw [hg k] at hk
  split at hk
  ·rename_i h1;rw[hr1 k g h1];exact H.later k x hk g hlt
  ·rename_i h1;rw[hr2 k g (by omega)];exact H'.later k x hk g hlt
 ·rw [hg k] at hk
  split at hk
  ·refine BRel.mono (E2.ext H.disj) (fun cb base hd hp => ?_) (H.blk k x hk)
   have hO:=H.owned ⟨x,hk,rfl,hd⟩ hp
   exact⟨.inl hO,hkeep cb (H.inO _ hO)⟩
  ·refine BRel.mono X2 (fun cb base hd hp => ?_) (H'.blk k x hk)
   have hO:=H'.owned ⟨x,hk,rfl,hd⟩ hp
   exact⟨.inr hO,rfl⟩
 ·intro b1 g1 b2 g2 cb base1 base2 l1 l2 p1 p2
  have key:∀k g base,Live (setL L h) k g->c2.ρ k g=some (.loc cb base)->(k<b/\Live h k g/\c.ρ k g=some (.loc cb base)/\cb<w.heap.size)\/(b<=k/\Live (hp L) k g/\c'.ρ k g=some (.loc cb base)/\w.heap.size<=cb):=by
   rintro k g base ⟨x,hk,rfl,hd⟩ hp
   rw[hg k]at hk
   split at hk
   ·rename_i h1
    rw[hr1 k _ h1]at hp
    exact .inl ⟨h1,⟨x,hk,rfl,hd⟩,hp,H.inO _ (H.owned ⟨x,hk,rfl,hd⟩ hp)⟩
   ·rename_i h1
    rw[hr2 k _ (by omega)]at hp
    exact .inr ⟨by omega,⟨x,hk,rfl,hd⟩,hp,hnewO _ (H'.owned ⟨x,hk,rfl,hd⟩ hp)⟩
  rcases key b1 g1 base1 l1 p1 with⟨k1,k2,k3,k4⟩|⟨k1,k2,k3,k4⟩<;>rcases key b2 g2 base2 l2 p2 with⟨j1,j2,j3,j4⟩|⟨j1,j2,j3,j4⟩
  ·exact H.inj _ _ _ _ _ _ _ k2 j2 k3 j3
  ·omega
  ·omega
  ·exact H'.inj _ _ _ _ _ _ _ k2 j2 k3 j3
 ·rcases hO with hO | hO
  ·rcases hnewF k hF with h1 | h1
   ·exact H.disj k h1 hO
   ·have:=H.inO k hO;omega
  ·exact H'.disj k hF hO
theorem HSpec.QeJ {f:Nat} {sf:SFn} {args:List AV} {v:AV} {L:HL} (n:Nat) (hok:okFn P f sf=true) (hl:Nat.ble args.length sf.n=true)
  (hw:wS P ⟨sf.n,0⟩ sf.body [] n (argT 0 args) .e fun e T k _=>(e= .normal\/e= .ret)/\∃vs,resV T k sf.res=some vs/\Rec 0 [(0,v)] L [(0,resOf vs)] k):HSpec P f args .e v (hp L):=by
 refine HSpec.of_W2 (m:=0) hok (Nat.le_of_ble_eq_true hl) (fun b _=>get_e) ((wpC.toW hw).mono ?_)
 rintro e B ⟨n',h1,vs,h2,ps,ho,hro,hb,ht⟩
 exact⟨h1,vs,_,h2,Rec.maps ho hb,Rec.heap ho hb,Rec.dom ho hro,ht 0⟩
end Go.AM
namespace Go.AM
theorem wV:type_of% @words/\type_of% @wordsN/\type_of% @wordsR/\type_of% @Qgs/\type_of% @Qfs/\type_of% @QdD/\type_of% @Qft/\type_of% @Qfu/\type_of% @Qfv/\type_of% @Qgp/\type_of% @Qgq/\type_of% @Qgr/\type_of% @Qhy/\type_of% @QiS/\type_of% @SX.exit.injEq/\type_of% @if_true.{1}/\type_of% @if_false.{1}/\type_of% @ne_eq.{1}:=
 ⟨@words,@wordsN,@wordsR,@Qgs,@Qfs,@QdD,@Qft,@Qfu,@Qfv,@Qgp,@Qgq,@Qgr,@Qhy,@QiS,@SX.exit.injEq,@if_true,@if_false,@ne_eq⟩
theorem gg {p:Prop} (h:p:=by first|(simp(disch:=omega) only[QaP,QaX,Qb9];done)|(simp(disch:=omega) only[QaP,QaX,Qb9];rfl)):p:=h
end Go.AM
namespace Go.AM
variable {P:Program}
section
variable {N:NM} {n:Nat} {d:Option Nat} {af dead:List Nat} {r:List SOper} {T:Tmps} {h:Heap} {Q:QC} {fs:List Fr}
end
end Go.AM
namespace Go.AM
theorem QiU {b:Bool}:(AV.bool b).cells=[.bool b]:=rfl
theorem Ql2 {b:Bool}:(AV.bool b).one=true:=rfl
theorem Ql3 {b:Bool}:(AV.bool b).boxable=true:=rfl
theorem QiV {b g o:Nat}:aNil (.ptr b g o)=some (.ptr b g o):=rfl
theorem Qhz {cs:List AV}:aNil (.fptr cs)=some (.fptr cs):=rfl
end Go.AM
namespace Go.AM.SD
open Go.AM
def ints (l:List Int):List AV:=l.map (.int .i64)
abbrev sli (l:List Int):AV:= .fsl (ints l) l.length 1
theorem Qaa (l:List Int):noRefs (ints l)=true:=by
 induction l with
 |nil=>rfl
 |cons x l ih=>simp only[ints,List.map_cons,noRefs,noRef,Bool.true_and];exact ih
theorem Qd8 {l:List Int}:(ints l).length=l.length:=by simp[ints]
theorem lenW:type_of% @List.length_map.{0,0}/\type_of% @List.length_append.{0}/\type_of% @List.length_cons.{0}/\type_of% @List.length_nil.{0}/\type_of% @Qd8:=⟨@List.length_map.{0,0},@List.length_append.{0},@List.length_cons.{0},@List.length_nil.{0},@Qd8⟩
theorem QaW {l:List Int} {i:Nat} {x:Int} (h:l[i]?=some x):((ints l).drop i).head?=some (.int .i64 x):=by
 rw[List.head?_drop];simp[ints,h]
abbrev nz (l:List Nat):List Int:=l.map fun x:Nat=>(x:Int)
theorem nz_at {l:List Nat} {i x:Nat} (h:l[i]?=some x):(nz l)[i]?=some (x:Int):=by simp[nz,h]
theorem Qak {α:Type} {l:List α} {i:Nat} (h:i<l.length):∃x,l[i]?=some x:=⟨l[i],List.getElem?_eq_getElem h⟩
theorem Qah {a b:List AV}:noRefs (a++b)=(noRefs a&&noRefs b):=by
 induction a with
 |nil=>simp[noRefs]
 |cons x a ih=>simp only[List.cons_append,noRefs,ih,Bool.and_assoc]
theorem QaK {α:Type} {f:α->List AV} (h:∀x,noRefs (f x)=true) (l:List α):noRefs (l.flatMap f)=true:=by
 induction l with
 |nil=>rfl
 |cons x l ih=>rw[List.flatMap_cons,Qah,h,ih];rfl
theorem QbM {α:Type} {f:α->List AV} {k:Nat} (h:∀x,(f x).length=k) (l:List α):(l.flatMap f).length=l.length*k:=by
 induction l with
 |nil=>simp
 |cons x l ih=>rw[List.flatMap_cons,List.length_append,h,ih,List.length_cons,Nat.succ_mul];omega
theorem Qbh {α:Type} {f:α->List AV} {k:Nat} (h:∀x,(f x).length=k):∀{l:List α} {i:Nat} {x:α},l[i]?=some x->(l.flatMap f).drop (i*k)=f x++(l.drop (i+1)).flatMap f
 |[],_,_,hx=>by simp at hx
 |y::l,0,x,hx=>by
  simp at hx;subst hx;simp
 |y::l,i+1,x,hx=>by
  simp at hx
  rw[List.flatMap_cons,List.drop_append,h,List.drop_of_length_le (by rw[h,Nat.succ_mul];omega),List.nil_append]
  have:(i+1)*k-k=i*k:=by rw[Nat.succ_mul];omega
  rw[this,Qbh h hx,List.drop_succ_cons]
structure Eg where
 fr:Int
 ev:Int
 to:Int
deriving DecidableEq
def egC (e:Eg):List AV:=[.int .i64 e.fr,.int .i64 e.ev,.int .i64 e.to]
abbrev egs (l:List Eg):AV:= .fsl (l.flatMap egC) l.length 3
theorem Qaf (l:List Eg):noRefs (l.flatMap egC)=true:=QaK (fun x=>rfl) l
theorem Qa5 (l:List Eg):noRef (egs l)=true:=by simp only[noRef];exact Qaf l
theorem Qcx {l:List Eg} {i:Nat} {e:Eg} (h:l[i]?=some e):(l.flatMap egC).drop (i*3)= .int .i64 e.fr:: .int .i64 e.ev:: .int .i64 e.to::(l.drop (i+1)).flatMap egC:=Qbh (f:=egC) (k:=3) (fun _=>rfl) h
theorem Qaw (l:List Int):noRef (sli l)=true:=by simp only[noRef];exact Qaa l
structure Au where
 al:List Int
 n:Int
 ms:List Int
 es:List Eg
abbrev auV (a:Au):AV:= .agg [sli a.al,.int .i64 a.n,sli a.ms,egs a.es]
def eg (e:Ed):Eg:=⟨e.1,e.2.1,e.2.2⟩
def au (a:Aut):Au:=⟨nz a.al,a.n,nz a.ms,a.es.map eg⟩
def rmC (r:Rm):List AV:=[.int .i64 r.st,.int .i64 r.rank,.int .i64 r.reason,.int .i64 r.ev]
theorem Qag (l:List Rm):noRefs (l.flatMap rmC)=true:=QaK (fun x=>rfl) l
end Go.AM.SD
namespace Go.AM.SD
def edC (e:Ed):List AV:=[.int .i64 (e.1:Int),.int .i64 (e.2.1:Int),.int .i64 (e.2.2:Int)]
abbrev egsN (l:List Ed):AV:= .fsl (l.flatMap edC) l.length 3
theorem Qad (l:List Ed):noRefs (l.flatMap edC)=true:=QaK (fun x=>rfl) l
theorem QaI (l:List Ed):noRef (egsN l)=true:=by simp only[noRef];exact Qad l
theorem QaQ {l:List Ed} {i:Nat} {e:Ed} (h:l[i]?=some e):(l.flatMap edC).drop (i*3)= .int .i64 (e.1:Int):: .int .i64 (e.2.1:Int):: .int .i64 (e.2.2:Int)::(l.drop (i+1)).flatMap edC:=Qbh (f:=edC) (k:=3) (fun _=>rfl) h
theorem QnD (l:List Ed):egs (l.map eg)=egsN l:=by
 unfold egs egsN
 rw[List.length_map,List.flatMap_map];rfl
abbrev sliN (l:List Nat):AV:= .fsl (ints (nz l)) l.length 1
theorem QbU (l:List Nat):sli (nz l)=sliN l:=by unfold sli sliN;rw[List.length_map]
theorem Qac (l:List Nat):noRef (sliN l)=true:=by simp only[noRef];exact Qaa _
theorem QaL {l:List Nat} {i x:Nat} (h:l[i]?=some x):((ints (nz l)).drop i).head?=some (.int .i64 (x:Int)):=QaW (nz_at h)
abbrev aV (a:Aut):AV:= .agg [sliN a.al,.int .i64 (a.n:Int),sliN a.ms,egsN a.es]
theorem Qoc (a:Aut):auV (au a)=aV a:=by
 show AV.agg [sli (nz a.al),.int .i64 (a.n:Int),sli (nz a.ms),egs (a.es.map eg)]=_
 rw[QbU,QbU,QnD]
theorem Qcy (a:Aut):noRef (aV a)=true:=by rw[aV,noRef,noRefs,noRefs,noRefs,noRefs,Qac,Qac,QaI];rfl
def bls (l:List Bool):List AV:=l.map .bool
theorem Qae (l:List Bool):noRefs (bls l)=true:=by
 induction l with
 |nil=>rfl
 |cons x l ih=>simp only[bls,List.map_cons,noRefs,noRef,Bool.true_and];exact ih
theorem Qkn {l:List Bool}:(bls l).length=l.length:=by simp[bls]
theorem QaD {a b:List Int}:ints (a++b)=ints a++ints b:=by simp[ints]
theorem QaH {a b:List Nat}:nz (a++b)=nz a++nz b:=by simp
theorem QdO {α:Type} {l:List α} {x:α} (h:x∈l):∃j:Nat,l[j]?=some x/\j<l.length:=by
 obtain⟨j,hj⟩:=List.mem_iff_getElem?.1 h
 exact⟨j,hj,(List.getElem?_eq_some_iff.1 hj).1⟩
theorem QiW {l:List Nat} {x:Nat}:decide ((x:Int)∈nz l)=l.contains x:=by
 have:(x:Int)∈nz l↔x∈l:=⟨fun h=>by
  obtain⟨y,hy,e⟩:=List.mem_map.1 h
  have e:y=x:=by omega
  exact e▸hy,fun h=>List.mem_map.2 ⟨x,h,rfl⟩⟩
 by_cases h:x∈l
 ·rw[decide_eq_true (this.2 h)];simp[h]
 ·rw[decide_eq_false fun h2=>h (this.1 h2)];simp[h]
end Go.AM.SD
namespace Go.AM
theorem QiX {s:List UInt8}:(AV.str s).cells=[.str s]:=rfl
theorem Ql4 {s:List UInt8}:(AV.str s).one=true:=rfl
theorem Ql5 {s:List UInt8}:(AV.str s).boxable=true:=rfl
theorem QhA {a b:List UInt8}:aBin .add (.str a) (.str b)=if a.length+b.length<=1099511627776 then some (.str (a++b))else none:=rfl
open SD
theorem wW:type_of% @QeI/\type_of% @wordsM/\type_of% @QiV/\type_of% @Qhz/\type_of% @Int.one_mul/\type_of% @Qkn/\type_of% @Qd8/\type_of% @QiU/\type_of% @Ql2/\type_of% @Ql3/\type_of% @List.length_replicate.{0}/\type_of% @QiX/\type_of% @Ql4/\type_of% @Ql5/\type_of% @Qio/\type_of% @QlG/\type_of% @Qde/\type_of% @QhA:=
 ⟨@QeI,@wordsM,@QiV,@Qhz,@Int.one_mul,@Qkn,@Qd8,@QiU,@Ql2,@Ql3,@List.length_replicate,@QiX,@Ql4,@Ql5,@Qio,@QlG,@Qde,@QhA⟩
end Go.AM
namespace Go.AM.SE
open Go.Proofs
def s31:SFn:=⟨26,[.tmp 4],
 (.seq (.region [Zz 4 (.mov (.c (.bool false))) []] [] [4])
 (.seq (.seq (.region [Zm 6 0 [],
 Zv 7 6 [0],
 Zm 8 1 [],
 Zv 9 8 [2],
 Zb 10 .neq 7 9 [1,3]] [] [6,7,8,9])
 (.cond (.t 10)
 (.seq (.region [Zz 4 (.mov (.c (.bool false))) []] [] [0,1,10])
 .ret)
 .skip))
 (.seq (.seq (.region [Zm 11 0 [],
 Zv 12 11 [0],
 Zz 13 (.mov (.c (.int .i64 0))) []] [] [4,10,11])
 (.block 0 (.loop (.seq (.region [Zb 14 .lss 13 12 []] [] [])
 (.seq (.cond (.t 14)
 .skip
 (.exit 0))
 (.seq (.block 1 (.seq (.region [Zm 15 13 [],
 Zm 5 15 [0,0]] [] [14,15])
 (.seq (.region [Zm 16 0 [],
 Zm 17 5 [],
 Zi 18 1 16 17 [0,1],
 Zl 19 18 [2],
 Zm 20 1 [],
 Zm 21 5 [],
 Zi 22 1 20 21 [4,5],
 Zl 23 22 [6],
 Zb 24 .neq 19 23 [3,7]] [] [5,16,17,18,19,20,21,22,23])
 (.cond (.t 24)
 (.seq (.region [Zz 4 (.mov (.c (.bool false))) []] [] [0,1,12,13,24])
 .ret)
 .skip))))
 (.region [Zz 25 (.bin .add (.t 13) (.c (.int .i64 1))) [],
 Zm 13 25 [0]] [] [4,24,25])))))))
 (.seq (.region [Zz 4 (.mov (.c (.bool true))) []] [] [0,1,12,13])
 .ret))))⟩
def s33:SFn:=⟨31,[.tmp 4],
 (.seq (.region [Zz 2 (.box .dyn (.t 0)) [],
 Zz 3 (.box .dyn (.t 1)) [],
 Zz 4 (.mov (.c (.bool false))) []] [] [0,1,4])
 (.seq (.region [Zf 5 1 2 [],
 Zl 6 5 [0],
 Zf 7 1 3 [],
 Zl 8 7 [2],
 Zb 9 .eql 6 8 [1,3],
 Zm 10 9 [4],
 Zx 11 (.faddr 0 (.t 2)) [5] 10 true,
 Zx 12 (.load none (.t 11)) [6,5] 10 true,
 Zx 13 (.faddr 0 (.t 3)) [5] 10 true,
 Zx 14 (.load none (.t 13)) [8,5] 10 true,
 Zx 15 (.call .pure (.f 31) [(.t 12),(.t 14)]) [7,9,5,5] 10 true,
 Zz 16 (.pick (.t 10) (.t 15) (.c (.bool false))) [5,10],
 Zm 17 16 [11,10],
 Zx 18 (.faddr 2 (.t 2)) [12] 17 true,
 Zx 19 (.load none (.t 18)) [13,12] 17 true,
 Zx 20 (.faddr 2 (.t 3)) [12] 17 true,
 Zx 21 (.load none (.t 20)) [15,12] 17 true,
 Zx 22 (.call .pure (.f 31) [(.t 19),(.t 21)]) [14,16,12,12] 17 true,
 Zz 23 (.pick (.t 17) (.t 22) (.c (.bool false))) [12,17],
 Zm 24 23 [18,17],
 Zx 25 (.faddr 3 (.t 2)) [19] 24 true,
 Zx 26 (.load none (.t 25)) [20,19] 24 true,
 Zx 27 (.faddr 3 (.t 3)) [19] 24 true,
 Zx 28 (.load none (.t 27)) [22,19] 24 true,
 Zx 29 (.call .pure (.f 106) [(.t 26),(.t 28)]) [21,23,19,19] 24 true,
 Zz 30 (.pick (.t 24) (.t 29) (.c (.bool false))) [19,24],
 Zm 4 30 (Za [25,24] 26)] [] [2,3,5,6,7,8,9,10,11,12,13,14,15,16,17,18,19,20,21,22,23,24,25,26,27,28,29,30])
 .ret))⟩
def s38:SFn:=⟨9,[.tmp 4],
 (.seq (.region [Zz 4 (.mov (.c (.bool false))) []] [] [4])
 (.seq (.region [Zm 5 0 [],
 Zm 6 1 [],
 Zz 7 (.call .pure (.f 111) [(.t 5),(.t 6)]) [0,1],
 Zz 8 (.bin .geq (.t 7) (.c (.int .i64 0))) [2],
 Zm 4 8 [3,2,0,1,2,3]] [] [0,1,5,6,7,8])
 .ret))⟩
def s41:SFn:=⟨8,[.tmp 2],
 (.seq (.region [Zz 2 (.mov (.c .nilsl)) []] [] [2])
 (.seq (.seq (.region [Zm 3 0 [],
 Zz 4 (.eq (.nil 2) false (.t 3) (.c .nilsl)) [0]] [] [3])
 (.cond (.t 4)
 (.seq (.region [Zz 2 (.mov (.c .nilsl)) []] [] [0,4])
 .ret)
 .skip))
 (.seq (.region [Zz 5 (.bslice false .dyn 1 0 [] []) [],
 Zm 6 0 [],
 Zz 7 (.append .dyn 1 8 (.t 5) (.t 6)) [0,1],
 Zm 2 7 [2,2,0,1,2]] [] [0,4,5,6,7])
 .ret)))⟩
def s62:SFn:=⟨39,[.tmp 6],
 (.seq (.region [Zz 3 (.box .dyn (.t 0)) [],
 Zz 6 (.mov (.c (.int .i64 0))) []] [] [0,6])
 (.seq (.seq (.region [Zz 7 (.mov (.c (.int .i64 0))) []] [] [])
 (.block 0 (.loop (.seq (.seq (.region [Zm 8 7 [],
 Zf 9 3 3 [],
 Zl 10 9 [1],
 Zv 11 10 [2],
 Zb 12 .lss 8 11 [0,3]] [] [8,9,10,11])
 (.cond (.t 12)
 .skip
 (.exit 0)))
 (.seq (.block 1 (.seq (.region [Zf 15 3 3 [],
 Zl 16 15 [0],
 Zm 17 7 [],
 Zi 18 3 16 17 [1,2],
 Zf 19 0 18 [3],
 Zl 20 19 [4],
 Zm 21 1 [],
 Zb 22 .eql 20 21 [5,6],
 Zm 23 22 [7],
 Zx 24 (.faddr 3 (.t 3)) [8] 23 true,
 Zx 25 (.load none (.t 24)) [9,8] 23 true,
 Zx 26 (.mov (.t 7)) [8] 23 true,
 Zx 27 (.iaddr none 3 (.t 25) (.t 26)) [10,11,8] 23 true,
 Zx 28 (.faddr 1 (.t 27)) [12,8] 23 true,
 Zx 29 (.load none (.t 28)) [13,8] 23 true,
 Zx 30 (.mov (.t 2)) [8] 23 true,
 Zx 31 (.bin .eql (.t 29) (.t 30)) [14,15,8] 23 true,
 Zz 32 (.pick (.t 23) (.t 31) (.c (.bool false))) [8,16]] [] [12,15,16,17,18,19,20,21,22,23])
 (.cond (.t 32)
 (.seq (.region [Zf 33 3 3 [],
 Zl 34 33 [0],
 Zm 35 7 [],
 Zi 36 3 34 35 [1,2],
 Zf 37 2 36 [3],
 Zl 38 37 [4],
 Zm 6 38 (Za [5] 6)] [] [1,2,3,7,31,29,30,28,27,25,26,24,32,33,34,35,36,37,38])
 .ret)
 .skip)))
 (.region [Zm 13 7 [],
 Zz 14 (.bin .add (.t 13) (.c (.int .i64 1))) [0],
 Zm 7 14 [1,0,1]] [] [6,32,13,14]))))))
 (.seq (.region [Zz 6 (.mov (.c (.int .i64 (-1)))) []] [] [1,2,3,7,31,29,30,28,27,25,26,24])
 .ret)))⟩
def s89:SFn:=⟨19,[.tmp 2],
 (.seq (.region [Zz 2 (.mov (.c .nilsl)) []] [] [2])
 (.seq (.region [Zz 3 (.mov (.c .nilsl)) []] [] [])
 (.seq (.seq (.region [Zz 4 (.mov (.c (.int .i64 0))) []] [] [])
 (.block 0 (.loop (.seq (.seq (.region [Zm 5 4 [],
 Zz 6 (.bin .lss (.t 5) (.c (.int .i64 5))) [0]] [] [5])
 (.cond (.t 6)
 .skip
 (.exit 0)))
 (.seq (.block 1 (.seq (.region [Zm 9 0 [],
 Zm 10 4 [],
 Zb 11 .shr 9 10 [0,1],
 Zz 12 (.bin .and (.t 11) (.c (.int .u8 1))) [2],
 Zz 13 (.bin .eql (.t 12) (.c (.int .u8 1))) [3]] [] [6,9,10,11,12])
 (.cond (.t 13)
 (.region [Zm 14 3 [],
 Zm 15 4 [],
 Zz 16 (.bslice false .dyn 1 1 [(.int .i64 0)] [(0,1,(.t 15))]) [1],
 Zz 17 (.append .dyn 1 8 (.t 14) (.t 16)) [0,2],
 Zm 3 17 [3,3,0,1,2,3]] [] [13,14,15,16,17])
 .skip)))
 (.region [Zm 7 4 [],
 Zz 8 (.bin .add (.t 7) (.c (.int .i64 1))) [0],
 Zm 4 8 [1,0,1]] [] [13,7,8]))))))
 (.seq (.region [Zm 18 3 [],
 Zm 2 18 [0,0]] [] [0,3,4,18])
 .ret))))⟩
def s106:SFn:=⟨26,[.tmp 4],
 (.seq (.region [Zz 4 (.mov (.c (.bool false))) []] [] [4])
 (.seq (.seq (.region [Zm 6 0 [],
 Zv 7 6 [0],
 Zm 8 1 [],
 Zv 9 8 [2],
 Zb 10 .neq 7 9 [1,3]] [] [6,7,8,9])
 (.cond (.t 10)
 (.seq (.region [Zz 4 (.mov (.c (.bool false))) []] [] [0,1,10])
 .ret)
 .skip))
 (.seq (.seq (.region [Zm 11 0 [],
 Zv 12 11 [0],
 Zz 13 (.mov (.c (.int .i64 0))) []] [] [4,10,11])
 (.block 0 (.loop (.seq (.region [Zb 14 .lss 13 12 []] [] [])
 (.seq (.cond (.t 14)
 .skip
 (.exit 0))
 (.seq (.block 1 (.seq (.region [Zm 15 13 [],
 Zm 5 15 [0,0]] [] [14,15])
 (.seq (.region [Zm 16 0 [],
 Zm 17 5 [],
 Zi 18 3 16 17 [0,1],
 Zw 19 3 18 [2],
 Zm 20 1 [],
 Zm 21 5 [],
 Zi 22 3 20 21 [4,5],
 Zw 23 3 22 [6],
 Zz 24 (.eq (.flat true [.i,.i,.i]) true (.t 19) (.t 23)) [3,7]] [] [5,16,17,18,19,20,21,22,23])
 (.cond (.t 24)
 (.seq (.region [Zz 4 (.mov (.c (.bool false))) []] [] [0,1,12,13,24])
 .ret)
 .skip))))
 (.region [Zz 25 (.bin .add (.t 13) (.c (.int .i64 1))) [],
 Zm 13 25 [0]] [] [4,24,25])))))))
 (.seq (.region [Zz 4 (.mov (.c (.bool true))) []] [] [0,1,12,13])
 .ret))))⟩
def s111:SFn:=⟨19,[.tmp 4],
 (.seq (.region [Zz 4 (.mov (.c (.int .i64 0))) []] [] [4])
 (.seq (.seq (.region [Zm 6 0 [],
 Zv 7 6 [0],
 Zz 8 (.mov (.c (.int .i64 0))) []] [] [6])
 (.block 0 (.loop (.seq (.region [Zb 9 .lss 8 7 []] [] [])
 (.seq (.cond (.t 9)
 .skip
 (.exit 0))
 (.seq (.block 1 (.seq (.region [Zm 10 8 [],
 Zm 5 10 [0,0]] [] [9,10])
 (.seq (.region [Zm 11 1 [],
 Zm 12 0 [],
 Zm 13 5 [],
 Zi 14 1 12 13 [1,2],
 Zl 15 14 [3],
 Zb 16 .eql 11 15 [0,4]] [] [11,12,13,14,15])
 (.cond (.t 16)
 (.seq (.region [Zm 17 5 [],
 Zm 4 17 [0,0]] [] [0,1,7,8,5,16,17])
 .ret)
 .skip))))
 (.region [Zz 18 (.bin .add (.t 8) (.c (.int .i64 1))) [],
 Zm 8 18 [0]] [] [4,5,16,18])))))))
 (.seq (.region [Zz 4 (.mov (.c (.int .i64 (-1)))) []] [] [0,1,7,8])
 .ret)))⟩
def s112:SFn:=⟨29,[.tmp 2],
 (.seq (.region [Zz 1 (.box .dyn (.t 0)) [],
 Zz 2 (.mov (.c (.int .i64 0))) []] [] [0,2])
 (.seq (.seq (.region [Zf 5 0 1 [],
 Zl 6 5 [0],
 Zz 7 (.call .pure (.f 192) [(.t 6),(.c (.int .i64 32))]) [1],
 Zm 3 7 [2,2,0,1,2]] [] [5,6,7])
 (.seq (.region [Zm 8 3 [],
 Zz 9 (.bin .neq (.t 8) (.c (.int .i64 0))) [0]] [] [8])
 (.cond (.t 9)
 (.seq (.region [Zm 10 3 [],
 Zm 2 10 [0,0]] [] [1,3,9,10])
 .ret)
 .skip)))
 (.seq (.block 0 (.seq (.region [Zf 12 1 1 [],
 Zl 13 12 [0],
 Zz 14 (.bin .lss (.t 13) (.c (.int .i64 0))) [1],
 Zm 11 14 [2]] [] [2,3,9,12,13,14])
 (.cond (.t 11)
 (.seq (.region [Zz 2 (.mov (.c (.int .i64 2))) []] [] [1,11])
 .ret)
 (.seq (.region [Zf 16 1 1 [],
 Zl 17 16 [0],
 Zz 18 (.bin .gtr (.t 17) (.c (.int .i64 4096))) [1],
 Zm 15 18 [2]] [] [11,16,17,18])
 (.cond (.t 15)
 (.seq (.region [Zz 2 (.mov (.c (.int .i64 3))) []] [] [1,15])
 .ret)
 .skip)))))
 (.seq (.seq (.region [Zf 19 2 1 [],
 Zl 20 19 [0],
 Zf 21 1 1 [],
 Zl 22 21 [2],
 Zz 23 (.call .pure (.f 192) [(.t 20),(.t 22)]) [1,3],
 Zm 4 23 (Za [4,4] 5)] [] [2,15,19,20,21,22,23])
 (.seq (.region [Zm 24 4 [],
 Zz 25 (.bin .neq (.t 24) (.c (.int .i64 0))) [0]] [] [24])
 (.cond (.t 25)
 (.seq (.region [Zm 26 4 [],
 Zm 2 26 [0,0]] [] [1,4,25,26])
 .ret)
 .skip)))
 (.seq (.region [Zw 27 4 1 [],
 Zz 28 (.call .pure (.f 193) [(.t 27)]) [0],
 Zm 2 28 [1,1,0,1]] [] [1,4,25,27,28])
 .ret)))))⟩
def s144:SFn:=⟨54,[.tmp 4,.tmp 5],
 (.seq (.region [Zz 4 (.mov (.c (.int .i64 0))) [],
 Zz 5 (.mov (.c (.bool false))) [0]] [] [4,5])
 (.seq (.region [Zm 10 0 [],
 Zv 11 10 [0],
 Zm 6 11 [1,0,1]] [] [10,11])
 (.seq (.region [Zm 12 6 [],
 Zz 7 (.mov (.c (.int .i64 0))) [],
 Zm 8 12 [0,1,0,1]] [] [12])
 (.seq (.block 0 (.loop (.seq (.seq (.region [Zm 13 7 [],
 Zm 14 8 [],
 Zb 15 .lss 13 14 [0,1]] [] [13,14])
 (.cond (.t 15)
 .skip
 (.exit 0)))
 (.block 1 (.seq (.region [Zm 16 7 [],
 Zm 17 8 [],
 Zb 18 .add 16 17 [0,1],
 Zz 19 (.conv .u64 (.t 18)) [2],
 Zz 20 (.bin .shr (.t 19) (.c (.int .u64 1))) [3],
 Zz 21 (.conv .i64 (.t 20)) [4],
 Zm 9 21 (Za [5] 6)] [] [15,16,17,18,19,20,21])
 (.seq (.region [Zm 22 0 [],
 Zm 23 9 [],
 Zi 24 1 22 23 [0,1],
 Zl 25 24 [2],
 Zm 26 1 [],
 Zz 27 (.call .pure (.f 197) [(.t 25),(.t 26)]) [3,4]] [] [22,23,24,25,26])
 (.cond (.t 27)
 (.region [Zm 28 9 [],
 Zz 29 (.bin .add (.t 28) (.c (.int .i64 1))) [0],
 Zm 7 29 [1,0,1]] [] [9,27,28,29])
 (.region [Zm 30 9 [],
 Zm 8 30 [0,0]] [] [9,27,30]))))))))
 (.seq (.region [Zm 31 7 [],
 Zm 32 7 [],
 Zm 33 6 [],
 Zb 34 .lss 32 33 [1,2],
 Zm 35 34 [3],
 Zx 36 (.mov (.t 0)) [4] 35 true,
 Zx 37 (.mov (.t 7)) [4] 35 true,
 Zx 38 (.iaddr none 1 (.t 36) (.t 37)) [5,6,4] 35 true,
 Zx 39 (.load none (.t 38)) [7,4] 35 true,
 Zx 40 (.mov (.t 1)) [4] 35 true,
 Zx 41 (.bin .eql (.t 39) (.t 40)) [8,9,4] 35 true,
 Zx 42 (.mov (.t 41)) [10,4,4] 35 true,
 Zx 43 (.mov (.t 0)) [11] 42 false,
 Zx 44 (.mov (.t 7)) [11] 42 false,
 Zx 45 (.iaddr none 1 (.t 43) (.t 44)) [12,13,11] 42 false,
 Zx 46 (.load none (.t 45)) [14,11] 42 false,
 Zx 47 (.call .pure (.f 198) [(.t 46)]) [15,11,11] 42 false,
 Zx 48 (.mov (.t 47)) [16,16,11] 42 false,
 Zx 49 (.mov (.t 1)) [17] 48 true,
 Zx 50 (.call .pure (.f 198) [(.t 49)]) [18,17,17] 48 true,
 Zx 51 (.pick (.t 48) (.t 50) (.c (.bool false))) [17,19,11] 42 false,
 Zx 52 (.pick (.t 42) (.c (.bool true)) (.t 51)) [11,20,4] 35 true,
 Zz 53 (.pick (.t 35) (.t 52) (.c (.bool false))) [4,21],
 Zm 4 31 [0,19,0],
 Zm 5 53 (Za [22,23] 24)] [] [0,1,6,7,8,52,42,51,48,50,49,47,46,45,43,44,41,39,40,38,36,37,31,32,33,34,35,53])
 .ret)))))⟩
def s150:SFn:=⟨105,[.cell 2 (some 4)],
 (.seq (.region [Zz 1 (.box .dyn (.t 0)) [],
 Zz 2 (.alloc .dyn (.agg [.nilsl,(.int .i64 0),.nilsl,.nilsl])) []] [] [0])
 (.seq (.region [Zf 12 0 1 [],
 Zl 13 12 [0],
 Zz 14 (.call .heap (.f 41) [(.t 13)]) [1],
 Zz 15 (.build [.nilsl,(.int .i64 0),.nilsl,.nilsl] [(0,1,(.t 14))]) [2],
 Zz 3 (.alloc .dyn (.agg [.nilsl,(.int .i64 0),.nilsl,.nilsl])) [],
 Zs 4 3 15 (Za [4,3,2] 5)] [] [12,13,14,15])
 (.seq (.seq (.region [Zf 16 1 1 [],
 Zl 17 16 [0],
 Zz 18 (.bin .eql (.t 17) (.c (.int .i64 0))) [1]] [] [16,17])
 (.cond (.t 18)
 (.seq (.region [Zw 19 4 3 [],
 Zs 4 2 19 [0,0]] [] [1,3,18,19])
 .ret)
 .skip))
 (.seq (.region [Zf 20 1 1 [],
 Zl 21 20 [0],
 Zz 22 (.mkslice .dyn 1 8 [(.int .i64 0)] (.t 21) (.t 21)) [1,1],
 Zm 4 22 [2,0,1,2]] [] [18,20,21,22])
 (.seq (.seq (.region [Zm 23 4 [],
 Zv 24 23 [0],
 Zz 25 (.mov (.c (.int .i64 0))) []] [] [23])
 (.block 0 (.loop (.seq (.region [Zb 26 .lss 25 24 []] [] [])
 (.seq (.cond (.t 26)
 .skip
 (.exit 0))
 (.seq (.block 1 (.seq (.region [Zm 27 25 [],
 Zm 5 27 [0,0]] [] [26,27])
 (.region [Zm 28 4 [],
 Zm 29 5 [],
 Zi 30 1 28 29 [0,1,0,1],
 Zy (.store 1 (.t 30) (.c (.int .i64 (-1)))) [2,0,1]] [] [5,28,29,30])))
 (.region [Zz 31 (.bin .add (.t 25) (.c (.int .i64 1))) [],
 Zm 25 31 [0]] [] [31])))))))
 (.seq (.region [Zm 32 4 [],
 Zz 33 (.iaddr none 1 (.t 32) (.c (.int .i64 0))) [0,0],
 Zy (.store 1 (.t 33) (.c (.int .i64 0))) [1,0]] [] [24,25,32,33])
 (.seq (.region [Zz 34 (.bslice false .dyn 1 1 [(.int .i64 0)] [(0,1,(.c (.int .i64 0)))]) [],
 Zm 6 34 [0,0]] [] [34])
 (.seq (.seq (.region [Zz 7 (.mov (.c (.int .i64 0))) []] [] [])
 (.block 2 (.loop (.seq (.seq (.region [Zm 35 7 [],
 Zm 36 6 [],
 Zv 37 36 [1],
 Zb 38 .lss 35 37 [0,2]] [] [35,36,37])
 (.cond (.t 38)
 .skip
 (.exit 2)))
 (.seq (.block 3 (.seq (.seq (.region [Zf 42 2 1 [],
 Zl 43 42 [0],
 Zm 44 6 [],
 Zm 45 7 [],
 Zi 46 1 44 45 [2,3],
 Zl 47 46 [4],
 Zz 48 (.call .pure (.f 144) [(.t 43),(.t 47)]) [1,5],
 Zm 41 48 [6],
 Zz 49 (.extract 0 (.t 41)) [7],
 Zz 50 (.extract 1 (.t 41)) [7],
 Zm 8 49 (Za [8,6] 9),
 Zm 9 50 (Za [9,10] 11)] [] [38,42,43,44,45,46,47,48,41,49,50,8])
 (.seq (.region [Zm 51 9 []] [] [9])
 (.cond (.t 51)
 (.region [Zf 52 2 3 [],
 Zl 53 52 [0],
 Zm 54 7 [],
 Zz 55 (.bslice false .dyn 1 1 [(.int .i64 0)] [(0,1,(.t 54))]) [2],
 Zz 56 (.append .dyn 1 8 (.t 53) (.t 55)) [1,3],
 Zf 57 2 3 (Za [] 5),
 Zs 1 57 56 (Za [5,4,4] 5)] [] [51,52,53,54,55,56,57])
 .skip)))
 (.seq (.region [Zw 58 4 1 [],
 Zm 59 6 [],
 Zm 60 7 [],
 Zi 61 1 59 60 [1,2],
 Zl 62 61 [3],
 Zz 63 (.call .pure (.f 199) [(.t 58),(.t 62)]) [0,4],
 Zv 64 63 [5],
 Zz 65 (.mov (.c (.int .i64 0))) []] [] [51,58,59,60,61,62])
 (.block 4 (.loop (.seq (.region [Zb 66 .lss 65 64 []] [] [])
 (.seq (.cond (.t 66)
 .skip
 (.exit 4))
 (.seq (.block 5 (.seq (.region [Zi 67 3 63 65 [],
 Zw 68 3 67 [0],
 Zz 11 (.alloc .dyn (.agg [(.int .i64 0),(.int .i64 0),(.int .i64 0)])) [],
 Zs 3 11 68 [2,1,0,1,2]] [] [66,67,68])
 (.seq (.seq (.region [Zm 69 4 [],
 Zf 70 2 11 [],
 Zl 71 70 [1],
 Zi 72 1 69 71 [0,2],
 Zl 73 72 [3],
 Zz 74 (.bin .lss (.t 73) (.c (.int .i64 0))) [4]] [] [69,70,71,72,73])
 (.cond (.t 74)
 (.seq (.region [Zm 75 4 [],
 Zf 76 2 11 [],
 Zl 77 76 [1],
 Zm 78 6 [],
 Zv 79 78 [3],
 Zi 80 1 75 77 (Za [0,2] 5),
 Zs 1 80 79 (Za [5,4] 5)] [] [74,75,76,77,78,79,80])
 (.region [Zm 81 6 [],
 Zf 82 2 11 [],
 Zl 83 82 [1],
 Zz 84 (.bslice false .dyn 1 1 [(.int .i64 0)] [(0,1,(.t 83))]) [2],
 Zz 85 (.append .dyn 1 8 (.t 81) (.t 84)) [0,3],
 Zm 6 85 (Za [4,4] 5)] [] [81,82,83,84,85]))
 .skip))
 (.region [Zf 86 3 3 [],
 Zl 87 86 [0],
 Zm 88 7 [],
 Zf 89 1 11 [],
 Zl 90 89 [3],
 Zm 91 4 [],
 Zf 92 2 11 [],
 Zl 93 92 [6],
 Zi 94 1 91 93 [5,7],
 Zl 95 94 [8],
 Zz 96 (.build [(.int .i64 0),(.int .i64 0),(.int .i64 0)] [(0,1,(.t 88)),(1,1,(.t 90)),(2,1,(.t 95))]) [2,4,9],
 Zz 97 (.bslice false .dyn 3 1 [(.int .i64 0),(.int .i64 0),(.int .i64 0)] [(0,3,(.t 96))]) [10],
 Zz 98 (.append .dyn 3 24 (.t 87) (.t 97)) [1,11],
 Zf 99 3 3 (Za [] 13),
 Zs 1 99 98 (Za [13,12,12] 13)] [] [11,74,86,87,88,89,90,91,92,93,94,95,96,97,98,99]))))
 (.region [Zz 100 (.bin .add (.t 65) (.c (.int .i64 1))) [],
 Zm 65 100 [0]] [] [100])))))))))
 (.region [Zm 39 7 [],
 Zz 40 (.bin .add (.t 39) (.c (.int .i64 1))) [0],
 Zm 7 40 [1,0,1]] [] [63,64,65,39,40]))))))
 (.seq (.region [Zm 101 6 [],
 Zv 102 101 [0],
 Zf 103 1 3 [0,1],
 Zs 1 103 102 [2,1,0,1]] [] [1,4,6,7,101,102,103])
 (.seq (.region [Zw 104 4 3 [],
 Zs 4 2 104 [0,0]] [] [3,104])
 .ret))))))))))⟩
def s185:SFn:=⟨79,[.cell 4 (some 4)],
 (.seq (.region [Zz 3 (.box .dyn (.t 1)) [],
 Zz 4 (.alloc .dyn (.agg [.nilsl,(.int .i64 0),.nilsl,.nilsl])) []] [] [1])
 (.seq (.seq (.region [Zf 9 0 3 [],
 Zl 10 9 [0],
 Zz 11 (.bin .geq (.t 10) (.c (.int .u8 250))) [1]] [] [9,10])
 (.cond (.t 11)
 (.seq (.region [Zm 12 0 [],
 Zz 13 (.call .pure (.f 224) [(.t 12)]) [0],
 Zs 4 4 13 [1,1,0,1]] [] [0,3,11,12,13])
 .ret)
 .skip))
 (.seq (.region [Zm 14 0 [],
 Zz 15 (.call .pure (.f 224) [(.t 14)]) [0],
 Zz 5 (.alloc .dyn (.agg [.nilsl,(.int .i64 0),.nilsl,.nilsl])) [],
 Zs 4 5 15 [2,1,1,0,1,2]] [] [11,14,15])
 (.seq (.region [Zf 16 0 3 [],
 Zl 17 16 [0],
 Zz 18 (.bin .rem (.t 17) (.c (.int .u8 5))) [1],
 Zz 19 (.conv .i64 (.t 18)) [2],
 Zz 20 (.bin .add (.c (.int .i64 1)) (.t 19)) [3],
 Zf 21 1 5 (Za [] 5),
 Zs 1 21 20 (Za [5,4] 5)] [] [16,17,18,19,20,21])
 (.seq (.seq (.region [Zz 6 (.mov (.c (.int .i64 0))) []] [] [])
 (.block 0 (.loop (.seq (.seq (.region [Zm 22 6 [],
 Zf 23 1 5 [],
 Zl 24 23 [1],
 Zb 25 .lss 22 24 [0,2]] [] [22,23,24])
 (.cond (.t 25)
 .skip
 (.exit 0)))
 (.seq (.block 1 (.seq (.seq (.region [Zf 28 1 3 [],
 Zl 29 28 [0],
 Zm 30 6 [],
 Zb 31 .shr 29 30 [1,2],
 Zz 32 (.bin .and (.t 31) (.c (.int .u8 1))) [3],
 Zz 33 (.bin .eql (.t 32) (.c (.int .u8 1))) [4]] [] [25,28,29,30,31,32])
 (.cond (.t 33)
 (.region [Zf 34 2 5 [],
 Zl 35 34 [0],
 Zm 36 6 [],
 Zz 37 (.bslice false .dyn 1 1 [(.int .i64 0)] [(0,1,(.t 36))]) [2],
 Zz 38 (.append .dyn 1 8 (.t 35) (.t 37)) [1,3],
 Zf 39 2 5 (Za [] 5),
 Zs 1 39 38 (Za [5,4,4] 5)] [] [33,34,35,36,37,38,39])
 .skip))
 (.seq (.region [Zz 7 (.mov (.c (.int .i64 0))) []] [] [33])
 (.block 2 (.loop (.seq (.seq (.region [Zm 40 7 [],
 Zm 41 0 [],
 Zv 42 41 [1],
 Zb 43 .lss 40 42 [0,2],
 Zm 44 43 [3],
 Zx 45 (.mov (.t 7)) [4] 44 true,
 Zx 46 (.bin .lss (.t 45) (.c (.int .i64 5))) [5,4] 44 true,
 Zz 47 (.pick (.t 44) (.t 46) (.c (.bool false))) [4,6]] [] [40,41,42,43,44])
 (.cond (.t 47)
 .skip
 (.exit 2)))
 (.seq (.block 3 (.seq (.region [Zm 50 6 [],
 Zm 51 7 [],
 Zf 52 2 3 [],
 Zz 53 (.iaddr (some 5) 5 (.t 52) (.t 50)) [2,0],
 Zz 54 (.iaddr (some 5) 1 (.t 53) (.t 51)) [3,1],
 Zl 55 54 [4],
 Zz 56 (.conv .i64 (.t 55)) [5],
 Zf 57 1 5 [],
 Zl 58 57 [7],
 Zz 59 (.bin .add (.t 58) (.c (.int .i64 2))) [8],
 Zb 60 .rem 56 59 [6,9],
 Zm 8 60 (Za [10] 11)] [] [47,50,51,52,53,54,55,56,57,58,59,60])
 (.seq (.region [Zm 61 8 [],
 Zf 62 1 5 [],
 Zl 63 62 [1],
 Zb 64 .lss 61 63 [0,2]] [] [61,62,63])
 (.cond (.t 64)
 (.region [Zf 65 3 5 [],
 Zl 66 65 [0],
 Zm 67 6 [],
 Zm 68 0 [],
 Zm 69 7 [],
 Zi 70 1 68 69 [3,4],
 Zl 71 70 [5],
 Zm 72 8 [],
 Zz 73 (.build [(.int .i64 0),(.int .i64 0),(.int .i64 0)] [(0,1,(.t 67)),(1,1,(.t 71)),(2,1,(.t 72))]) [2,6,7],
 Zz 74 (.bslice false .dyn 3 1 [(.int .i64 0),(.int .i64 0),(.int .i64 0)] [(0,3,(.t 73))]) [8],
 Zz 75 (.append .dyn 3 24 (.t 66) (.t 74)) [1,9],
 Zf 76 3 5 (Za [] 11),
 Zs 1 76 75 (Za [11,10,10] 11)] [] [8,64,65,66,67,68,69,70,71,72,73,74,75,76])
 .skip))))
 (.region [Zm 48 7 [],
 Zz 49 (.bin .add (.t 48) (.c (.int .i64 1))) [0],
 Zm 7 49 [1,0,1]] [] [8,64,48,49]))))))))
 (.region [Zm 26 6 [],
 Zz 27 (.bin .add (.t 26) (.c (.int .i64 1))) [0],
 Zm 6 27 [1,0,1]] [] [7,26,27]))))))
 (.seq (.region [Zw 77 4 5 [],
 Zz 78 (.call .pure (.f 225) [(.t 77)]) [0],
 Zs 4 4 78 [1,1,0,1]] [] [0,3,5,6,46,45,77,78])
 .ret))))))⟩
def s192:SFn:=⟨35,[.tmp 4],
 (.seq (.region [Zz 4 (.mov (.c (.int .i64 0))) []] [] [4])
 (.seq (.seq (.region [Zm 7 0 [],
 Zv 8 7 [0],
 Zz 9 (.mov (.c (.int .i64 0))) []] [] [])
 (.block 0 (.loop (.seq (.region [Zb 10 .lss 9 8 []] [] [])
 (.seq (.cond (.t 10)
 .skip
 (.exit 0))
 (.seq (.block 1 (.seq (.region [Zm 11 9 [],
 Zi 12 1 7 9 [],
 Zl 13 12 [1],
 Zm 5 11 [0,0,1,2],
 Zm 6 13 [2,3,0,1,2,3]] [] [10,11,12,13])
 (.block 2 (.seq (.region [Zm 15 6 [],
 Zz 16 (.bin .lss (.t 15) (.c (.int .i64 0))) [0],
 Zm 17 16 [1],
 Zx 18 (.mov (.t 6)) [2] 17 false,
 Zx 19 (.mov (.t 1)) [2] 17 false,
 Zx 20 (.bin .geq (.t 18) (.t 19)) [3,4,2] 17 false,
 Zz 21 (.pick (.t 17) (.c (.bool true)) (.t 20)) [2,5],
 Zm 14 21 [6,2]] [] [15,16,17,21])
 (.cond (.t 14)
 (.seq (.region [Zz 4 (.mov (.c (.int .i64 2))) []] [] [0,1,7,8,9,32,26,31,30,27,29,28,20,18,19,5,6,14])
 .ret)
 (.seq (.region [Zm 23 5 [],
 Zz 24 (.bin .gtr (.t 23) (.c (.int .i64 0))) [0],
 Zm 25 24 [1],
 Zx 26 (.mov (.t 6)) [2] 25 true,
 Zx 27 (.mov (.t 0)) [2] 25 true,
 Zx 28 (.mov (.t 5)) [2] 25 true,
 Zx 29 (.bin .sub (.t 28) (.c (.int .i64 1))) [5,2] 25 true,
 Zx 30 (.iaddr none 1 (.t 27) (.t 29)) [4,6,2] 25 true,
 Zx 31 (.load none (.t 30)) [7,2] 25 true,
 Zx 32 (.bin .leq (.t 26) (.t 31)) [3,8,2] 25 true,
 Zz 33 (.pick (.t 25) (.t 32) (.c (.bool false))) [2,9],
 Zm 22 33 [10,2]] [] [5,6,14,23,24,25,33])
 (.cond (.t 22)
 (.seq (.region [Zz 4 (.mov (.c (.int .i64 5))) []] [] [0,1,7,8,9,32,26,31,30,27,29,28,20,18,19,22])
 .ret)
 .skip)))))))
 (.region [Zz 34 (.bin .add (.t 9) (.c (.int .i64 1))) [],
 Zm 9 34 [0]] [] [4,22,34])))))))
 (.seq (.region [Zz 4 (.mov (.c (.int .i64 0))) []] [] [0,1,7,8,9,32,26,31,30,27,29,28,20,18,19])
 .ret)))⟩
def s193:SFn:=⟨72,[.tmp 2],
 (.seq (.region [Zz 1 (.box .dyn (.t 0)) [],
 Zz 2 (.mov (.c (.int .i64 0))) []] [] [0,2])
 (.seq (.seq (.region [Zf 6 3 1 [],
 Zl 7 6 [0],
 Zv 8 7 [1],
 Zz 9 (.mov (.c (.int .i64 0))) []] [] [6])
 (.block 0 (.loop (.seq (.region [Zb 10 .lss 9 8 []] [] [])
 (.seq (.cond (.t 10)
 .skip
 (.exit 0))
 (.seq (.block 1 (.seq (.region [Zm 11 9 [],
 Zi 12 3 7 9 [],
 Zw 13 3 12 [1],
 Zz 4 (.alloc .dyn (.agg [(.int .i64 0),(.int .i64 0),(.int .i64 0)])) [],
 Zm 3 11 [0,0,1,2,3],
 Zs 3 4 13 (Za [3,2,4] 5)] [] [10,11,12,13])
 (.seq (.block 2 (.seq (.region [Zf 15 0 4 [],
 Zl 16 15 [0],
 Zz 17 (.bin .lss (.t 16) (.c (.int .i64 0))) [1],
 Zm 18 17 [2],
 Zx 19 (.faddr 0 (.t 4)) [3] 18 false,
 Zx 20 (.load none (.t 19)) [4,3] 18 false,
 Zx 21 (.faddr 1 (.t 1)) [3] 18 false,
 Zx 22 (.load none (.t 21)) [6,3] 18 false,
 Zx 23 (.bin .geq (.t 20) (.t 22)) [5,7,3] 18 false,
 Zz 24 (.pick (.t 18) (.c (.bool true)) (.t 23)) [3,8],
 Zm 25 24 [9,3],
 Zx 26 (.faddr 2 (.t 4)) [10] 25 false,
 Zx 27 (.load none (.t 26)) [11,10] 25 false,
 Zx 28 (.bin .lss (.t 27) (.c (.int .i64 0))) [12,10] 25 false,
 Zz 29 (.pick (.t 25) (.c (.bool true)) (.t 28)) [10,13],
 Zm 30 29 [14,10],
 Zx 31 (.faddr 2 (.t 4)) [15] 30 false,
 Zx 32 (.load none (.t 31)) [16,15] 30 false,
 Zx 33 (.faddr 1 (.t 1)) [15] 30 false,
 Zx 34 (.load none (.t 33)) [18,15] 30 false,
 Zx 35 (.bin .geq (.t 32) (.t 34)) [17,19,15] 30 false,
 Zz 36 (.pick (.t 30) (.c (.bool true)) (.t 35)) [15,20],
 Zm 14 36 [21,15]] [] [15,16,17,18,24,25,29,30,36])
 (.cond (.t 14)
 (.seq (.region [Zz 2 (.mov (.c (.int .i64 2))) []] [] [1,7,8,9,69,63,68,65,67,66,64,62,59,61,60,58,35,32,34,33,31,28,27,26,23,20,22,21,19,4,3,14])
 .ret)
 (.seq (.region [Zf 38 0 1 [],
 Zl 39 38 [0],
 Zf 40 1 4 [],
 Zl 41 40 [2],
 Zz 42 (.call .pure (.f 38) [(.t 39),(.t 41)]) [1,3],
 Zz 43 (.un .not (.t 42)) [4],
 Zm 37 43 [5,4]] [] [14,38,39,40,41,42,43])
 (.cond (.t 37)
 (.seq (.region [Zz 2 (.mov (.c (.int .i64 9))) []] [] [1,7,8,9,69,63,68,65,67,66,64,62,59,61,60,58,35,32,34,33,31,28,27,26,23,20,22,21,19,4,3,37])
 .ret)
 .skip)))))
 (.seq (.seq (.region [Zm 44 3 [],
 Zz 45 (.bin .eql (.t 44) (.c (.int .i64 0))) [0]] [] [2,37,44])
 (.cond (.t 45)
 (.exit 1)
 .skip))
 (.seq (.region [Zf 46 3 1 [],
 Zl 47 46 [0],
 Zm 48 3 [],
 Zz 49 (.bin .sub (.t 48) (.c (.int .i64 1))) [2],
 Zi 50 3 47 49 [1,3],
 Zw 51 3 50 [4],
 Zz 5 (.alloc .dyn (.agg [(.int .i64 0),(.int .i64 0),(.int .i64 0)])) [],
 Zs 3 5 51 (Za [6,5] 7)] [] [3,45,46,47,48,49,50,51])
 (.seq (.region [Zf 52 0 4 [],
 Zl 53 52 [0],
 Zf 54 0 5 [],
 Zl 55 54 [2],
 Zb 56 .lss 53 55 [1,3],
 Zm 57 56 [4],
 Zx 58 (.faddr 0 (.t 4)) [5] 57 false,
 Zx 59 (.load none (.t 58)) [6,5] 57 false,
 Zx 60 (.faddr 0 (.t 5)) [5] 57 false,
 Zx 61 (.load none (.t 60)) [8,5] 57 false,
 Zx 62 (.bin .eql (.t 59) (.t 61)) [7,9,5] 57 false,
 Zx 63 (.mov (.t 62)) [10,5,5] 57 false,
 Zx 64 (.faddr 1 (.t 4)) [11] 63 true,
 Zx 65 (.load none (.t 64)) [12,11] 63 true,
 Zx 66 (.faddr 1 (.t 5)) [11] 63 true,
 Zx 67 (.load none (.t 66)) [14,11] 63 true,
 Zx 68 (.bin .leq (.t 65) (.t 67)) [13,15,11] 63 true,
 Zx 69 (.pick (.t 63) (.t 68) (.c (.bool false))) [11,16,5] 57 false,
 Zz 70 (.pick (.t 57) (.c (.bool true)) (.t 69)) [5,17]] [] [4,5,52,53,54,55,56,57])
 (.cond (.t 70)
 (.seq (.region [Zz 2 (.mov (.c (.int .i64 5))) []] [] [1,7,8,9,69,63,68,65,67,66,64,62,59,61,60,58,35,32,34,33,31,28,27,26,23,20,22,21,19,70])
 .ret)
 .skip)))))))
 (.region [Zz 71 (.bin .add (.t 9) (.c (.int .i64 1))) [],
 Zm 9 71 [0]] [] [2,70,71])))))))
 (.seq (.region [Zz 2 (.mov (.c (.int .i64 0))) []] [] [1,7,8,9,69,63,68,65,67,66,64,62,59,61,60,58,35,32,34,33,31,28,27,26,23,20,22,21,19])
 .ret)))⟩
def s197:SFn:=⟨17,[.tmp 4],
 (.seq (.region [Zz 4 (.mov (.c (.bool false))) []] [] [4])
 (.seq (.region [Zm 5 0 [],
 Zz 6 (.call .pure (.f 227) [(.t 5)]) [0],
 Zm 7 6 [1,1],
 Zx 8 (.mov (.t 1)) [2] 7 true,
 Zx 9 (.call .pure (.f 227) [(.t 8)]) [3,2,2] 7 true,
 Zx 10 (.un .not (.t 9)) [4,2] 7 true,
 Zz 11 (.pick (.t 7) (.t 10) (.c (.bool false))) [2,5],
 Zm 12 11 [6,4],
 Zx 13 (.mov (.t 0)) [7] 12 false,
 Zx 14 (.mov (.t 1)) [7] 12 false,
 Zx 15 (.bin .lss (.t 13) (.t 14)) [8,9,7] 12 false,
 Zz 16 (.pick (.t 12) (.c (.bool true)) (.t 15)) [7,10],
 Zm 4 16 (Za [11,7] 12)] [] [0,1,5,6,7,8,9,10,11,12,13,14,15,16])
 .ret))⟩
def s198:SFn:=⟨6,[.tmp 2],
 (.seq (.region [Zz 2 (.mov (.c (.bool false))) []] [] [2])
 (.seq (.region [Zm 3 0 [],
 Zm 4 0 [],
 Zb 5 .neq 3 4 [0,1],
 Zm 2 5 [2,0,1,2]] [] [0,3,4,5])
 .ret))⟩
def s199:SFn:=⟨29,[.tmp 4],
 (.seq (.region [Zz 2 (.box .dyn (.t 0)) [],
 Zz 4 (.mov (.c .nilsl)) []] [] [0,4])
 (.seq (.region [Zf 10 3 2 [],
 Zl 11 10 [0],
 Zm 12 1 [],
 Zz 13 (.call .pure (.f 228) [(.t 11),(.t 12),(.f 229)]) [1,2],
 Zm 9 13 [3],
 Zz 14 (.extract 0 (.t 9)) [4],
 Zz 15 (.extract 1 (.t 9)) [4],
 Zm 5 14 (Za [5,3] 6),
 Zm 6 15 (Za [6,7] 8)] [] [10,11,12,13,9,14,15,6])
 (.seq (.region [Zf 17 3 2 [],
 Zl 18 17 [0],
 Zm 19 1 [],
 Zz 20 (.bin .add (.t 19) (.c (.int .i64 1))) [2],
 Zz 21 (.call .pure (.f 228) [(.t 18),(.t 20),(.f 230)]) [1,3],
 Zm 16 21 [4],
 Zz 22 (.extract 0 (.t 16)) [5],
 Zz 23 (.extract 1 (.t 16)) [5],
 Zm 7 22 (Za [6,4] 7),
 Zm 8 23 (Za [7,8] 9)] [] [1,17,18,19,20,21,16,22,23,8])
 (.seq (.region [Zf 24 3 2 [],
 Zl 25 24 [0],
 Zm 26 5 [],
 Zm 27 7 [],
 Zz 28 (.slice (some 3) (.t 25) (some (.t 26)) (some (.t 27)) none) [1,2,3],
 Zm 4 28 (Za [4] 5)] [] [2,5,7,24,25,26,27,28])
 .ret))))⟩
def s224:SFn:=⟨7,[.cell 2 (some 4)],
 (.seq (.region [Zz 2 (.alloc .dyn (.agg [.nilsl,(.int .i64 0),.nilsl,.nilsl])) []] [] [])
 (.seq (.region [Zz 3 (.bslice false .dyn 1 0 [] []) [],
 Zm 4 0 [],
 Zz 5 (.append .dyn 1 8 (.t 3) (.t 4)) [0,1],
 Zz 6 (.build [.nilsl,(.int .i64 0),.nilsl,.nilsl] [(0,1,(.t 5))]) [2],
 Zs 4 2 6 [3,2,0,1,2,3]] [] [0,3,4,5,6])
 .ret))⟩
def s225:SFn:=⟨71,[.cell 2 (some 4)],
 (.seq (.region [Zz 1 (.box .dyn (.t 0)) [],
 Zz 2 (.alloc .dyn (.agg [.nilsl,(.int .i64 0),.nilsl,.nilsl])) []] [] [0])
 (.seq (.region [Zw 8 4 1 [],
 Zz 9 (.call .pure (.f 259) [(.t 8)]) [0],
 Zm 3 9 [1,1,0,1]] [] [8,9])
 (.seq (.region [Zf 10 0 1 [],
 Zl 11 10 [0],
 Zz 12 (.call .pure (.f 224) [(.t 11)]) [1],
 Zz 4 (.alloc .dyn (.agg [.nilsl,(.int .i64 0),.nilsl,.nilsl])) [],
 Zs 4 4 12 [3,2,2,0,1,2,3]] [] [10,11,12])
 (.seq (.region [Zm 13 3 [],
 Zv 14 13 [0],
 Zf 15 1 4 [0,1],
 Zs 1 15 14 [2,1,0,1]] [] [13,14,15])
 (.seq (.seq (.region [Zz 5 (.mov (.c (.int .i64 0))) []] [] [])
 (.block 0 (.loop (.seq (.seq (.region [Zm 16 5 [],
 Zm 17 3 [],
 Zv 18 17 [1],
 Zb 19 .lss 16 18 [0,2]] [] [16,17,18])
 (.cond (.t 19)
 .skip
 (.exit 0)))
 (.seq (.block 1 (.seq (.seq (.region [Zf 22 2 1 [],
 Zl 23 22 [0],
 Zm 24 3 [],
 Zm 25 5 [],
 Zi 26 1 24 25 [2,3],
 Zl 27 26 [4],
 Zz 28 (.call .heap (.f 260) [(.t 23),(.t 27)]) [1,5]] [] [19,22,23,24,25,26,27])
 (.cond (.t 28)
 (.region [Zf 29 2 4 [],
 Zl 30 29 [0],
 Zm 31 5 [],
 Zz 32 (.bslice false .dyn 1 1 [(.int .i64 0)] [(0,1,(.t 31))]) [2],
 Zz 33 (.append .dyn 1 8 (.t 30) (.t 32)) [1,3],
 Zf 34 2 4 (Za [] 5),
 Zs 1 34 33 (Za [5,4,4] 5)] [] [28,29,30,31,32,33,34])
 .skip))
 (.seq (.region [Zz 6 (.mov (.c (.int .i64 0))) []] [] [28])
 (.block 2 (.loop (.seq (.seq (.region [Zm 35 6 [],
 Zf 36 0 1 [],
 Zl 37 36 [1],
 Zv 38 37 [2],
 Zb 39 .lss 35 38 [0,3]] [] [35,36,37,38])
 (.cond (.t 39)
 .skip
 (.exit 2)))
 (.seq (.block 3 (.seq (.region [Zw 42 4 1 [],
 Zm 43 3 [],
 Zm 44 5 [],
 Zi 45 1 43 44 [1,2],
 Zl 46 45 [3],
 Zf 47 0 1 [],
 Zl 48 47 [5],
 Zm 49 6 [],
 Zi 50 1 48 49 [6,7],
 Zl 51 50 [8],
 Zz 52 (.call .pure (.f 62) [(.t 42),(.t 46),(.t 51)]) [0,4,9],
 Zm 7 52 (Za [10,10] 11)] [] [39,42,43,44,45,46,47,48,49,50,51,52])
 (.seq (.region [Zm 53 7 [],
 Zz 54 (.bin .geq (.t 53) (.c (.int .i64 0))) [0]] [] [53])
 (.cond (.t 54)
 (.region [Zf 55 3 4 [],
 Zl 56 55 [0],
 Zm 57 5 [],
 Zf 58 0 1 [],
 Zl 59 58 [3],
 Zm 60 6 [],
 Zi 61 1 59 60 [4,5],
 Zl 62 61 [6],
 Zm 63 3 [],
 Zm 64 7 [],
 Zz 65 (.call .pure (.f 261) [(.t 63),(.t 64)]) [8,9],
 Zz 66 (.build [(.int .i64 0),(.int .i64 0),(.int .i64 0)] [(0,1,(.t 57)),(1,1,(.t 62)),(2,1,(.t 65))]) [2,7,10],
 Zz 67 (.bslice false .dyn 3 1 [(.int .i64 0),(.int .i64 0),(.int .i64 0)] [(0,3,(.t 66))]) [11],
 Zz 68 (.append .dyn 3 24 (.t 56) (.t 67)) [1,12,10],
 Zf 69 3 4 (Za [] 14),
 Zs 1 69 68 (Za [14,13,13] 14)] [] [7,54,55,56,57,58,59,60,61,62,63,64,65,66,67,68,69])
 .skip))))
 (.region [Zm 40 6 [],
 Zz 41 (.bin .add (.t 40) (.c (.int .i64 1))) [0],
 Zm 6 41 [1,0,1]] [] [7,54,40,41]))))))))
 (.region [Zm 20 5 [],
 Zz 21 (.bin .add (.t 20) (.c (.int .i64 1))) [0],
 Zm 5 21 [1,0,1]] [] [6,20,21]))))))
 (.seq (.region [Zw 70 4 4 [],
 Zs 4 2 70 [0,0]] [] [1,3,4,5,70])
 .ret))))))⟩
def s227:SFn:=⟨6,[.tmp 2],
 (.seq (.region [Zz 2 (.mov (.c (.bool false))) []] [] [2])
 (.seq (.region [Zm 3 0 [],
 Zm 4 0 [],
 Zb 5 .neq 3 4 [0,1],
 Zm 2 5 [2,0,1,2]] [] [0,3,4,5])
 .ret))⟩
def s228:SFn:=⟨49,[.tmp 6,.tmp 7],
 (.seq (.region [Zz 6 (.mov (.c (.int .i64 0))) [],
 Zz 7 (.mov (.c (.bool false))) [0]] [] [6,7])
 (.seq (.region [Zm 12 0 [],
 Zv 13 12 [0],
 Zm 8 13 [1,0,1]] [] [12,13])
 (.seq (.region [Zm 14 8 [],
 Zz 9 (.mov (.c (.int .i64 0))) [],
 Zm 10 14 [0,1,0,1]] [] [14])
 (.seq (.block 0 (.loop (.seq (.seq (.region [Zm 15 9 [],
 Zm 16 10 [],
 Zb 17 .lss 15 16 [0,1]] [] [15,16])
 (.cond (.t 17)
 .skip
 (.exit 0)))
 (.block 1 (.seq (.region [Zm 18 9 [],
 Zm 19 10 [],
 Zb 20 .add 18 19 [0,1],
 Zz 21 (.conv .u64 (.t 20)) [2],
 Zz 22 (.bin .shr (.t 21) (.c (.int .u64 1))) [3],
 Zz 23 (.conv .i64 (.t 22)) [4],
 Zm 11 23 (Za [5] 6)] [] [17,18,19,20,21,22,23])
 (.seq (.region [Zm 24 2 [],
 Zm 25 0 [],
 Zm 26 11 [],
 Zi 27 3 25 26 [1,2],
 Zw 28 3 27 [3],
 Zm 29 1 [],
 Zz 30 (.call .pure (.t 24) [(.t 28),(.t 29)]) [0,4,5],
 Zz 31 (.bin .lss (.t 30) (.c (.int .i64 0))) [6]] [] [24,25,26,27,28,29,30])
 (.cond (.t 31)
 (.region [Zm 32 11 [],
 Zz 33 (.bin .add (.t 32) (.c (.int .i64 1))) [0],
 Zm 9 33 [1,0,1]] [] [11,31,32,33])
 (.region [Zm 34 11 [],
 Zm 10 34 [0,0]] [] [11,31,34]))))))))
 (.seq (.region [Zm 35 9 [],
 Zm 36 9 [],
 Zm 37 8 [],
 Zb 38 .lss 36 37 [1,2],
 Zm 39 38 [3],
 Zx 40 (.mov (.t 2)) [4] 39 true,
 Zx 41 (.mov (.t 0)) [4] 39 true,
 Zx 42 (.mov (.t 9)) [4] 39 true,
 Zx 43 (.iaddr none 3 (.t 41) (.t 42)) [6,7,4] 39 true,
 Zx 44 (.load (some 3) (.t 43)) [8,4] 39 true,
 Zx 45 (.mov (.t 1)) [4] 39 true,
 Zx 46 (.call .pure (.t 40) [(.t 44),(.t 45)]) [5,9,10,4,4] 39 true,
 Zx 47 (.bin .eql (.t 46) (.c (.int .i64 0))) [11,4] 39 true,
 Zz 48 (.pick (.t 39) (.t 47) (.c (.bool false))) [4,12],
 Zm 6 35 [0,11,0],
 Zm 7 48 (Za [13,14] 15)] [] [0,1,2,8,9,10,47,46,40,44,45,43,41,42,35,36,37,38,39,48])
 .ret)))))⟩
def s229:SFn:=⟨9,[.tmp 4],
 (.seq (.region [Zz 2 (.box .dyn (.t 0)) [],
 Zz 4 (.mov (.c (.int .i64 0))) []] [] [0,4])
 (.seq (.region [Zf 5 0 2 [],
 Zl 6 5 [0],
 Zm 7 1 [],
 Zb 8 .sub 6 7 [1,2],
 Zm 4 8 [3,0,1,2,3]] [] [1,2,5,6,7,8])
 .ret))⟩
def s230:SFn:=⟨9,[.tmp 4],
 (.seq (.region [Zz 2 (.box .dyn (.t 0)) [],
 Zz 4 (.mov (.c (.int .i64 0))) []] [] [0,4])
 (.seq (.region [Zf 5 0 2 [],
 Zl 6 5 [0],
 Zm 7 1 [],
 Zb 8 .sub 6 7 [1,2],
 Zm 4 8 [3,0,1,2,3]] [] [1,2,5,6,7,8])
 .ret))⟩
def s259:SFn:=⟨50,[.tmp 2],
 (.seq (.region [Zz 1 (.box .dyn (.t 0)) [],
 Zz 2 (.mov (.c .nilsl)) []] [] [0,2])
 (.seq (.region [Zz 3 (.mov (.c .nilsl)) []] [] [])
 (.seq (.seq (.region [Zf 7 1 1 [],
 Zl 8 7 [0],
 Zz 9 (.bin .gtr (.t 8) (.c (.int .i64 0))) [1]] [] [7,8])
 (.cond (.t 9)
 (.region [Zm 10 3 [],
 Zz 11 (.bslice false .dyn 1 1 [(.int .i64 0)] [(0,1,(.c (.int .i64 0)))]) [],
 Zz 12 (.append .dyn 1 8 (.t 10) (.t 11)) [0,1],
 Zm 3 12 [2,2,0,1,2]] [] [9,10,11,12])
 .skip))
 (.seq (.seq (.region [Zz 4 (.mov (.c (.int .i64 0))) []] [] [9])
 (.block 0 (.loop (.seq (.seq (.region [Zm 13 4 [],
 Zm 14 3 [],
 Zv 15 14 [1],
 Zb 16 .lss 13 15 [0,2]] [] [13,14,15])
 (.cond (.t 16)
 .skip
 (.exit 0)))
 (.seq (.block 1 (.seq (.region [Zz 5 (.mov (.c (.int .i64 0))) []] [] [16])
 (.block 2 (.loop (.seq (.seq (.region [Zm 19 5 [],
 Zf 20 0 1 [],
 Zl 21 20 [1],
 Zv 22 21 [2],
 Zb 23 .lss 19 22 [0,3]] [] [19,20,21,22])
 (.cond (.t 23)
 .skip
 (.exit 2)))
 (.seq (.block 3 (.seq (.region [Zw 26 4 1 [],
 Zm 27 3 [],
 Zm 28 4 [],
 Zi 29 1 27 28 [1,2],
 Zl 30 29 [3],
 Zf 31 0 1 [],
 Zl 32 31 [5],
 Zm 33 5 [],
 Zi 34 1 32 33 [6,7],
 Zl 35 34 [8],
 Zz 36 (.call .pure (.f 62) [(.t 26),(.t 30),(.t 35)]) [0,4,9],
 Zm 6 36 (Za [10,10] 11)] [] [23,26,27,28,29,30,31,32,33,34,35,36])
 (.seq (.region [Zm 37 6 [],
 Zz 38 (.bin .geq (.t 37) (.c (.int .i64 0))) [0],
 Zm 39 38 [1],
 Zx 40 (.mov (.t 3)) [2] 39 true,
 Zx 41 (.mov (.t 6)) [2] 39 true,
 Zx 42 (.call .heap (.f 260) [(.t 40),(.t 41)]) [3,4,2,2] 39 true,
 Zx 43 (.un .not (.t 42)) [5,2] 39 true,
 Zz 44 (.pick (.t 39) (.t 43) (.c (.bool false))) [2,6]] [] [37,38,39])
 (.cond (.t 44)
 (.region [Zm 45 3 [],
 Zm 46 6 [],
 Zz 47 (.bslice false .dyn 1 1 [(.int .i64 0)] [(0,1,(.t 46))]) [1],
 Zz 48 (.append .dyn 1 8 (.t 45) (.t 47)) [0,2],
 Zm 3 48 [3,3,0,1,2,3]] [] [6,44,45,46,47,48])
 .skip))))
 (.region [Zm 24 5 [],
 Zz 25 (.bin .add (.t 24) (.c (.int .i64 1))) [0],
 Zm 5 25 [1,0,1]] [] [6,44,24,25])))))))
 (.region [Zm 17 4 [],
 Zz 18 (.bin .add (.t 17) (.c (.int .i64 1))) [0],
 Zm 4 18 [1,0,1]] [] [5,17,18]))))))
 (.seq (.region [Zm 49 3 [],
 Zm 2 49 [0,0]] [] [1,3,4,43,42,40,41,49])
 .ret)))))⟩
def s260:SFn:=⟨18,[.tmp 4],
 (.seq (.region [Zz 4 (.mov (.c (.bool false))) []] [] [4])
 (.seq (.seq (.region [Zz 5 (.mov (.c (.int .i64 0))) []] [] [])
 (.block 0 (.loop (.seq (.seq (.region [Zm 6 5 [],
 Zm 7 0 [],
 Zv 8 7 [1],
 Zb 9 .lss 6 8 [0,2]] [] [6,7,8])
 (.cond (.t 9)
 .skip
 (.exit 0)))
 (.seq (.block 1 (.seq (.region [Zm 12 0 [],
 Zm 13 5 [],
 Zi 14 1 12 13 [0,1],
 Zl 15 14 [2],
 Zm 16 1 [],
 Zb 17 .eql 15 16 [3,4]] [] [9,12,13,14,15,16])
 (.cond (.t 17)
 (.seq (.region [Zz 4 (.mov (.c (.bool true))) []] [] [0,1,5,17])
 .ret)
 .skip)))
 (.region [Zm 10 5 [],
 Zz 11 (.bin .add (.t 10) (.c (.int .i64 1))) [0],
 Zm 5 11 [1,0,1]] [] [4,17,10,11]))))))
 (.seq (.region [Zz 4 (.mov (.c (.bool false))) []] [] [0,1,5])
 .ret)))⟩
def s261:SFn:=⟨19,[.tmp 4],
 (.seq (.region [Zz 4 (.mov (.c (.int .i64 0))) []] [] [4])
 (.seq (.seq (.region [Zz 5 (.mov (.c (.int .i64 0))) []] [] [])
 (.block 0 (.loop (.seq (.seq (.region [Zm 6 5 [],
 Zm 7 0 [],
 Zv 8 7 [1],
 Zb 9 .lss 6 8 [0,2]] [] [6,7,8])
 (.cond (.t 9)
 .skip
 (.exit 0)))
 (.seq (.block 1 (.seq (.region [Zm 12 0 [],
 Zm 13 5 [],
 Zi 14 1 12 13 [0,1],
 Zl 15 14 [2],
 Zm 16 1 [],
 Zb 17 .eql 15 16 [3,4]] [] [9,12,13,14,15,16])
 (.cond (.t 17)
 (.seq (.region [Zm 18 5 [],
 Zm 4 18 [0,0]] [] [0,1,5,17,18])
 .ret)
 .skip)))
 (.region [Zm 10 5 [],
 Zz 11 (.bin .add (.t 10) (.c (.int .i64 1))) [0],
 Zm 5 11 [1,0,1]] [] [4,17,10,11]))))))
 (.seq (.region [Zz 4 (.mov (.c (.int .i64 (-1)))) []] [] [0,1,5])
 .ret)))⟩
theorem ok31:okFn Tryz.prog 31 s31=true:=by kernel_rfl
theorem ok33:okFn Tryz.prog 33 s33=true:=by kernel_rfl
theorem ok38:okFn Tryz.prog 38 s38=true:=by kernel_rfl
theorem ok41:okFn Tryz.prog 41 s41=true:=by kernel_rfl
theorem ok62:okFn Tryz.prog 62 s62=true:=by kernel_rfl
theorem ok89:okFn Tryz.prog 89 s89=true:=by kernel_rfl
theorem ok106:okFn Tryz.prog 106 s106=true:=by kernel_rfl
theorem ok111:okFn Tryz.prog 111 s111=true:=by kernel_rfl
theorem ok112:okFn Tryz.prog 112 s112=true:=by kernel_rfl
theorem ok144:okFn Tryz.prog 144 s144=true:=by kernel_rfl
theorem ok150:okFn Tryz.prog 150 s150=true:=by kernel_rfl
theorem ok185:okFn Tryz.prog 185 s185=true:=by kernel_rfl
theorem ok192:okFn Tryz.prog 192 s192=true:=by kernel_rfl
theorem ok193:okFn Tryz.prog 193 s193=true:=by kernel_rfl
theorem ok197:okFn Tryz.prog 197 s197=true:=by kernel_rfl
theorem ok198:okFn Tryz.prog 198 s198=true:=by kernel_rfl
theorem ok199:okFn Tryz.prog 199 s199=true:=by kernel_rfl
theorem ok224:okFn Tryz.prog 224 s224=true:=by kernel_rfl
theorem ok225:okFn Tryz.prog 225 s225=true:=by kernel_rfl
theorem ok227:okFn Tryz.prog 227 s227=true:=by kernel_rfl
theorem ok228:okFn Tryz.prog 228 s228=true:=by kernel_rfl
theorem ok229:okFn Tryz.prog 229 s229=true:=by kernel_rfl
theorem ok230:okFn Tryz.prog 230 s230=true:=by kernel_rfl
theorem ok259:okFn Tryz.prog 259 s259=true:=by kernel_rfl
theorem ok260:okFn Tryz.prog 260 s260=true:=by kernel_rfl
theorem ok261:okFn Tryz.prog 261 s261=true:=by kernel_rfl
end Go.AM.SE
namespace Go.AM.SE
open Go.Proofs Go.AM.SD
theorem PSpec.weak {P:Program} {f:Nat} {args bs:List AV} {v:AV} (hL:∀(ok:Okc) (c:Ctx ok) (w:World) (vs:List Value),HRel c .e w->VRels c w args vs->VRels c w bs vs) (hn:noRefs args=true) (hp:PSpec P f bs v):PSpec P f args v:=by
 obtain⟨n1,n2,h',hc,hs⟩:=hp
 exact⟨hn,n2,h',hc,fun c w cargs H ha=>hs c w cargs H (hL _ c w _ H ha)⟩
theorem _root_.Go.AM.au0 {p:Prop} (h:p:=by repeat (first|exact RO.zero|exact RO.e|refine RO.set rfl ?_)):p:=h
theorem _root_.Go.AM.au1 {p:Prop} (h:p:=by repeat' (first|exact RB.nil|(refine RnL.same ?_;first|rfl|(simp only[noRef,noRefs,Qah,Bool.and_self,Bool.and_true,Bool.true_and,Qaa,Qaf,Qad,Qag,Qae,Qaw,Qac,Qa5,QaI];done))|exact RnM.keyM rfl|exact RnL.nil|exact(True.intro:RnM _ _ _ [] [])|refine RnL.cons ?_ ?_|(refine Rn.same ?_;first|rfl|(simp only[noRef,noRefs,Qah,Bool.and_self,Bool.and_true,Bool.true_and,Qaa,Qaf,Qad,Qag,Qae,Qaw,Qac,Qa5,QaI];done))|exact Rn.x1 rfl rfl|exact Rn.x2 rfl rfl|exact Rn.x3 rfl rfl|exact Rn.x4 rfl rfl|exact Rn.x5 rfl|exact Rn.x6 rfl|exact Rn.x7 rfl|refine RB.newnil rfl rfl ?_|refine RB.cells rfl rfl rfl ?_ ?_|refine RB.map rfl rfl rfl ?_ ?_|refine RB.cellsB rfl rfl ?_ ?_|refine RB.mapB rfl rfl ?_ ?_)):p:=h
theorem _root_.Go.AM.au2 {p:Prop} (h:p:=by repeat (first|exact RT.nil|(refine RT.cons ?_ ?_; · (first|exact Rn.any|exact Rn.x1 rfl rfl|exact Rn.x2 rfl rfl|exact Rn.x3 rfl rfl|exact Rn.x4 rfl rfl|exact Rn.x5 rfl|exact Rn.x6 rfl|exact Rn.x7 rfl|(refine Rn.slot ?_ ?_;(first|rfl|(rw[Int.natCast_add];rfl));(first|rfl|(simp only[noRef,noRefs,Qah,Bool.and_self,Bool.and_true,Bool.true_and,Qaa,Qaf,Qad,Qag,Qae,Qaw,Qac,Qa5,QaI];done)))|(refine Rn.fn ?_ ?_<;>(repeat' (first|exact RnL.nil|refine RnL.cons ?_ ?_|exact Rn.same rfl|exact Rn.x6 rfl|exact Rn.x2 rfl rfl|exact Rn.x5 rfl|exact Rn.x1 rfl rfl))))))):p:=h
theorem has36 (l:List Int) (n:Int) (hl:l.length<=1099511627776):PSpec Tryz.prog 260 [sli l,.int .i64 n] (.bool (decide (n∈l))):=by
  refine PSpec.Qaj 64 ok260 rfl (by(try simp only[noRefs,Qaa,Qaf,Qad,Qag,Qae,noRef,Bool.and_self,Bool.and_true])<;>rfl) rfl ?_
  simp(disch:=first|omega|(simp only[lenW]<;>omega)) only[s260,wV,simprocAttr]
  refine Qat 100 (fun i:Nat=>[(0,sli l),(1,.int .i64 n),(5,.int .i64 i)]) (fun _=>[]) (fun i=>i<=l.length/\∀(j:Nat) y,j<i->l[j]?=some y->y≠n) (fun i=>l.length-i) 0 ⟨[],rfl,au0,au1,au2⟩ ⟨Nat.zero_le _,fun j y hj=>absurd hj (Nat.not_lt_zero _)⟩ ?_
  rintro i ⟨hi,hb⟩
  by_cases hlt:i<l.length
  · obtain ⟨x, hx⟩ := Qak hlt
    by_cases h0:x=n
    · simp (disch := first | omega | (simp only [lenW] <;> omega)) only [hlt, QaW hx, h0, wV, simprocAttr]
      refine⟨.inr trivial,_,rfl,?_⟩
      have:n∈l:=h0▸List.mem_of_getElem? hx
      simp[resOf,QaF,this]
    · simp (disch := first | omega | (simp only [lenW] <;> omega)) only [hlt, QaW hx, h0, wV, simprocAttr]
      refine⟨i+1,by omega,⟨by omega,fun j y hj hy=>?_⟩,⟨[],rfl,au0,au1,au2⟩⟩
      by_cases e:j=i
      · subst e;rw[hx]at hy;cases hy;exact h0
      · exact hb j y (by omega) hy
  · have : n ∉ l := fun h => by
      obtain⟨j,hj,hjl⟩:=QdO h
      exact hb j n (by omega) hj rfl
    simp(disch:=first|omega|(simp only[lenW]<;>omega)) only[hlt,wV,simprocAttr]
    exact⟨.inr trivial,_,rfl,by simp[resOf,QaF,this]⟩
def indexR (l:List Int) (n:Int):Int:=if n∈l then(l.findIdx (· ==n):Int)else-1
theorem index70 (l : List Int) (n : Int) (hl : l.length <= 1099511627776) : PSpec Tryz.prog 111 [sli l, .int .i64 n] (.int .i64 (indexR l n)) := by
  refine PSpec.Qaj 64 ok111 rfl (by(try simp only[noRefs,Qaa,Qaf,Qad,Qag,Qae,noRef,Bool.and_self,Bool.and_true])<;>rfl) rfl ?_
  simp(disch:=first|omega|(simp only[lenW]<;>omega)) only[s111,wV,simprocAttr]
  refine Qat 100 (fun i:Nat=>[(0,sli l),(1,.int .i64 n),(7,.int .i64 l.length),(8,.int .i64 i)]) (fun _=>[]) (fun i=>i<=l.length/\∀(j:Nat) y,j<i->l[j]?=some y->y≠n) (fun i=>l.length-i) 0 ⟨[],rfl,au0,au1,au2⟩ ⟨Nat.zero_le _,fun j y hj=>absurd hj (Nat.not_lt_zero _)⟩ ?_
  rintro i ⟨hi,hb⟩
  by_cases hlt:i<l.length
  · obtain ⟨x, hx⟩ := Qak hlt
    by_cases h0:n=x
    · simp (disch := first | omega | (simp only [lenW] <;> omega)) only [hlt, QaW hx, h0, wV, simprocAttr]
      refine⟨.inr trivial,_,rfl,?_⟩
      have h1:n∈l:=h0▸List.mem_of_getElem? hx
      have h2:l.findIdx (· ==n)=i:=by
        rw[List.findIdx_eq hlt]
        refine⟨by rw[List.getElem?_eq_getElem hlt]at hx;cases hx;simp[h0],fun j hj=>?_⟩
        have:=hb j l[j] hj (List.getElem?_eq_getElem (by omega))
        simpa using this
      subst h0
      simp only[indexR,if_pos h1,h2];rfl
    · simp (disch := first | omega | (simp only [lenW] <;> omega)) only [hlt, QaW hx, h0, wV, simprocAttr]
      refine⟨i+1,by omega,⟨by omega,fun j y hj hy=>?_⟩,⟨[],rfl,au0,au1,au2⟩⟩
      by_cases e:j=i
      · subst e;rw[hx]at hy;cases hy;exact fun e=>h0 e.symm
      · exact hb j y (by omega) hy
  · have : n ∉ l := fun h => by
      obtain⟨j,hj,hjl⟩:=QdO h
      exact hb j n (by omega) hj rfl
    simp(disch:=first|omega|(simp only[lenW]<;>omega)) only[hlt,wV,simprocAttr]
    exact⟨.inr trivial,_,rfl,by simp only[indexR,if_neg this];rfl⟩
theorem contains62 (l:List Int) (n:Int) (hl:l.length<=1099511627776):PSpec Tryz.prog 38 [sli l,.int .i64 n] (.bool (decide (n∈l))):=by
  refine PSpec.Qaj 64 ok38 rfl (by(try simp only[noRefs,Qaa,Qaf,Qad,Qag,Qae,noRef,Bool.and_self,Bool.and_true])<;>rfl) rfl ?_
  simp(disch:=first|omega|(simp only[lenW]<;>omega)) only[s38,wV,simprocAttr]
  refine cp (index70 l n hl) ?_
  have e:decide (0<=indexR l n)=decide (n∈l):=by
    unfold indexR
    by_cases h:n∈l
    · rw[if_pos h];simp[h]
    · rw[if_neg h];simp[h]
  by_cases h:n∈l
  · have e2 : 0 <= indexR l n := by rw [decide_eq_decide] at e; exact e.2 h
    simp(disch:=first|omega|(simp only[lenW]<;>omega)) only[e2,wV,simprocAttr]
    exact⟨.inr trivial,_,rfl,by simp[resOf,QaF,h]⟩
  · have e2 : ¬ 0 <= indexR l n := by rw [decide_eq_decide] at e; exact fun h2 => h (e.1 h2)
    simp(disch:=first|omega|(simp only[lenW]<;>omega)) only[e2,wV,simprocAttr]
    exact⟨.inr trivial,_,rfl,by simp[resOf,QaF,h]⟩
end Go.AM.SE
namespace Go.AM.SE
open Go.Proofs Go.AM.SD
theorem Qca {k:IntKind} {a i:Nat} (hi:i<=k.bits):aBin .shr (.int k (a:Int)) (.int .i64 (i:Int))=some (.int k ((a/2^i:Nat):Int)):=by
 have h1:¬(i:Int)<0:=by omega
 simp only[aBin,if_neg h1]
 have h2:min (i:Int).toNat k.bits=i:=by simp;omega
 rw[h2]
 have:(2:Int)^i=((2^i:Nat):Int):=by norm_cast
 rw[this,Int.fdiv_eq_ediv_of_nonneg _ (Int.natCast_nonneg _)]
 norm_cast
theorem and1 (n a:Nat) (hn:0<n):(BitVec.ofInt n (a:Int)&&&BitVec.ofInt n 1).toNat=a % 2:=by
 rw[BitVec.toNat_and,BitVec.toNat_ofInt,BitVec.toNat_ofInt]
 have h1:((a:Int) % ((2^n:Nat):Int)).toNat=a % 2^n:=by norm_cast
 have h2:((1:Int) % ((2^n:Nat):Int)).toNat=1:=by
  have:1 % 2^n=1:=Nat.mod_eq_of_lt (Nat.one_lt_two_pow (by omega))
  have h3:((1:Int) % ((2^n:Nat):Int))=((1 % 2^n:Nat):Int):=by norm_cast
  rw[h3,this];rfl
 rw[h1,h2,Nat.and_one_is_mod,Nat.mod_mod_of_dvd _ ⟨2^(n-1),by rw[<-Nat.pow_succ'];congr 1;omega⟩]
theorem Qcb {a:Nat}:aBin .and (.int .u8 (a:Int)) (.int .u8 1)=some (.int .u8 ((a % 2:Nat):Int)):=by
 simp only[aBin,if_true]
 rw[show IntKind.u8.bits=8 from rfl,and1 8 a (by omega),wr_u8 (by omega) (by omega)]
theorem Qc3 {s i:Nat}:(((s/2^i % 2:Nat):Int)=1)↔s.testBit i=true:=by
 rw[Nat.testBit_eq_decide_div_mod_eq,decide_eq_true_eq];omega
theorem QcO {n b i:Nat}:SD.part (i+1) b=SD.part i b++if b.testBit i=true then[i]else[]:=by
 unfold SD.part
 rw[List.range_succ,List.filter_append]
 congr 1
 by_cases h:b.testBit i=true<;>simp[h]
theorem Qcz {i b:Nat}:(SD.part i b).length<=i:=by
 unfold SD.part
 exact Nat.le_trans (List.length_filter_le _ _) (by simp)
theorem events16 (s:Nat) (hs:s<256):PSpec Tryz.prog 89 [.int .u8 s] (sliN (SD.part 5 s)):=by
  refine PSpec.of_rn 64 ok89 rfl (by(try simp only[noRefs,Qaa,Qaf,Qad,Qag,Qae,noRef,Bool.and_self,Bool.and_true])<;>rfl) (Qac _) ?_
  simp(disch:=first|omega|(simp only[lenW]<;>omega)) only[s89,wV,simprocAttr]
  refine Qat 100 (fun i:Nat=>[(0,.int .u8 s),(3,.sl 50 0 0 (SD.part i s).length 1),(4,.int .i64 i)]) (fun i=>[(50,.cells 0 (ints (nz (SD.part i s))))]) (fun i=>i<=5) (fun i=>5-i) 0 ⟨[(50,.nil)],rfl,au0,au1,au2⟩ (Nat.zero_le _) ?_
  rintro i hi
  have hpl:=@Qcz i s
  by_cases hlt:i<5
  · have hlt2 : (i : Int) < 5 := by omega
    by_cases h0:s.testBit i=true
    · have hb := Qc3.2 h0
      have hp:=QcO (n:=5) (b:=s) (i:=i)
      rw[if_pos h0]at hp
      simp(disch:=first|omega|(simp only[lenW]<;>omega)) only[hlt2,Qca (k:= .u8) (show i<=8 by omega),Qcb,hb,wV,simprocAttr]
      refine⟨i+1,by omega,by omega,?_⟩
      rw[hp,QaH,QaD,List.length_append]
      exact⟨[(50,.blk 50 1)],rfl,au0,au1,au2⟩
    · have hb : ¬ ((s / 2 ^ i % 2 : Nat) : Int) = 1 := fun e => h0 (Qc3.1 e)
      have hp:=QcO (n:=5) (b:=s) (i:=i)
      rw[if_neg h0,List.append_nil]at hp
      simp(disch:=first|omega|(simp only[lenW]<;>omega)) only[hlt2,Qca (k:= .u8) (show i<=8 by omega),Qcb,hb,wV,simprocAttr]
      refine⟨i+1,by omega,by omega,?_⟩
      rw[hp]
      exact⟨[(50,.blk 50 0)],rfl,au0,au1,au2⟩
  · have hlt2 : ¬ (i : Int) < 5 := by omega
    have e:i=5:=by omega
    subst e
    simp(disch:=first|omega|(simp only[lenW]<;>omega)) only[hlt2,wV,simprocAttr]
    refine⟨.inr trivial,_,rfl,?_⟩
    exact Rn.fz0 rfl (by simp[ints]) (RnL.same (Qaa _))
def SetOk (l:List Int) (n:Int):Prop:=(∀x∈l,0<=x/\x<n)/\l.Pairwise (· < ·)
theorem SetOk.up {l:List Int} {n:Int} (h:SetOk l n) {i:Nat} {x y:Int} (hx:l[i]?=some x) (hy:l[i+1]?=some y):x<y:=by
 obtain⟨h1,e1⟩:=List.getElem?_eq_some_iff.1 hx
 obtain⟨h2,e2⟩:=List.getElem?_eq_some_iff.1 hy
 have:=List.pairwise_iff_getElem.1 h.2 i (i+1) h1 h2 (by omega)
 rw[e1,e2]at this;exact this
theorem SetOk.nz {l:List Nat} {n:Nat} (h1:∀x∈l,x<n) (h2:l.Pairwise (· < ·)):SetOk (nz l) n:=by
 refine⟨fun x hx=>?_,?_⟩
 ·obtain ⟨a, ha, rfl⟩ := List.mem_map.1 hx
  have:=h1 a ha;omega
 ·rw[List.pairwise_map];exact h2.imp fun h=>by omega
theorem set49 (l:List Int) (n:Int) (hl:l.length<=1099511627776) (h:SetOk l n):PSpec Tryz.prog 192 [sli l,.int .i64 n] (.int .i64 0):=by
  refine PSpec.Qaj 64 ok192 rfl (by(try simp only[noRefs,Qaa,Qaf,Qad,Qag,Qae,noRef,Bool.and_self,Bool.and_true])<;>rfl) rfl ?_
  simp(disch:=first|omega|(simp only[lenW]<;>omega)) only[s192,wV,simprocAttr]
  refine Qat 100 (fun i:Nat=>[(0,sli l),(1,.int .i64 n),(7,sli l),(8,.int .i64 l.length),(9,.int .i64 i)]) (fun _=>[]) (fun i=>i<=l.length) (fun i=>l.length-i) 0 ⟨[],rfl,au0,au1,au2⟩ (Nat.zero_le _) ?_
  rintro i hi
  by_cases hlt:i<l.length
  · obtain ⟨x, hx⟩ := Qak hlt
    obtain⟨h1,h2⟩:=h.1 x (List.mem_of_getElem? hx)
    have h1':¬x<0:=by omega
    have h2':¬n<=x:=by omega
    by_cases h0:i=0
    · have h4 : ¬ (0 : Int) < (i : Int) := by omega
      simp(disch:=first|omega|(simp only[lenW]<;>omega)) only[hlt,QaW hx,h1',h2',h4,wV,simprocAttr]
      exact⟨i+1,by omega,by omega,⟨[],rfl,au0,au1,au2⟩⟩
    · obtain ⟨y, hy⟩ := Qak (l := l) (i := i - 1) (by omega)
      have h3:=h.up hy (by rw[show i-1+1=i by omega];exact hx)
      have h3':¬x<=y:=by omega
      have h4:(0:Int)<(i:Int):=by omega
      have h5:(i:Int)-1=((i-1:Nat):Int):=by omega
      have h6:((i-1:Nat):Int)<l.length:=by omega
      simp(disch:=first|omega|(simp only[lenW]<;>omega)) only[hlt,QaW hx,h1',h2',h4,h5,h6,QaW hy,h3',wV,simprocAttr]
      exact⟨i+1,by omega,by omega,⟨[],rfl,au0,au1,au2⟩⟩
  · simp (disch := first | omega | (simp only [lenW] <;> omega)) only [hlt, wV, simprocAttr]
    exact⟨.inr trivial,_,rfl,rfl⟩
end Go.AM.SE
namespace Go.AM.SE
open Go.Proofs Go.AM.SD
structure EgsOk (a:Au):Prop where
 len:a.es.length<=1099511627776
 all:a.al.length<=1099511627776
 fr:∀e∈a.es,0<=e.fr/\e.fr<a.n
 to:∀e∈a.es,0<=e.to/\e.to<a.n
 ev:∀e∈a.es,e.ev∈a.al
 up:a.es.Pairwise fun x y=>x.fr<y.fr\/(x.fr=y.fr/\x.ev<y.ev)
theorem EgsOk.step {a:Au} (h:EgsOk a) {i:Nat} {x y:Eg} (hx:a.es[i]?=some x) (hy:a.es[i+1]?=some y):x.fr<y.fr\/(x.fr=y.fr/\x.ev<y.ev):=by
 obtain⟨h1,e1⟩:=List.getElem?_eq_some_iff.1 hx
 obtain⟨h2,e2⟩:=List.getElem?_eq_some_iff.1 hy
 have:=List.pairwise_iff_getElem.1 h.up i (i+1) h1 h2 (by omega)
 rw[e1,e2]at this;exact this
theorem edges50 (a : Au) (h : EgsOk a) : PSpec Tryz.prog 193 [auV a] (.int .i64 0) := by
  refine PSpec.Qaj 64 ok193 rfl (by(try simp only[noRefs,Qaa,Qaf,Qad,Qag,Qae,noRef,Bool.and_self,Bool.and_true])<;>rfl) rfl ?_
  have hl:=h.len
  simp(disch:=first|omega|(simp only[lenW]<;>omega)) only[s193,wV,simprocAttr]
  refine Qat 100 (fun i:Nat=>[(1,.ptr 50 0 0),(7,egs a.es),(8,.int .i64 a.es.length),(9,.int .i64 i)]) (fun _=>[(50,.cells 0 [sli a.al,.int .i64 a.n,sli a.ms,egs a.es])]) (fun i=>i<=a.es.length) (fun i=>a.es.length-i) 0 ⟨[(50,.blk 64 0)],rfl,au0,au1,au2⟩ (Nat.zero_le _) ?_
  rintro i hi
  by_cases hlt:i<a.es.length
  · obtain ⟨x, hx⟩ := Qak hlt
    have hm:=List.mem_of_getElem? hx
    obtain⟨f1,f2⟩:=h.fr x hm
    obtain⟨t1,t2⟩:=h.to x hm
    have f1':¬x.fr<0:=by omega
    have f2':¬a.n<=x.fr:=by omega
    have t1':¬x.to<0:=by omega
    have t2':¬a.n<=x.to:=by omega
    have hev:decide (x.ev∈a.al)=true:=decide_eq_true (h.ev x hm)
    simp(disch:=first|omega|(simp only[lenW]<;>omega)) only[hlt,Qcx hx,f1',f2',t1',t2',wV,simprocAttr]
    refine cp (contains62 a.al x.ev h.all) ?_
    rw[hev]
    by_cases h0:i=0
    · have h4 : (i : Int) = 0 := by omega
      simp(disch:=first|omega|(simp only[lenW]<;>omega)) only[hlt,Qcx hx,h4,wV,simprocAttr]
      exact⟨1,by omega,by omega,⟨[(50,.blk 50 0)],rfl,au0,au1,au2⟩⟩
    · obtain ⟨y, hy⟩ := Qak (l := a.es) (i := i - 1) (by omega)
      have h4:¬(i:Int)=0:=by omega
      have h5:(i:Int)-1=((i-1:Nat):Int):=by omega
      have h6:((i-1:Nat):Int)<a.es.length:=by omega
      rcases h.step hy (by rw[show i-1+1=i by omega];exact hx)with h3|⟨h3,h3b⟩
      · have g1 : ¬ x.fr < y.fr := by omega
        have g2:¬x.fr=y.fr:=by omega
        simp(disch:=first|omega|(simp only[lenW]<;>omega)) only[hlt,Qcx hx,h4,h5,h6,Qcx hy,g1,g2,wV,simprocAttr]
        exact⟨i+1,by omega,by omega,⟨[(50,.blk 50 0)],rfl,au0,au1,au2⟩⟩
      · have g1 : ¬ x.fr < y.fr := by omega
        have g2:x.fr=y.fr:=by omega
        have g3:¬x.ev<=y.ev:=by omega
        simp(disch:=first|omega|(simp only[lenW]<;>omega)) only[hlt,Qcx hx,h4,h5,h6,Qcx hy,g1,g2,g3,wV,simprocAttr]
        exact⟨i+1,by omega,by omega,⟨[(50,.blk 50 0)],rfl,au0,au1,au2⟩⟩
  · simp (disch := first | omega | (simp only [lenW] <;> omega)) only [hlt, wV, simprocAttr]
    exact⟨.inr trivial,_,rfl,rfl⟩
structure AuOk (a:Au):Prop extends EgsOk a where
 alS:SetOk a.al 32
 msS:SetOk a.ms a.n
 mslen:a.ms.length<=1099511627776
 n0:0<=a.n
 nm:a.n<=4096
theorem check37 (a:Au) (h:AuOk a):PSpec Tryz.prog 112 [auV a] (.int .i64 0):=by
 refine PSpec.Qaj 64 ok112 rfl (by(try simp only[noRefs,Qaa,Qaf,Qad,Qag,Qae,noRef,Bool.and_self,Bool.and_true])<;>rfl) rfl ?_
 have h1:¬a.n<0:=by have:=h.n0;omega
 have h2:¬4096<a.n:=by have:=h.nm;omega
 simp(disch:=first|omega|(simp only[lenW]<;>omega)) only[s112,wV,simprocAttr]
 refine cp (set49 a.al 32 h.all h.alS) ?_
 simp(disch:=first|omega|(simp only[lenW]<;>omega)) only[h1,h2,wV,simprocAttr]
 refine cp (set49 a.ms a.n h.mslen h.msS) ?_
 simp(disch:=first|omega|(simp only[lenW]<;>omega)) only[wV,simprocAttr]
 refine cp (edges50 a h.toEgsOk) ?_
 simp(disch:=first|omega|(simp only[lenW]<;>omega)) only[wV,simprocAttr]
 exact⟨.inr trivial,_,rfl,rfl⟩
end Go.AM.SE
namespace Go.AM
variable {P:Program}
end Go.AM
namespace Go.AM
end Go.AM
namespace Go.AM
variable {P:Program}
abbrev Claims:=List (Nat×List Nat)
def clm:Claims->Nat->Option (List Nat)
 |[],_=>none
 |(j,bs)::r,d=>bif Nat.beq j d then some bs else clm r d
def absH (C:Claims) (d:Nat) (a:Option (List Nat)):Option (List Nat):=match clm C d with|some bs=>some bs|none=>a
def touch2 (i:Nat) (ax:Opd->Option (List Nat)):SOp->Option (List Nat)
 | .call .pure _ _=>some []
 |s=>s.touch i ax
theorem QeK {i:Nat} {T:Tmps} {ax:Opd->Option (List Nat)} {s:SOper} {h h1:Heap} {v:AV} {f:FP} {ts:List Nat} (hax:∀x bs,ax x=some bs->Pts (ev T x) bs) (ht:touch2 i ax s.op=some ts) (hs:StepV P i s T h v h1 f):
  f.all=false/\∀b,b∈f.R\/b∈f.W->b∈ts:=by
 by_cases hc:∃x asg,s.op= .call .pure x asg
 ·obtain ⟨x, asg, hop⟩ := hc
  have key:StepX P i s.op T h v h1 f->f.all=false/\∀b,b∈f.R\/b∈f.W->b∈ts:=by
   rintro⟨out,h2,hm,ho⟩
   rw[hop]at hm ho
   simp only[aop]at hm ho
   cases hx:ev T x with
   |fn f' first cap=>
    rw[hx]at hm ho
    simp only[aCall,HM.run,Option.some.injEq,Prod.mk.injEq]at hm
    obtain⟨rfl,rfl⟩:=hm
    simp only[aCall,HM.fp]at ho
    obtain⟨_,_,rfl⟩:=ho
    exact⟨rfl,fun b hb=>by simp[fpOf]at hb⟩
   |_=>rw[hx]at hm;simp[aCall,HM.run]at hm
  unfold StepV at hs
  split at hs
  ·exact key hs
  ·obtain ⟨t, _, hs⟩ := hs
   split at hs
   ·exact key hs
   ·obtain⟨_,_,rfl⟩:=hs;exact⟨rfl,fun b hb=>by simp at hb⟩
 ·refine Qfx hax ?_ hs
  unfold touch2 at ht
  split at ht
  ·rename_i x asg e;exact absurd ⟨x,asg,e⟩ hc
  ·exact ht
def touchesH (C:Claims) (n:Nat) (T:Tmps):List SOper->Abs->List (Option (List Nat))
 |[],_=>[]
 |s::r,A=>touch2 n (absO T A) s.op::touchesH C (n+1) T r (match s.dst with|some d=>(d,absH C d (s.op.absV n (absO T A)))::A|none=>A)
def ssa (C:Claims):List SOper->Bool
 |[]=>true
 |s::r=>(match s.dst with|some d=>(clm C d).isNone||r.all fun s'=>(match s'.dst with|some e=> !Nat.beq e d|none=>true)|none=>true)&&ssa C r
theorem Qko:∀{r:List SOper} {n:Nat} {T:Tmps} {h:Heap} {K:Tmps->Heap->Nat->Prop},wpR P n r T h K->∃T' h' n',K T' h' n'/\∀d,(∀s∈r,s.dst≠some d)->lk T' d=lk T d
 |[],n,T,h,K,hk=>⟨T,h,n,hk,fun _ _=>rfl⟩
 |s::r,n,T,h,K,⟨v,h1,f,hs,hr⟩=>by
  obtain⟨T',h',n',hk,he⟩:=Qko hr
  refine⟨T',h',n',hk,fun d hd=>?_⟩
  rw[he d fun s' hs'=>hd s' (by simp[hs'])]
  have:=hd s (by simp)
  rw[QaZ,if_neg this]
theorem QiY {T0:Tmps} {C:Claims}:∀{r:List SOper} {n:Nat} {A:Abs} {T:Tmps} {h:Heap} {K:Tmps->Heap->Nat->Prop} (hA:AbsOK T0 A T) (K':List FP->Tmps->Heap->Nat->Prop)
  (hC:∀T h n,K T h n->∀d bs,clm C d=some bs->Pts (lk T d) bs) (hssa:ssa C r=true),
  (∀fs T h n',fs.length=r.length->(∀(j:Nat) ts,(touchesH C n T0 r A).getD j none=some ts->(fs.getD j ⟨false,[],[]⟩).all=false/\∀b,b∈(fs.getD j ⟨false,[],[]⟩).R\/b∈(fs.getD j ⟨false,[],[]⟩).W->b∈ts)->K T h n'->K' fs T h n')->
  wpR P n r T h K->wpRF P n r T h K'
 |[],n,A,T,h,K,hA,K',hC,hssa,hK,hw=>hK [] T h n rfl (fun j ts hj=>by simp[touchesH]at hj) hw
 | s :: r, n, A, T, h, K, hA, K', hC, hssa, hK, hw => by
  obtain⟨v,h1,f,hs,hr⟩:=hw
  simp only[ssa,Bool.and_eq_true]at hssa
  obtain⟨hs1,hs2⟩:=hssa
  refine⟨v,h1,f,hs,?_⟩
  have hA2:AbsOK T0 (match s.dst with|some d=>(d,absH C d (s.op.absV n (absO T0 A)))::A|none=>A) (putD T s.dst v):=by
   cases e:s.dst with
   |none=>exact hA
   | some d =>
    refine AbsOK.up hA fun bs hb=>?_
    unfold absH at hb
    split at hb
    ·rename_i bs' hc
     cases hb
     obtain⟨T',h',n',hk,he⟩:=Qko hr
     have h3:=hC T' h' n' hk d _ hc
     rw[he d ?_,QaZ,if_pos e]at h3
     ·exact h3
     ·intro s' hs'
      rw[e]at hs1
      simp only[hc,Option.isNone_some,Bool.false_or,List.all_eq_true]at hs1
      have:=hs1 s' hs'
      intro e2
      rw[e2]at this
      simp at this
    ·exact Qd7 hA.opd hb hs
  refine QiY hA2 (fun fs T h n=>K' (f::fs) T h n) hC hs2 (fun fs T h n' hl hf hk=>?_) hr
  refine hK (f::fs) T h n' (by simp[hl]) (fun j ts hj=>?_) hk
  cases j with
  |zero=>
   simp only[touchesH,List.getD_cons_zero]at hj⊢
   exact QeK hA.opd hj hs
  |succ j=>
   simp only[touchesH,List.getD_cons_succ]at hj⊢
   exact hf j ts hj
def Clms (T:Tmps):Claims->Prop
 |[]=>True
 |(d,bs)::r=>Pts (lk T d) bs/\Clms T r
theorem Clms.get {T:Tmps}:∀{C:Claims},Clms T C->∀d bs,clm C d=some bs->Pts (lk T d) bs
 |[],_,d,bs,h=>by cases h
 | (j, cs) :: r, hh, d, bs, h => by
  simp only[clm]at h
  cases e:Nat.beq j d with
  |true=>
   rw[e]at h
   simp only[cond_true,Option.some.injEq]at h
   have:j=d:=by simpa using e
   subst this;subst h;exact hh.1
  |false=>rw[e]at h;exact Clms.get hh.2 d bs h
theorem Qk3 (C:Claims) {N:NM} {ops:List SOper} {p:Nat×Nat} {ps:List (Nat×Nat)} {dead:List Nat} {fs:List Fr} {n:Nat} {T:Tmps} {h:Heap} {Q:QC} (hssa:ssa C ops=true) (hp:pairsOK (touchesH C n T ops []) (p::ps)=true)
  (hw:wR P N ops [] [] n T h fun e T h n=>Clms T C/\wX P N .normal fs n (rm T dead) h Q):wS P N (.region ops (p::ps) dead) fs n T h Q:=by
 have rm0:∀T:Tmps,rm T []=T:=by
  intro T
  induction T with
  |nil=>rfl
  |cons p T ih=>obtain⟨j,v⟩:=p;simp[rm,ih]
 refine QiY (C:=C) (K:=fun T h n=>Clms T C/\wX P N .normal fs n (rm T dead) h Q) AbsOK.nil _ (fun T h n hk d bs hc=>hk.1.get d bs hc) hssa (fun fs' T h n' hl hf hk=>⟨?_,hk.2⟩) ?_
 ·rw [List.all_eq_true]
  intro q hq
  have:=List.all_eq_true.1 hp q hq
  split at this
  ·rename_i a b ha hb
   obtain⟨f1,f2⟩:=hf _ _ ha
   obtain⟨g1,g2⟩:=hf _ _ hb
   have hd:∀x y,x∈a->y∈b->x≠y:=by
    rintro x y hx hy rfl
    have:=List.all_eq_true.1 this x hx
    simp[hy]at this
   have dj:∀xs ys:List Nat,(∀x∈xs,∀y∈ys,x≠y)->disj xs ys=true:=by
    intro xs ys hh
    unfold disj
    rw[List.all_eq_true]
    intro x hx
    simp only[Bool.not_eq_true',List.contains_eq_mem,decide_eq_false_iff_not]
    intro hy
    exact hh x hx x hy rfl
   unfold FP.apart
   rw[f1,g1]
   simp only[Bool.and_eq_true]
   refine⟨⟨dj _ _ fun x hx y hy=>?_,dj _ _ fun x hx y hy=>?_⟩,dj _ _ fun x hx y hy=>?_⟩
   ·first|exact hd x y (f2 x (.inr hx)) (g2 y (.inl hy))|exact fun e=>hd y x (f2 y (.inl hy)) (g2 x (.inr hx)) e.symm
   ·first|exact hd x y (f2 x (.inr hx)) (g2 y (.inr hy))|exact fun e=>hd y x (f2 y (.inr hy)) (g2 x (.inr hx)) e.symm
   ·first|exact fun e=>hd y x (f2 y (.inl hy)) (g2 x (.inr hx)) e.symm|exact fun e=>hd y x (f2 y (.inr hy)) (g2 x (.inl hx)) e.symm|exact hd x y (f2 x (.inl hx)) (g2 y (.inr hy))
  ·cases this
 ·have hw' : wpR P n ops T h fun T h n => Clms (rm T []) C /\ wX P N .normal fs n (rm (rm T []) dead) h Q := hw
  simp only[rm0]at hw'
  exact hw'
end Go.AM
namespace Go.AM
variable {P:Program} {N:NM} {n:Nat} {d:Option Nat} {af dead:List Nat} {r:List SOper} {T:Tmps} {h:Heap} {Q:QC} {fs:List Fr}
def wAn (P:Program) (N:NM) (ys:Option (List AV)) (len sz bytes:Nat) (d:Option Nat) (ops:List SOper) (dead:List Nat) (fs:List Fr) (n:Nat) (T:Tmps) (h:Heap) (Q:QC):Prop:=
 ∃y,ys=some y/\(len*bytes<=1099511627776/\len<=1099511627776)/\y.all AV.one=true/\wN P N y (.sl n 0 0 len sz) d ops dead fs n T h Q
theorem QiZ {sz bytes b g off len:Nat} (hl:0<len):wM P N (aAppend .dyn n sz bytes .nilsl (.sl b g off len sz)) d r dead fs n T h Q=wAn P N (srcB (h.get b) g off len sz) len sz bytes d r dead fs n T h Q:=by
 obtain⟨k,rfl⟩:∃k,len=k+1:=⟨len-1,by omega⟩
 rw[QjD]
 rfl
theorem QmZ {ys:List AV} {len sz bytes:Nat} (h1:len*bytes<=1099511627776) (h2:len<=1099511627776):wAn P N (some ys) len sz bytes d r dead fs n T h Q=if ys.all AV.one=true then wN P N ys (.sl n 0 0 len sz) d r dead fs n T h Q else False:=by
 by_cases ho:ys.all AV.one=true
 ·rw [if_pos ho]; apply propext; constructor
  ·rintro⟨y,e1,_,_,h5⟩;cases e1;exact h5
  ·intro h5;exact⟨ys,rfl,⟨h1,h2⟩,ho,h5⟩
 ·rw [if_neg ho]; apply propext; constructor
  ·rintro⟨y,e1,_,h4,h5⟩;cases e1;exact ho h4
  ·exact fun h=>h.elim
end Go.AM
namespace Go.AM
end Go.AM
namespace Go.AM
theorem Rn.nilK {m:Nat} {π:Nat->Option Src} {h:Heap} {sz:Nat}:Rn m π h (.fsl [] 0 sz) .nilsl:=fun _ c w v H M hv=>by
 simp only[VRel]at hv⊢
 exact .inl ⟨⟨none,hv⟩,trivial,trivial⟩
end Go.AM
namespace Go.AM.SE
open Go.Proofs Go.AM.SD
abbrev backF (es:List Ed):Nat->AV:=fun k=>sliN (preds es k)
end Go.AM.SE
namespace Go.AM.SE
open Go.Proofs Go.AM.SD
theorem QcH {f:Nat->AV} (h:∀x,noRef (f x)=true) (l:List Nat):noRefs (l.map f)=true:=by
 induction l with
 |nil=>rfl
 |cons x l ih=>simp only[List.map_cons,noRefs,h,ih];rfl
theorem Qam (k:IntKind) (l:List Nat):noRefs (l.map fun x:Nat=>AV.int k (x:Int))=true:=QcH (fun _=>rfl) l
theorem Qap (es:List Ed) (l:List Nat):noRefs (l.map (backF es))=true:=QcH (fun x=>Qac _) l
theorem Qm0 (n:Nat) (x:Int):(List.replicate n [AV.int .i64 x]).flatten=ints (List.replicate n x):=by
 induction n with
 |zero=>rfl
 |succ n ih=>rw[List.replicate_succ,List.flatten_cons,ih];rfl
theorem Ql6 {n i:Nat} (h:i<n):(List.replicate i (-1:Int)++List.replicate (n-i) 0).set i (-1)=List.replicate (i+1) (-1)++List.replicate (n-(i+1)) 0:=by
 rw[List.set_append_right _ _ (by simp),List.length_replicate,Nat.sub_self,show n-i=(n-(i+1))+1 by omega,List.replicate_succ,List.set_cons_zero,List.replicate_succ',List.append_assoc];rfl
theorem Qd9 {l:List Int} {i:Nat} {x:Int}:(ints l).set i (.int .i64 x)=ints (l.set i x):=by simp[ints,List.map_set]
theorem Qdo {l:List Int} {i:Nat} {x:Int} (h:l[i]?=some x):(ints l)[i]?=some (.int .i64 x):=by simp[ints,h]
theorem Qcc {l:List Int} {i:Nat} (h:i<l.length):(ints l)[i]?=some (.int .i64 (l.getD i 0)):=by simp[ints,h]
end Go.AM.SE
namespace Go.AM.SE
open Go.Proofs Go.AM.SD
def bkC (rank:Int) (x:Nat):List AV:=[.int .i64 (x:Int),.int .i64 rank,.int .i64 3,.int .i64 (-1)]
theorem Qbn (rank:Int) (l:List Nat):noRefs (l.flatMap (bkC rank))=true:=QaK (fun x=>rfl) l
def lsC (rank:Int) (p:Nat×Nat):List AV:=[.int .i64 (p.1:Int),.int .i64 rank,.int .i64 2,.int .i64 (p.2:Int)]
theorem Qas (rank:Int) (l:List (Nat×Nat)):noRefs (l.flatMap (lsC rank))=true:=QaK (fun x=>rfl) l
end Go.AM.SE
namespace Go.AM.SE
open Go.Proofs Go.AM.SD
theorem Ql7 (l:List Int):flatVs (ints l)=true:=by
 induction l with
 |nil=>rfl
 |cons x l ih=>simp only[ints,List.map_cons,flatVs,flatV,Bool.true_and];exact ih
theorem FrzTo.all {h:Heap} {b g len sz:Nat} {cs:List AV} (hb:h.get b=some (.cells g cs)) (hl:cs.length=len*sz):FrzTo h (.sl b g 0 len sz) (.fsl cs len sz):=by
 refine FrzTo.sl hb (by omega) ?_
 rw[List.drop_zero,<-hl,List.take_length]
 exact FrzL.same _
theorem WfA.auOk {a:Aut} (h:WfA a) (hel:a.es.length<=1000000):AuOk (au a):=by
 have hal:a.al.length<=5:=by
  have:=QaM 5 a.al (by rw[List.nodup_iff_pairwise_ne];exact h.al.imp fun h=>by omega) h.al5
  exact this
 have hms:a.ms.length<=a.n:=QaM a.n a.ms h.nd h.msn
 have hn5:=h.n5
 refine{len:=?_,all:=?_,fr:=?_,to:=?_,ev:=?_,up:=?_,alS:=SetOk.nz (n:=32) (fun x hx=>by have:=h.al5 x hx;omega) h.al,msS:=SetOk.nz h.msn h.ms,mslen:=?_,n0:=?_,nm:=?_}
 ·show(a.es.map eg).length<=_;simp;omega
 ·show(nz a.al).length<=_;simp;omega
 ·intro e he
  obtain⟨x,hx,rfl⟩:=List.mem_map.1 he
  have:=h.esn x hx
  show(0:Int)<=x.1/\(x.1:Int)<a.n
  omega
 ·intro e he
  obtain⟨x,hx,rfl⟩:=List.mem_map.1 he
  have:=h.esn x hx
  show(0:Int)<=x.2.2/\(x.2.2:Int)<a.n
  omega
 ·intro e he
  obtain⟨x,hx,rfl⟩:=List.mem_map.1 he
  exact List.mem_map.2 ⟨x.2.1,h.ev x hx,rfl⟩
 ·show (a.es.map eg).Pairwise _
  rw[List.pairwise_map]
  refine h.es.imp fun h=>?_
  show(_:Int)<_\/(_:Int)=_/\(_:Int)<_
  simp only[eg]
  omega
 ·show(nz a.ms).length<=_;simp;omega
 ·show(0:Int)<=(a.n:Int);omega
 ·show(a.n:Int)<=4096;omega
structure QOk (a:Aut) (f u:List Nat):Prop where
 fS:f.Pairwise (· < ·)
 fn:∀x∈f,x<a.n
 uS:u.Pairwise (· < ·)
 un:∀x∈u,x<32
theorem Qcn {l:List Nat} {n:Nat} (h:l.Pairwise (· < ·)) (hn:∀x∈l,x<n):l.length<=n:=QaM n l (by rw[List.nodup_iff_pairwise_ne];exact h.imp fun h=>by omega) hn
end Go.AM.SE
namespace Go.AM
variable {P:Program}
end Go.AM
namespace Go.AM
variable {P:Program}
theorem HSpec.empty {f sz:Nat} {asg:List AV} {h h':Heap} {v:AV} (h1:HSpec P f (.nilsl::asg) h v h') (h2:HSpec P f (.nsl::asg) h v h'):HSpec P f (.fsl [] 0 sz::asg) h v h':=by
 obtain⟨hc,h1⟩:=h1
 obtain⟨_,h2⟩:=h2
 refine⟨hc,fun c w cargs H ha=>?_⟩
 simp only[VRels]at ha
 obtain⟨u,us,e,hv,hr⟩:=ha
 simp only[VRel]at hv
 rcases hv with⟨⟨a,rfl⟩,_⟩|⟨cb,off,cap,C,_,_,rfl,_⟩
 ·cases a with
  |none=>exact h1 c w cargs H (by rw[e];simp only[VRels];exact⟨_,_,rfl,by simp[VRel],hr⟩)
  |some a=>exact h2 c w cargs H (by rw[e];simp only[VRels];exact⟨_,_,rfl,by simp[VRel],hr⟩)
 ·exact h2 c w cargs H (by rw[e];simp only[VRels];exact⟨_,_,rfl,by simp[VRel],hr⟩)
end Go.AM
namespace Go.AM
end Go.AM
namespace Go.AM
variable {P:Program}
theorem HSpec.freeze {f b g len sz : Nat} {args ds : List AV} {h h1 : Heap} (S : HSpec P f args h (.sl b g 0 len sz) h1) (hb : h1.get b = some (.cells g ds)) (hf : flatVs ds = true) (hl : len * sz <= ds.length)
    (hlim:Nat.blt b 1099511627775=true):HSpec P f args h (.fsl (ds.take (len*sz)) len sz) (h1.set b (.dead g)):=by
  have hlim':b<1099511627775:=by simpa using hlim
  obtain⟨hc,hs⟩:=S
  refine⟨hc,fun c w cargs H ha=>(hs c w cargs H ha).mono ?_⟩
  rintro e w' ⟨cv,c',rfl,E,H',V⟩
  have hlive:Live h1 b g:=⟨_,hb,rfl,fun _=>by simp⟩
  let c2:Ctx (okc P):={c' with F:=fun k=>c'.F k\/∃base,c'.ρ b g=some (.loc k base),O:=fun k=>c'.O k/\¬∃base,c'.ρ b g=some (.loc k base)}
  have hset:∀k,(h1.set b (.dead g)).get k=if k=b then some (.dead g)else h1.get k:=fun k=>by
    by_cases e:k=b
    · subst e;rw[QaP hlim',if_pos rfl]
    · rw[QaX hlim' e,if_neg e]
  have hlv:∀k y,Live (h1.set b (.dead g)) k y->k≠b/\Live h1 k y:=by
    rintro k y ⟨x,hk,hg,hd⟩
    rw[hset]at hk
    split at hk
    · cases hk;exact absurd rfl (hd g)
    · rename_i e;exact⟨e,x,hk,hg,hd⟩
  have E2:Evo c w c2 w':=⟨E.os,E.tape,E.output,E.size,E.shape,E.keep,E.rho,fun k hk=> .inl (E.frz k hk),fun k hk=>by
    rcases hk with hk|⟨base,hk⟩
    · exact E.frzNew k hk
    · rcases E.own k (H'.owned hlive hk) with h | h
      · exact .inr (.inl h)
      · exact .inr (.inr h),fun k hk=>E.own k hk.1,E.base⟩
  refine⟨cv,c2,rfl,E2,⟨fun k hk y=>?_,fun k x hk y hlt=>?_,fun k x hk=>?_,fun k y k' y' cb base base' l1 l2 p1 p2=>H'.inj k y k' y' cb base base' (hlv _ _ l1).2 (hlv _ _ l2).2 p1 p2,fun k hF hO=>?_,fun k hF=>?_,fun k hO=>H'.inO k hO.1⟩,?_⟩
  · rw [hset] at hk
    split at hk
    · cases hk
    · exact H'.fresh k hk y
  · rw [hset] at hk
    split at hk
    · rename_i e; subst e; cases hk
      exact H'.later k _ hb y hlt
    · exact H'.later k x hk y hlt
  · rw [hset] at hk
    split at hk
    · cases hk;trivial
    · rename_i e
      refine BRel.mono (c:=c') (c':=c2) (w:=w') (w':=w') ⟨fun _ _ _ h=>h,fun _ h=> .inl h,fun _ _ _ h=>h,fun _ C _ fr h=>⟨C,fr,h,rfl⟩⟩ (fun cb base hd hp=>?_) (H'.blk k x hk)
      have hlk:Live h1 k x.gen:=⟨x,hk,rfl,hd⟩
      exact⟨⟨H'.owned hlk hp,fun⟨base',hp'⟩=>e (H'.inj _ _ _ _ _ _ _ hlk hlive hp hp')⟩,rfl⟩
  · rcases hF with hF | hF
    · exact H'.disj k hF hO.1
    · exact hO.2 hF
  · rcases hF with hF | ⟨base, hF⟩
    · exact H'.inF k hF
    · exact H'.inO k (H'.owned hlive hF)
  · simp only [VRel] at V
    rcases V with⟨hp,rfl,_,rfl⟩|⟨cb,base,o,cap,C,e,fr,hp,rfl,hlc,hC,hcap⟩
    · simp only[VRel];exact .inl (by simp)
    · obtain ⟨C', e', fr', hO, hC', hfr, hbs, hpre⟩ := H'.here hb hp
      rw[hC]at hC';cases hC'
      have hF:c2.F cb:= .inr ⟨base,hp⟩
      by_cases h0:cap=0
      · have hl0 : len = 0 := by omega
        subst hl0
        simp only[VRel]
        exact .inr ⟨cb,o,cap,C,e,fr,rfl,hlc,by simp,hF,hC,by simp[VPre]⟩
      · obtain ⟨rfl, hbd⟩ := hcap.resolve_left h0
        have hp2:=VPre.flat (c':=c2) (w':=w') hf hpre
        have hp3:=VPre_take2 (len*sz) hp2
        simp only[VRel]
        exact .inr ⟨cb,_,cap,C,e,fr,rfl,hlc,by rw[List.length_take];omega,hF,hC,by simpa using hp3⟩
where
  VPre_take2 {c:Ctx (okc P)} {w:World}:∀(n:Nat) {xs:List AV} {vs:List Value},VPre c w xs vs->VPre c w (xs.take n) vs
    |0,xs,vs,h=>by simp[VPre]
    |n+1,[],vs,h=>by simp[VPre]
    | n + 1, x :: xs, vs, h => by
      simp only[VPre]at h
      obtain⟨v,vs',rfl,h1,h2⟩:=h
      simp only[List.take_succ_cons,VPre]
      exact⟨v,vs',rfl,h1,VPre_take2 n h2⟩
end Go.AM
namespace Go.AM
variable {P:Program}
def OnlyD (D:Nat->Prop) (args:List AV):Prop:=∀(ok:Okc) (c c1:Ctx ok) (w:World) (vs:List Value),(∀b g,D b->c1.ρ b g=c.ρ b g)->(∀k,c.F k->c1.F k)->VRels c w args vs->VRels c1 w args vs
theorem OnlyD.nil {D:Nat->Prop}:OnlyD D []:=fun _ c c1 w vs _ _ h=>by simpa[VRels]using h
theorem OnlyD.cons {D:Nat->Prop} {x:AV} {xs:List AV} (hx:OnlyD D [x]) (h:OnlyD D xs):OnlyD D (x::xs):=fun ok c c1 w vs h1 h2 hv=>by
 simp only[VRels]at hv⊢
 obtain⟨v,vs',rfl,h3,h4⟩:=hv
 have:=hx ok c c1 w [v] h1 h2 (by simp only[VRels];exact⟨_,_,rfl,h3,rfl⟩)
 simp only[VRels]at this
 obtain⟨v2,vs2,e,h5,_⟩:=this
 cases e
 exact⟨v,vs',rfl,h5,h _ c c1 w vs' h1 h2 h4⟩
theorem OnlyD.same {D:Nat->Prop} {x:AV} (hn:noRef x=true):OnlyD D [x]:=fun _ c c1 w vs h1 h2 hv=>by
 simp only[VRels]at hv⊢
 obtain⟨v,vs',rfl,h3,h4⟩:=hv
 exact⟨v,vs',rfl,VRel.noRef h2 _ _ hn h3,h4⟩
theorem OnlyD.sl {D:Nat->Prop} {b g off len sz:Nat} (hb:D b):OnlyD D [.sl b g off len sz]:=fun _ c c1 w vs h1 h2 hv=>by
 simp only[VRels]at hv⊢
 obtain⟨v,vs',rfl,h3,h4⟩:=hv
 refine⟨v,vs',rfl,?_,h4⟩
 simp only[VRel]at h3⊢
 rcases h3 with⟨g1,g2⟩|⟨cb,base,o,cap,C,e,fr,g1,g2,g3,g4,g5⟩
 ·exact .inl ⟨(h1 _ _ hb).trans g1,g2⟩
 ·exact .inr ⟨cb,base,o,cap,C,e,fr,(h1 _ _ hb).trans g1,g2,g3,g4,g5⟩
theorem OnlyD.ptr {D:Nat->Prop} {b g off:Nat} (hb:D b):OnlyD D [.ptr b g off]:=fun _ c c1 w vs h1 h2 hv=>by
 simp only[VRels]at hv⊢
 obtain⟨v,vs',rfl,h3,h4⟩:=hv
 refine⟨v,vs',rfl,?_,h4⟩
 simp only[VRel]at h3⊢
 obtain⟨cb,base,g1,g2⟩:=h3
 exact⟨cb,base,(h1 _ _ hb).trans g1,g2⟩
theorem OnlyD.fn {D:Nat->Prop} {f:Nat} {xs ys:List AV} (hx:OnlyD D xs) (hy:OnlyD D ys):OnlyD D [.fn f xs ys]:=fun ok c c1 w vs h1 h2 hv=>by
 simp only[VRels]at hv⊢
 obtain⟨v,vs',rfl,h3,h4⟩:=hv
 refine⟨v,vs',rfl,?_,h4⟩
 simp only[VRel]at h3⊢
 obtain⟨x',y',rfl,g1,g2⟩:=h3
 exact⟨x',y',rfl,hx ok c c1 w _ h1 h2 g1,hy ok c c1 w _ h1 h2 g2⟩
theorem OnlyD.map {D:Nat->Prop} {b g:Nat} (hb:D b):OnlyD D [.map b g]:=fun _ c c1 w vs h1 h2 hv=>by
 simp only[VRels]at hv⊢
 obtain⟨v,vs',rfl,h3,h4⟩:=hv
 refine⟨v,vs',rfl,?_,h4⟩
 simp only[VRel]at h3⊢
 obtain⟨cb,g1,g2⟩:=h3
 exact⟨cb,(h1 _ _ hb).trans g1,g2⟩
def NoRefB:Blk->Prop
 | .cells _ cs=>noRefs cs=true
 | .map _ es=>∀e∈es,noRef e.1=true/\noRef e.2=true
 | .dead _=>True
 |_=>False
theorem VPre.noRef2 {ok:Okc} {c c':Ctx ok} {w:World} (hF:∀k,c.F k->c'.F k) {xs:List AV} {vs:List Value} (hn:noRefs xs=true) (h:VPre c w xs vs):VPre c' w xs vs:=VPre.noRef hF _ _ hn h
theorem MRel.noRef2 {ok:Okc} {c c':Ctx ok} {w:World} (hF:∀k,c.F k->c'.F k):∀{xs:List (AV×AV)} {es:List MapEntry} {clock:Nat},(∀e∈xs,noRef e.1=true/\noRef e.2=true)->MRel c w xs es clock->MRel c' w xs es clock
 |[],_,_,_,h=>h
 |(k,x)::r,es,clock,hn,h=>by
  obtain⟨e,es',h1,h2,h3,h4,h5,h6⟩:=h
  obtain⟨q1,q2⟩:=hn (k,x) (by simp)
  exact⟨e,es',h1,VRel.noRef hF _ _ q1 h2,VRel.noRef hF _ _ q2 h3,h4,h5,MRel.noRef2 hF (fun e he=>hn e (by simp[he])) h6⟩
theorem NoRefB.rel {ok:Okc} {c c':Ctx ok} {w:World} {b:Nat} {x:Blk} (hx:NoRefB x) (hF:∀k,c.F k->c'.F k) (hr:∀g,c'.ρ b g=c.ρ b g) (hO:∀k g base,c.ρ b g=some (.loc k base)->(∀j,x≠ .dead j)->x.gen=g->c.O k->c'.O k) (h:BRel c w b x):BRel c' w b x:=by
 cases x with
 |dead g=>trivial
 |map g es=>
  obtain⟨cb,es',clock,h1,h2,h3,h4⟩:=h
  exact⟨cb,es',clock,(hr _).trans h1,hO cb g 0 h1 (fun _=>by simp) rfl h2,h3,MRel.noRef2 hF hx h4.1,h4.2⟩
 |loop=>exact hx.elim
 |cells g cs=>
  rcases h with⟨h1,h2⟩|⟨cb,base,C,e,fr,h1,h2,h3,h4,h5,h6⟩
  ·exact .inl ⟨(hr _).trans h1,h2⟩
  ·exact .inr ⟨cb,base,C,e,fr,(hr _).trans h1,hO cb g base h1 (fun _=>by simp) rfl h2,h3,h4,h5,VPre.noRef2 hF hx h6⟩
theorem HSpec.frame {f : Nat} {args : List AV} {v : AV} {h h1 h1' h' : Heap} (D : Nat -> Prop) [DecidablePred D] (hs : HSpec P f args h1 v h1') (ha : OnlyD D args) (hv : OnlyD D [v])
    (e1:∀k,h1.get k=if D k then h.get k else none) (e2:∀k,¬D k->h1'.get k=none) (e3:∀k,h'.get k=if D k then h1'.get k else h.get k)
    (n1:∀k x,h1.get k=some x->NoRefB x) (n2:∀k x,h1'.get k=some x->NoRefB x):HSpec P f args h v h':=by
  obtain⟨hc,hs⟩:=hs
  refine⟨hc,fun c w cargs H hargs=>?_⟩
  let c1:Ctx (okc P):={ρ:=fun k y=>if D k then c.ρ k y else none,F:=c.F,O:=fun k=>∃b g base,D b/\Live h b g/\c.ρ b g=some (.loc k base),base:=c.base}
  have hr1:∀b y,D b->c1.ρ b y=c.ρ b y:=fun b y hb=>if_pos hb
  have hO1:∀k,c1.O k->c.O k:=fun k ⟨b,g,base,_,hl,hk⟩=>H.owned hl hk
  have hg1:∀{k x},h1.get k=some x->D k/\h.get k=some x:=fun{k x} hk=>by
    rw[e1]at hk
    split at hk
    · rename_i hd;exact⟨hd,hk⟩
    · cases hk
  have hl1:∀{k y},Live h1 k y->D k/\Live h k y:=fun{k y} ⟨x,hk,hx,hd⟩=>⟨(hg1 hk).1,x,(hg1 hk).2,hx,hd⟩
  have H1:HRel c1 h1 w:=by
    refine⟨fun k hk y=>?_,fun k x hk y hlt=>?_,fun k x hk=>?_,fun k y k' y' cb base base' l1 l2 p1 p2=>?_,fun k hF hO=>H.disj k hF (hO1 k hO),H.inF,fun k hO=>H.inO k (hO1 k hO)⟩
    · rw [e1] at hk
      split at hk
      · rename_i hd;rw[hr1 _ _ hd];exact H.fresh k hk y
      · rename_i hd;exact if_neg hd
    · obtain ⟨hd, hk⟩ := hg1 hk
      rw[hr1 _ _ hd];exact H.later k _ hk y hlt
    · obtain ⟨hd, hk2⟩ := hg1 hk
      exact NoRefB.rel (c:=c) (c':=c1) (n1 k x hk) (fun _ h=>h) (fun g=>hr1 k g hd) (fun cb g base hp hne hgen _=>⟨k,g,base,hd,⟨x,hk2,hgen,hne⟩,hp⟩) (H.blk k x hk2)
    · obtain ⟨d1, l1⟩ := hl1 l1
      obtain⟨d2,l2⟩:=hl1 l2
      rw[hr1 _ _ d1]at p1
      rw[hr1 _ _ d2]at p2
      exact H.inj _ _ _ _ _ _ _ l1 l2 p1 p2
  refine(hs c1 w cargs H1 (ha _ c c1 w _ (fun b g hb=>hr1 b g hb) (fun _ h=>h) hargs)).mono ?_
  rintro e w' ⟨cv,c',rfl,E,H',V⟩
  let c2:Ctx (okc P):={ρ:=fun k y=>if D k then c'.ρ k y else c.ρ k y,F:=c'.F,O:=fun k=>c'.O k\/(c.O k/\¬c1.O k),base:=c.base}
  have hrD:∀b y,D b->c2.ρ b y=c'.ρ b y:=fun b y hb=>if_pos hb
  have hrN:∀b y,¬D b->c2.ρ b y=c.ρ b y:=fun b y hb=>if_neg hb
  have E2:Evo c w c2 w':=by
    refine⟨E.os,E.tape,E.output,E.size,E.shape,fun k hk hO=>E.keep k hk fun h=>hO (hO1 k h),fun b y p hp=>?_,fun k hk=>E.frz k hk,fun k hk=>?_,fun k hk=>?_,rfl⟩
    · by_cases hd : D b
      · rw[hrD _ _ hd];exact E.rho b y p ((hr1 _ _ hd).trans hp)
      · rw[hrN _ _ hd];exact hp
    · rcases E.frzNew k hk with h | h | h
      · exact .inl h
      · exact .inr (.inl (hO1 k h))
      · exact .inr (.inr h)
    · rcases hk with hk | hk
      · rcases E.own k hk with h | h
        · exact .inl (hO1 k h)
        · exact .inr h
      · exact .inl hk.1
  have hg3:∀{k x},h'.get k=some x->(D k/\h1'.get k=some x)\/(¬D k/\h.get k=some x):=fun{k x} hk=>by
    rw[e3]at hk
    split at hk
    · rename_i hd;exact .inl ⟨hd,hk⟩
    · rename_i hd;exact .inr ⟨hd,hk⟩
  have hl3:∀{k y},Live h' k y->(D k/\Live h1' k y)\/(¬D k/\Live h k y):=fun{k y} ⟨x,hk,hx,hd⟩=>by
    rcases hg3 hk with⟨q1,q2⟩|⟨q1,q2⟩
    · exact .inl ⟨q1,x,q2,hx,hd⟩
    · exact .inr ⟨q1,x,q2,hx,hd⟩
  have hout:∀{k y cb base},¬D k->Live h k y->c.ρ k y=some (.loc cb base)->¬c1.O cb:=by
    rintro k y cb base hd hl hp ⟨b,g,base',hb,hlb,hpb⟩
    have:=H.inj _ _ _ _ _ _ _ hl hlb hp hpb
    subst this
    exact hd hb
  have hcross:∀{k y k' y' cb base base'},D k->Live h1' k y->c'.ρ k y=some (.loc cb base)->¬D k'->Live h k' y'->c.ρ k' y'=some (.loc cb base')->False:=by
    intro k y k' y' cb base base' hd l1 p1 hd' l2 p2
    rcases E.own cb (H'.owned l1 p1)with h|h
    · exact hout hd' l2 p2 h
    · have:=H.inO cb (H.owned l2 p2);omega
  refine⟨cv,c2,rfl,E2,⟨fun k hk y=>?_,fun k x hk y hlt=>?_,fun k x hk=>?_,fun k y k' y' cb base base' l1 l2 p1 p2=>?_,fun k hF hO=>?_,H'.inF,fun k hO=>?_⟩,?_⟩
  · rw [e3] at hk
    split at hk
    · rename_i hd;rw[hrD _ _ hd];exact H'.fresh k hk y
    · rename_i hd;rw[hrN _ _ hd];exact H.fresh k hk y
  · rcases hg3 hk with ⟨hd, hk⟩ | ⟨hd, hk⟩
    · rw[hrD _ _ hd];exact H'.later k x hk y hlt
    · rw[hrN _ _ hd];exact H.later k x hk y hlt
  · rcases hg3 hk with ⟨hd, hk⟩ | ⟨hd, hk⟩
    · exact NoRefB.rel (c:=c') (c':=c2) (n2 k x hk) (fun _ h=>h) (fun g=>hrD k g hd) (fun cb g base hp hne hgen hO=> .inl hO) (H'.blk k x hk)
    · refine BRel.mono (E2.ext H.disj) (fun cb base hne hp => ?_) (H.blk k x hk)
      have hl:Live h k x.gen:=⟨x,hk,rfl,hne⟩
      have hO:=H.owned hl hp
      have hn:=hout hd hl hp
      exact⟨.inr ⟨hO,hn⟩,E.keep cb (H.inO cb hO) hn⟩
  · rcases hl3 l1 with ⟨d1, l1⟩ | ⟨d1, l1⟩
    · rw [hrD _ _ d1] at p1
      rcases hl3 l2 with⟨d2,l2⟩|⟨d2,l2⟩
      · rw [hrD _ _ d2] at p2
        exact H'.inj _ _ _ _ _ _ _ l1 l2 p1 p2
      · rw [hrN _ _ d2] at p2
        exact(hcross d1 l1 p1 d2 l2 p2).elim
    · rw [hrN _ _ d1] at p1
      rcases hl3 l2 with⟨d2,l2⟩|⟨d2,l2⟩
      · rw [hrD _ _ d2] at p2
        exact(hcross d2 l2 p2 d1 l1 p1).elim
      · rw [hrN _ _ d2] at p2
        exact H.inj _ _ _ _ _ _ _ l1 l2 p1 p2
  · rcases hO with hO | ⟨hO, hn⟩
    · exact H'.disj k hF hO
    · rcases E.frzNew k hF with h | h | h
      · exact H.disj k h hO
      · exact hn h
      · have:=H.inO k hO;omega
  · rcases hO with hO | ⟨hO, _⟩
    · exact H'.inO k hO
    · exact Nat.lt_of_lt_of_le (H.inO k hO) E.size
  · have h5 : VRels c' w' [v] [cv] := by simp only [VRels]; exact ⟨_, _, rfl, V, rfl⟩
    have h6:=hv _ c' c2 w' [cv] (fun b g hb=>hrD b g hb) (fun _ h=>h) h5
    simp only[VRels]at h6
    obtain⟨v1,vs1,e1,h7,_⟩:=h6
    cases e1
    exact h7
theorem Qbs {b:Nat} {x:Blk} (hb:b<1099511627775) (k:Nat):(hp [(b,x)]).get k=if k=b then some x else none:=by
 simp only[hp]
 by_cases e:k=b
 ·subst e;rw[QaP hb,if_pos rfl]
 ·rw[QaX hb e,get_e,if_neg e]
theorem QdP {b c:Nat} {x y:Blk} (hb:b<1099511627775) (hc:c<1099511627775) (k:Nat):(hp [(b,x),(c,y)]).get k=if k=b then some x else if k=c then some y else none:=by
 rw[Qb9]
 by_cases e:k=b
 ·subst e;rw[QaP hb,if_pos rfl]
 ·rw[QaX hb e,if_neg e,Qbs hc]
theorem HSpec.frameA {f b g g':Nat} {args xs ys:List AV} {v:AV} {h:Heap} (hs:HSpec P f args (hp [(b,.cells g xs)]) v (hp [(b,.cells g' ys)])) (ha:OnlyD (fun k=>k=b) args) (hv:OnlyD (fun k=>k=b) [v]) (hx:noRefs xs=true) (hy:noRefs ys=true)
  (hb:h.get b=some (.cells g xs)) (hlim:Nat.blt b 1099511627775=true):HSpec P f args h v (h.set b (.cells g' ys)):=by
 have hlim':b<1099511627775:=by simpa using hlim
 refine HSpec.frame (fun k=>k=b) hs ha hv (fun k=>?_) (fun k hk=>?_) (fun k=>?_) (fun k x hk=>?_) (fun k x hk=>?_)
 ·rw [Qbs hlim']
  by_cases e:k=b
  ·subst e;rw[if_pos rfl,if_pos rfl,hb]
  ·rw[if_neg e,if_neg e]
 ·rw[Qbs hlim',if_neg hk]
 ·rw [Qbs hlim']
  by_cases e:k=b
  ·subst e;rw[if_pos rfl,if_pos rfl,QaP hlim']
  ·rw[if_neg e,QaX hlim' e]
 ·rw [Qbs hlim'] at hk
  split at hk
  ·cases hk;exact hx
  ·cases hk
 ·rw [Qbs hlim'] at hk
  split at hk
  ·cases hk;exact hy
  ·cases hk
theorem HSpec.frameM {f b g g':Nat} {args:List AV} {xs ys:List (AV×AV)} {v:AV} {h:Heap} (hs:HSpec P f args (hp [(b,.map g xs)]) v (hp [(b,.map g' ys)])) (ha:OnlyD (fun k=>k=b) args) (hv:OnlyD (fun k=>k=b) [v]) (hx:∀e∈xs,noRef e.1=true/\noRef e.2=true) (hy:∀e∈ys,noRef e.1=true/\noRef e.2=true)
  (hb:h.get b=some (.map g xs)) (hlim:Nat.blt b 1099511627775=true):HSpec P f args h v (h.set b (.map g' ys)):=by
 have hlim':b<1099511627775:=by simpa using hlim
 refine HSpec.frame (fun k=>k=b) hs ha hv (fun k=>?_) (fun k hk=>?_) (fun k=>?_) (fun k x hk=>?_) (fun k x hk=>?_)
 ·rw [Qbs hlim']
  by_cases e:k=b
  ·subst e;rw[if_pos rfl,if_pos rfl,hb]
  ·rw[if_neg e,if_neg e]
 ·rw[Qbs hlim',if_neg hk]
 ·rw [Qbs hlim']
  by_cases e:k=b
  ·subst e;rw[if_pos rfl,if_pos rfl,QaP hlim']
  ·rw[if_neg e,QaX hlim' e]
 ·rw [Qbs hlim'] at hk
  split at hk
  ·cases hk;exact hx
  ·cases hk
 ·rw [Qbs hlim'] at hk
  split at hk
  ·cases hk;exact hy
  ·cases hk
theorem HSpec.frameB {f a ga b g g':Nat} {args us xs ys:List AV} {v:AV} {h:Heap} (hs:HSpec P f args (hp [(a,.cells ga us),(b,.cells g xs)]) v (hp [(a,.cells ga us),(b,.cells g' ys)])) (ha:OnlyD (fun k=>k=a\/k=b) args) (hv:OnlyD (fun k=>k=a\/k=b) [v])
  (hu:noRefs us=true) (hx:noRefs xs=true) (hy:noRefs ys=true) (ha2:h.get a=some (.cells ga us)) (hb:h.get b=some (.cells g xs)) (hab:a≠b) (hlima:Nat.blt a 1099511627775=true) (hlim:Nat.blt b 1099511627775=true):HSpec P f args h v (h.set b (.cells g' ys)):=by
 have hl1:a<1099511627775:=by simpa using hlima
 have hl2:b<1099511627775:=by simpa using hlim
 refine HSpec.frame (fun k=>k=a\/k=b) hs ha hv (fun k=>?_) (fun k hk=>?_) (fun k=>?_) (fun k x hk=>?_) (fun k x hk=>?_)
 ·rw [QdP hl1 hl2]
  by_cases e:k=a
  ·subst e;rw[if_pos rfl,if_pos (.inl rfl),ha2]
  ·rw [if_neg e]
   by_cases e2:k=b
   ·subst e2;rw[if_pos rfl,if_pos (.inr rfl),hb]
   ·rw[if_neg e2,if_neg (by simp[e,e2])]
 ·rw[QdP hl1 hl2,if_neg (fun e=>hk (.inl e)),if_neg (fun e=>hk (.inr e))]
 ·rw [QdP hl1 hl2]
  by_cases e:k=a
  ·subst e;rw[if_pos rfl,if_pos (.inl rfl),QaX hl2 hab,ha2]
  ·rw [if_neg e]
   by_cases e2:k=b
   ·subst e2;rw[if_pos rfl,if_pos (.inr rfl),QaP hl2]
   ·rw[if_neg e2,if_neg (by simp[e,e2]),QaX hl2 e2]
 ·rw [QdP hl1 hl2] at hk
  split at hk
  ·cases hk;exact hu
  ·split at hk
   ·cases hk;exact hx
   ·cases hk
 ·rw [QdP hl1 hl2] at hk
  split at hk
  ·cases hk;exact hu
  ·split at hk
   ·cases hk;exact hy
   ·cases hk
theorem HSpec.Qkp {f m:Nat} {sf:SFn} {args:List AV} {L0 L:HL} {v:AV} (n:Nat) (hok:okFn P f sf=true) (hl:Nat.ble args.length sf.n=true) (hm:(Nat.ble m 1099511627775&&L0.all fun p=>Nat.blt p.1 m)=true)
  (hw:wS P ⟨sf.n,m⟩ sf.body [] n (argT 0 args) (hp L0) fun e T k _=>(e= .normal\/e= .ret)/\∃vs,resV T k sf.res=some vs/\Rec m [(0,v)] L [(0,resOf vs)] k):HSpec P f args (hp L0) v (hp L):=by
 simp only[Bool.and_eq_true,Nat.ble_eq]at hm
 refine HSpec.of_W2 hok (Nat.le_of_ble_eq_true hl) (fun b hb=>?_) ((wpC.toW hw).mono ?_)
 ·have : ∀ M : HL, M.all (fun p => Nat.blt p.1 m) = true -> (hp M).get b = none := by
   intro M
   induction M with
   |nil=>intro _;exact get_e
   |cons q M ih=>
    obtain⟨j,x⟩:=q
    intro hM
    simp only[List.all_cons,Bool.and_eq_true,Nat.blt,Nat.ble_eq]at hM
    rw[Qb9,QaX (by omega) (by omega)];exact ih (by simpa[Nat.blt]using hM.2)
  exact this L0 hm.2
 ·rintro e B ⟨n', h1, vs, h2, ps, ho, hro, hb, ht⟩
  exact⟨h1,vs,_,h2,Rec.maps ho hb,Rec.heap ho hb,Rec.dom ho hro,ht 0⟩
end Go.AM
namespace Go.AM.SU
open Go.Proofs Go.AM.SD Go.AM.SE
theorem not92 (A:List Nat) (x:Nat) (hA:A.length<=1000000):PSpec Tryz.prog 92 [.int .i64 (x:Int),.fptr [sliN A]] (.bool (!decide (x∈A))):=by
 refine PSpec.Qaj 64 ok92 rfl (by simp only[noRefs,noRef,Qaa];rfl) rfl ?_
 have h:=contains62 (nz A) x (by simp;omega)
 have e:decide ((x:Int)∈nz A)=decide (x∈A):=by
  refine decide_eq_decide.2 ⟨fun h=>?_,fun h=>List.mem_map.2 ⟨x,h,rfl⟩⟩
  obtain⟨a,h1,h2⟩:=List.mem_map.1 h
  have:a=x:=by omega
  exact this▸h1
 rw[e,QbU]at h
 simp(disch:=first|omega|(simp only[lenW]<;>omega)) only[s92,Bool.not_eq_true,wW,wV,simprocAttr]
 refine cp h ?_
 simp(disch:=first|omega|(simp only[lenW]<;>omega)) only[Bool.not_eq_true,wW,wV,simprocAttr]
 exact⟨.inr trivial,_,rfl,rfl⟩
def fstN (A l:List Nat):Int:=if l.all (fun x=>decide (x∈A))then-1 else(l.findIdx (fun x=> !decide (x∈A)):Int)
theorem cpc {P:Program} {N:NM} {r:List SOper} {dead:List Nat} {fs:List Fr} {n:Nat} {T:Tmps} {h:Heap} {Q:QC} {d:Option Nat} {f:Nat} {args a c:List AV} {v:AV} (hp:PSpec P f (a++args++c) v) (k:wR P N r dead fs (n+1) (putD T d v) h Q):wCall P N .heap (.fn f a c) args d r dead fs n T h Q:=⟨v,h,hp.toH h,k⟩
theorem chc {P:Program} {N:NM} {r:List SOper} {dead:List Nat} {fs:List Fr} {n:Nat} {T:Tmps} {h h1:Heap} {Q:QC} {d:Option Nat} {f:Nat} {args a c:List AV} {v:AV} (hp:HSpec P f (a++args++c) h v h1) (k:wR P N r dead fs (n+1) (putD T d v) h1 Q):wCall P N .heap (.fn f a c) args d r dead fs n T h Q:=⟨v,h1,hp,k⟩
theorem _root_.Go.AM.au3 {p:Prop} (h:p:=by repeat' (first|exact RB.nil|(refine RnL.same ?_;first|rfl|(simp only[noRef,noRefs,Qah,Bool.and_self,Bool.and_true,Bool.true_and,Qaa,Qaw,Qac];done))|exact RnM.keyM rfl|exact RnL.nil|exact(True.intro:RnM _ _ _ [] [])|refine RnL.cons ?_ ?_|(refine Rn.same ?_;first|rfl|(simp only[noRef,noRefs,Qah,Bool.and_self,Bool.and_true,Bool.true_and,Qaa,Qaw,Qac];done))|exact Rn.x1 rfl rfl|exact Rn.x2 rfl rfl|exact Rn.x3 rfl rfl|exact Rn.x4 rfl rfl|exact Rn.x5 rfl|exact Rn.x6 rfl|exact Rn.x7 rfl|refine RB.newnil rfl rfl ?_|refine RB.cells rfl rfl rfl ?_ ?_|refine RB.map rfl rfl rfl ?_ ?_|refine RB.cellsB rfl rfl ?_ ?_|refine RB.mapB rfl rfl ?_ ?_)):p:=h
theorem _root_.Go.AM.au4 {p:Prop} (h:p:=by repeat (first|exact RT.nil|(refine RT.cons ?_ ?_; · (first|exact Rn.any|exact Rn.x1 rfl rfl|exact Rn.x2 rfl rfl|exact Rn.x3 rfl rfl|exact Rn.x4 rfl rfl|exact Rn.x5 rfl|exact Rn.x6 rfl|exact Rn.x7 rfl|(refine Rn.slot ?_ ?_;(first|rfl|(rw[Int.natCast_add];rfl));(first|rfl|(simp only[noRef,noRefs,Qah,Bool.and_self,Bool.and_true,Bool.true_and,Qaa,Qaw,Qac];done)))|(refine Rn.fn ?_ ?_<;>(repeat' (first|exact RnL.nil|refine RnL.cons ?_ ?_|exact Rn.same rfl|exact Rn.x6 rfl|exact Rn.x2 rfl rfl|exact Rn.x5 rfl|exact Rn.x1 rfl rfl))))))):p:=h
theorem index110 (A l : List Nat) (hA : A.length <= 1000000) (hl : l.length <= 1000000) : PSpec Tryz.prog 110 [sliN l, .fn 92 [] [.fptr [sliN A]]] (.int .i64 (fstN A l)) := by
  refine PSpec.Qaj 64 ok110 rfl (by simp only[noRefs,noRef,Qaa];rfl) rfl ?_
  simp(disch:=first|omega|(simp only[lenW]<;>omega)) only[s110,Bool.not_eq_true,wW,wV,simprocAttr]
  refine Qat 100 (fun i:Nat=>[(0,sliN l),(1,.fn 92 [] [.fptr [sliN A]]),(7,.int .i64 l.length),(8,.int .i64 i)]) (fun _=>[]) (fun i=>i<=l.length/\∀(j:Nat) y,j<i->l[j]?=some y->y∈A) (fun i=>l.length-i) 0 ⟨[],rfl,au0,au3,au4⟩ ⟨Nat.zero_le _,fun j y hj=>absurd hj (Nat.not_lt_zero _)⟩ ?_
  rintro i ⟨hi,hb⟩
  by_cases hlt:i<l.length
  · obtain ⟨x, hx⟩ := Qak hlt
    have hn:=not92 A x hA
    by_cases h0:x∈A
    · have e : (!decide (x ∈ A)) = false := by simp [h0]
      rw[e]at hn
      simp(disch:=first|omega|(simp only[lenW]<;>omega)) only[hlt,QaL hx,Bool.not_eq_true,wW,wV,simprocAttr]
      refine cpc hn ?_
      simp(disch:=first|omega|(simp only[lenW]<;>omega)) only[Bool.not_eq_true,wW,wV,simprocAttr]
      refine⟨i+1,by omega,⟨by omega,fun j y hj hy=>?_⟩,⟨[],rfl,au0,au3,au4⟩⟩
      by_cases e:j=i
      · subst e;rw[hx]at hy;cases hy;exact h0
      · exact hb j y (by omega) hy
    · have e : (!decide (x ∈ A)) = true := by simp [h0]
      rw[e]at hn
      simp(disch:=first|omega|(simp only[lenW]<;>omega)) only[hlt,QaL hx,Bool.not_eq_true,wW,wV,simprocAttr]
      refine cpc hn ?_
      simp(disch:=first|omega|(simp only[lenW]<;>omega)) only[Bool.not_eq_true,wW,wV,simprocAttr]
      refine⟨.inr trivial,_,rfl,?_⟩
      have h1:¬l.all (fun x=>decide (x∈A))=true:=by
        intro h;exact h0 (by simpa using List.all_eq_true.1 h x (List.mem_of_getElem? hx))
      have h2:l.findIdx (fun x=> !decide (x∈A))=i:=by
        rw[List.findIdx_eq hlt]
        refine⟨by rw[List.getElem?_eq_getElem hlt]at hx;cases hx;simp[h0],fun j hj=>?_⟩
        have:=hb j l[j] hj (List.getElem?_eq_getElem (by omega))
        simpa using this
      unfold fstN
      rw[if_neg h1,h2];rfl
  · have h1 : l.all (fun x => decide (x ∈ A)) = true := by
      rw[List.all_eq_true]
      intro x hx
      obtain⟨j,hj,hjl⟩:=List.getElem_of_mem hx
      simpa using hb j x (by omega) (by rw[List.getElem?_eq_getElem hj,hjl])
    simp(disch:=first|omega|(simp only[lenW]<;>omega)) only[hlt,Bool.not_eq_true,wW,wV,simprocAttr]
    refine⟨.inr trivial,_,rfl,?_⟩
    unfold fstN
    rw[if_pos h1];rfl
theorem QdE {cs vs:List AV} {off:Nat} (h:off<cs.length):putR cs off vs=cs.take off++vs++cs.drop (off+vs.length):=by
 unfold putR
 split
 ·rename_i v
  rw[List.set_eq_take_append_cons_drop,if_pos h];simp
 ·rfl
theorem Qi0 {P:Program} {N:NM} {d:Option Nat} {r:List SOper} {dead:List Nat} {fs:List Fr} {n:Nat} {T:Tmps} {h:Heap} {Q:QC} {b g off len sz:Nat} {cs zero:List AV} (hb:h.get b=some (.cells g cs)) (h0:0<len) (hl:off+len*sz<=cs.length) (hz:zero.length=sz) (ho:zero.all AV.one=true) (hlim:b<lim)
  (hk:wR P N r dead fs (n+1) (putD T d .any) (h.set b (.cells g (putR cs off (List.replicate len zero).flatten))) Q):wM P N (aClear sz zero (.sl b g off len sz)) d r dead fs n T h Q:=by
 obtain⟨k,rfl⟩:∃k,len=k+1:=⟨len-1,by omega⟩
 refine⟨_,_,?_,hk⟩
 have hg:Nat.beq g g=true:=by simp
 have hlim2:Nat.blt b lim=true:=by simpa using hlim
 simp only[aClear,if_true,HM.cells,HM.run,hb,hg,cond_true]
 rw[if_pos ⟨hl,hz,ho⟩]
 simp only[HM.run,hlim2,cond_true]
def fltN (A l:List Nat):List Nat:=l.filter fun x=>decide (x∈A)
theorem Qi1 {A l:List Nat} {j v:Nat} (h:l[j]?=some v):fltN A (l.take (j+1))=if v∈A then fltN A (l.take j)++[v]else fltN A (l.take j):=by
 unfold fltN
 rw[List.take_add_one,h,Option.toList,List.filter_append]
 by_cases hv:v∈A<;>simp[hv]
def delL (A l:List Nat):List Nat:=fltN A l++List.replicate (l.length-(fltN A l).length) 0
theorem QnE {A l:List Nat} (h:l.all (fun x=>decide (x∈A))=true):fltN A l=l:=by
 unfold fltN
 exact List.filter_eq_self.2 fun x hx=>List.all_eq_true.1 h x hx
theorem Qm1 {k:Nat}:(List.replicate k [AV.int .i64 0]).flatten=ints (nz (List.replicate k 0)):=by
 induction k with
 |zero=>rfl
 |succ k ih=>rw[List.replicate_succ,List.flatten_cons,ih];rfl
theorem Ql8 {l:List Nat} {i:Nat}:(ints (nz l)).take i=ints (nz (l.take i)):=by simp[ints,nz,List.map_take]
theorem Qkq {l:List Nat} {i x:Nat} (h:l[i]?=some x):(ints (nz l))[i]?=some (.int .i64 (x:Int)):=by simp[ints,h]
theorem del40 (A l : List Nat) (hA : A.length <= 1000000) (hl : l.length <= 1000000) :
    HSpec Tryz.prog 40 [.sl 98 0 0 l.length 1,.fn 92 [] [.ptr 75 0 0]] (hp [(75,.cells 0 [sliN A]),(98,.cells 0 (ints (nz l)))]) (.sl 98 0 0 (fltN A l).length 1) (hp [(75,.cells 0 [sliN A]),(98,.cells 0 (ints (nz (delL A l))))]):=by
  refine HSpec.Qkp (m:=99) 100 ok40 rfl rfl ?_
  have hn:(ints (nz l)).length=l.length*1:=by simp[ints]
  simp(disch:=first|omega|(simp only[lenW]<;>omega)) only[s40,Bool.not_eq_true,wW,wV,simprocAttr]
  refine chc (HSpec.lend (FrzL.cons (FrzTo.all gg hn) (FrzL.cons (FrzTo.fn FrzL.nil (FrzL.cons (FrzTo.ptr (g:=0) (cs:=[sliN A]) gg (FrzL.cons (FrzTo.same _) FrzL.nil)) FrzL.nil)) FrzL.nil)) (index110 A l hA hl) rfl) ?_
  by_cases hall:l.all (fun x=>decide (x∈A))=true
  · have e1 : fstN A l = -1 := if_pos hall
    simp(disch:=first|omega|(simp only[lenW]<;>omega)) only[e1,Bool.not_eq_true,wW,wV,simprocAttr]
    refine⟨.inr trivial,_,rfl,?_⟩
    unfold delL;rw[QnE hall,Nat.sub_self,List.replicate_zero,List.append_nil]
    exact⟨[(75,.nil),(98,.nil)],rfl,au0,au3,au4⟩
  have e1:fstN A l=(l.findIdx (fun x=> !decide (x∈A)):Int):=if_neg hall
  have hex:∃x∈l,(!decide (x∈A))=true:=by
    have:¬∀x∈l,decide (x∈A)=true:=fun h=>hall (List.all_eq_true.2 h)
    obtain⟨x,hx⟩:=Classical.not_forall.1 this
    obtain⟨hx,hy⟩:=Classical.not_imp.1 hx
    exact⟨x,hx,by simpa using hy⟩
  have hi0:l.findIdx (fun x=> !decide (x∈A))<l.length:=List.findIdx_lt_length_of_exists hex
  obtain⟨i0,hI⟩:∃i0,i0=l.findIdx (fun x=> !decide (x∈A)):=⟨_,rfl⟩
  rw[<-hI]at e1 hi0
  have hv0:l[i0]∉A:=by
    have:=List.findIdx_getElem (w:=by rw[<-hI];exact hi0) (xs:=l) (p:=fun x=> !decide (x∈A))
    simp only[<-hI]at this
    simpa using this
  have hlow:fltN A (l.take i0)=l.take i0:=by
    unfold fltN
    refine List.filter_eq_self.2 fun x hx=>?_
    obtain⟨j,hj,rfl⟩:=List.getElem_of_mem hx
    rw[List.length_take]at hj
    have:=List.not_of_lt_findIdx (xs:=l) (p:=fun x=> !decide (x∈A)) (i:=j) (by rw[<-hI];omega)
    rw[List.getElem_take]
    simpa using this
  have hst:fltN A (l.take (i0+1))=l.take i0:=by
    rw[Qi1 (List.getElem?_eq_getElem hi0),if_neg hv0,hlow]
  have hne:¬(i0:Int)= -1:=by omega
  simp(disch:=first|omega|(simp only[lenW]<;>omega)) only[e1,hne,Bool.not_eq_true,wW,wV,simprocAttr]
  refine Qat 110 (fun t:Nat×Nat×List Nat=>[(0,.sl 98 0 0 l.length 1),(1,.fn 92 [] [.ptr 75 0 0]),(5,.int .i64 t.2.1),(6,.int .i64 t.1)])
    (fun t=>[(75,.cells 0 [sliN A]),(98,.cells 0 (ints (nz t.2.2)))]) (fun t=>t.1<=l.length/\t.2.1<t.1/\t.2.2.length=l.length/\t.2.2.take t.2.1=fltN A (l.take t.1)/\t.2.2.drop t.1=l.drop t.1) (fun t=>l.length-t.1)
    (i0+1,i0,l) ⟨[(75,.nil),(98,.nil)],rfl,au0,au3,au4⟩ ⟨by dsimp only;omega,by dsimp only;omega,rfl,hst.symm,rfl⟩ ?_
  rintro⟨j,i,C⟩ ⟨hj,hij,hC,hT,hD⟩
  dsimp only at hj hij hC hT hD⊢
  by_cases hlt:j<l.length
  · obtain ⟨v, hv⟩ := Qak hlt
    have hvC:C[j]?=some v:=by
      have:(C.drop j)[0]?=(l.drop j)[0]?:=by rw[hD]
      simpa[hv]using this
    have hs:=Qi1 (A:=A) hv
    have hn2:=not92 A v hA
    by_cases hm:v∈A
    · have e2 : (!decide (v ∈ A)) = false := by simp [hm]
      rw[e2]at hn2
      rw[if_pos hm]at hs
      simp(disch:=first|omega|(simp only[lenW]<;>omega)) only[hlt,hC,Qkq hvC,Bool.not_eq_true,wW,wV,simprocAttr]
      refine chc (HSpec.lend (FrzL.cons (FrzTo.same _) (FrzL.cons (FrzTo.ptr (g:=0) (cs:=[sliN A]) gg (FrzL.cons (FrzTo.same _) FrzL.nil)) FrzL.nil)) hn2 rfl) ?_
      have hil:i<l.length:=by omega
      have hset:(ints (nz C)).set i (.int .i64 (v:Int))=ints (nz (C.set i v)):=by simp[ints,nz,List.map_set]
      have hil1:i+1<=(ints (nz C)).length:=by simp[ints,hC];omega
      have hil2:i+1<=l.length:=by omega
      simp(disch:=first|omega|(simp only[lenW]<;>omega)) only[hil,hC,hset,hil1,hil2,Bool.not_eq_true,wW,wV,simprocAttr]
      refine⟨(j+1,i+1,C.set i v),by dsimp only;omega,⟨by dsimp only;omega,by dsimp only;omega,by simp[hC],?_,?_⟩,?_⟩
      · dsimp only
        rw[hs,<-hT,List.take_add_one,List.getElem?_set_self (by omega),List.take_set,List.set_eq_of_length_le (by rw[List.length_take];omega)];rfl
      · dsimp only
        rw[List.drop_set_of_lt (by omega)]
        have:=congrArg (List.drop 1) hD
        simpa[List.drop_drop]using this
      · exact⟨[(75,.nil),(98,.nil)],rfl,au0,au3,au4⟩
    · have e2 : (!decide (v ∈ A)) = true := by simp [hm]
      rw[e2]at hn2
      rw[if_neg hm]at hs
      simp(disch:=first|omega|(simp only[lenW]<;>omega)) only[hlt,hC,Qkq hvC,Bool.not_eq_true,wW,wV,simprocAttr]
      refine chc (HSpec.lend (FrzL.cons (FrzTo.same _) (FrzL.cons (FrzTo.ptr (g:=0) (cs:=[sliN A]) gg (FrzL.cons (FrzTo.same _) FrzL.nil)) FrzL.nil)) hn2 rfl) ?_
      simp(disch:=first|omega|(simp only[lenW]<;>omega)) only[Bool.not_eq_true,wW,wV,simprocAttr]
      refine⟨(j+1,i,C),by dsimp only;omega,⟨by dsimp only;omega,by dsimp only;omega,hC,by rw[hs];exact hT,?_⟩,?_⟩
      · dsimp only
        have:=congrArg (List.drop 1) hD
        simpa[List.drop_drop]using this
      · exact⟨[(75,.nil),(98,.nil)],rfl,au0,au3,au4⟩
  · have ej : j = l.length := by omega
    subst ej
    rw[List.take_length]at hT
    have hil:(i:Int)<=(l.length:Int):=by omega
    simp(disch:=first|omega|(simp only[lenW]<;>omega)) only[hlt,hil,Bool.not_eq_true,wW,wV,simprocAttr]
    refine Qi0 gg (by omega) (by simp[ints,hC];omega) rfl rfl (by decide) ?_
    simp(disch:=first|omega|(simp only[lenW]<;>omega)) only[hil,Bool.not_eq_true,wW,wV,simprocAttr]
    refine⟨.inr trivial,_,rfl,?_⟩
    have hfl:(fltN A l).length=i:=by rw[<-hT,List.length_take];omega
    have hput:putR (ints (nz C)) i (List.replicate (l.length-i) [AV.int .i64 0]).flatten=ints (nz (delL A l)):=by
      rw[QdE (by simp[ints,hC];omega),Qm1,Ql8,hT]
      unfold delL
      rw[hfl,QaH,QaD,List.drop_of_length_le (by simp[ints,hC];omega),List.append_nil]
    rw[hfl,hput]
    exact⟨[(75,.nil),(98,.nil)],rfl,au0,au3,au4⟩
end Go.AM.SU
namespace Go.AM.SO
open Go.Proofs
def s21:SFn:=⟨94,[.tmp 2],
 (.seq (.region [Zz 1 (.box .dyn (.t 0)) [],
 Zz 2 (.mov (.c (.int .i64 0))) []] [] [0,2])
 (.seq (.seq (.region [Zf 15 0 1 [],
 Zl 16 15 [0],
 Zz 17 (.call .pure (.f 82) [(.t 16)]) [1],
 Zm 3 17 [2,2,0,1,2]] [] [15,16,17])
 (.seq (.region [Zm 18 3 [],
 Zz 19 (.bin .neq (.t 18) (.c (.int .i64 0))) [0]] [] [18])
 (.cond (.t 19)
 (.seq (.region [Zm 20 3 [],
 Zm 2 20 [0,0]] [] [1,3,19,20])
 .ret)
 .skip)))
 (.seq (.seq (.region [Zf 21 1 1 [],
 Zl 22 21 [0],
 Zv 23 22 [1],
 Zm 4 23 [2,0,1,2]] [] [2,3,19,21,22,23])
 (.block 0 (.seq (.region [Zm 25 4 [],
 Zz 26 (.bin .eql (.t 25) (.c (.int .i64 0))) [0],
 Zm 24 26 [1]] [] [25,26])
 (.cond (.t 24)
 (.seq (.region [Zz 2 (.mov (.c (.int .i64 12))) []] [] [1,4,24])
 .ret)
 (.seq (.region [Zm 28 4 [],
 Zz 29 (.bin .gtr (.t 28) (.c (.int .i64 8))) [0],
 Zm 30 29 [1],
 Zx 31 (.mov (.t 4)) [2] 30 false,
 Zx 32 (.faddr 2 (.t 1)) [2] 30 false,
 Zx 33 (.load none (.t 32)) [4,2] 30 false,
 Zx 34 (.len 1 (.t 33)) [5,2] 30 false,
 Zx 35 (.bin .add (.t 31) (.t 34)) [3,6,2] 30 false,
 Zx 36 (.bin .gtr (.t 35) (.c (.int .i64 12))) [7,2] 30 false,
 Zz 37 (.pick (.t 30) (.c (.bool true)) (.t 36)) [2,8],
 Zm 27 37 [9,2]] [] [4,24,28,29,30,31,32,33,34,35,36,37])
 (.cond (.t 27)
 (.seq (.region [Zz 2 (.mov (.c (.int .i64 3))) []] [] [1,27])
 .ret)
 .skip))))))
 (.seq (.region [Zz 38 (.mkmap .dyn) [],
 Zm 5 38 [0,0]] [] [2,27,38])
 (.seq (.region [Zz 6 (.mov (.c .nilsl)) [],
 Zz 7 (.mov (.c .nilsl)) [0]] [] [])
 (.seq (.seq (.region [Zf 39 0 1 [],
 Zl 40 39 [0],
 Zv 41 40 [1],
 Zz 42 (.mov (.c (.int .i64 0))) []] [] [39,40])
 (.block 1 (.loop (.seq (.region [Zb 43 .lss 42 41 []] [] [])
 (.seq (.cond (.t 43)
 .skip
 (.exit 1))
 (.seq (.block 2 (.seq (.region [Zm 44 42 [],
 Zm 8 44 [0,0]] [] [43,44])
 (.region [Zm 45 6 [],
 Zm 46 8 [],
 Zz 47 (.bslice false .dyn 1 1 [(.int .i64 0)] [(0,1,(.t 46))]) [1],
 Zz 48 (.append .dyn 1 8 (.t 45) (.t 47)) [0,2],
 Zm 6 48 [3,3,0,1,2,3]] [] [8,45,46,47,48])))
 (.region [Zz 49 (.bin .add (.t 42) (.c (.int .i64 1))) [],
 Zm 42 49 [0]] [] [49])))))))
 (.seq (.seq (.region [Zf 50 1 1 [],
 Zl 51 50 [0],
 Zv 52 51 [1],
 Zz 53 (.mov (.c (.int .i64 0))) []] [] [41,42,50])
 (.block 3 (.loop (.seq (.region [Zb 54 .lss 53 52 []] [] [])
 (.seq (.cond (.t 54)
 .skip
 (.exit 3))
 (.seq (.block 4 (.seq (.region [Zi 55 5 51 53 [],
 Zw 56 5 55 [0],
 Zz 10 (.alloc .dyn (.agg [(.str []),.nilsl,(.int .i64 0),.nilsl,.nilsl])) [],
 Zs 5 10 56 [2,1,0,1,2]] [] [54,55,56])
 (.seq (.seq (.region [Zw 57 5 10 [],
 Zf 58 0 1 [],
 Zl 59 58 [1],
 Zv 60 59 [2],
 Zm 61 6 [],
 Zm 62 5 [],
 Zz 63 (.call .heap (.f 83) [(.t 57),(.t 60),(.t 61),(.t 62)]) [0,3,4,5],
 Zm 11 63 (Za [6,6] 7)] [] [57,58,59,60,61,62,63])
 (.seq (.region [Zm 64 11 [],
 Zz 65 (.bin .neq (.t 64) (.c (.int .i64 0))) [0]] [] [64])
 (.cond (.t 65)
 (.seq (.region [Zm 66 11 [],
 Zm 2 66 [0,0]] [] [1,5,6,7,51,52,53,10,11,65,66])
 .ret)
 .skip)))
 (.region [Zm 67 7 [],
 Zf 68 1 10 [],
 Zf 69 0 68 [1],
 Zl 70 69 [2],
 Zz 71 (.call .pure (.f 84) [(.t 67),(.t 70)]) [0,3],
 Zm 7 71 (Za [4,4] 5)] [] [2,10,11,65,67,68,69,70,71]))))
 (.region [Zz 72 (.bin .add (.t 53) (.c (.int .i64 1))) [],
 Zm 53 72 [0]] [] [72])))))))
 (.seq (.seq (.region [Zf 73 2 1 [],
 Zl 74 73 [0],
 Zv 75 74 [1],
 Zz 76 (.mov (.c (.int .i64 0))) []] [] [6,51,52,53,73])
 (.block 5 (.loop (.seq (.region [Zb 77 .lss 76 75 []] [] [])
 (.seq (.cond (.t 77)
 .skip
 (.exit 5))
 (.seq (.block 6 (.seq (.region [Zi 78 5 74 76 [],
 Zw 79 5 78 [0],
 Zz 13 (.alloc .dyn (.agg [(.str []),.nilsl,(.int .i64 0),.nilsl,.nilsl])) [],
 Zs 5 13 79 [2,1,0,1,2]] [] [77,78,79])
 (.seq (.region [Zw 80 5 13 [],
 Zf 81 0 1 [],
 Zl 82 81 [1],
 Zv 83 82 [2],
 Zm 84 7 [],
 Zm 85 5 [],
 Zz 86 (.call .heap (.f 83) [(.t 80),(.t 83),(.t 84),(.t 85)]) [0,3,4,5],
 Zm 14 86 (Za [6,6] 7)] [] [13,80,81,82,83,84,85,86])
 (.seq (.region [Zm 87 14 [],
 Zz 88 (.bin .neq (.t 87) (.c (.int .i64 0))) [0]] [] [87])
 (.cond (.t 88)
 (.seq (.region [Zm 89 14 [],
 Zm 2 89 [0,0]] [] [1,5,7,74,75,76,14,88,89])
 .ret)
 .skip)))))
 (.region [Zz 90 (.bin .add (.t 76) (.c (.int .i64 1))) [],
 Zm 76 90 [0]] [] [2,14,88,90])))))))
 (.seq (.region [Zw 91 5 1 [],
 Zz 92 (.call .pure (.f 85) [(.t 91)]) [0],
 Zz 93 (.call .pure (.f 32) [(.t 92)]) [1,1],
 Zm 2 93 [2,2,0,1,2]] [] [1,5,7,74,75,76,91,92,93])
 .ret)))))))))⟩
def s25:SFn:=⟨7,[.tmp 2],
 (.seq (.region [Zz 1 (.box .dyn (.t 0)) [],
 Zz 2 (.mov (.c (.bool false))) []] [] [0,2])
 (.seq (.region [Zf 3 147 1 [],
 Zl 4 3 [0],
 Zv 5 4 [1],
 Zz 6 (.bin .leq (.t 5) (.c (.int .i64 4))) [2],
 Zm 2 6 [3,0,1,2,3]] [] [1,3,4,5,6])
 .ret))⟩
def s36:SFn:=⟨9,[.tmp 4],
 (.seq (.region [Zz 4 (.mov (.c (.bool false))) []] [] [4])
 (.seq (.region [Zm 5 0 [],
 Zm 6 1 [],
 Zz 7 (.call .pure (.f 110) [(.t 5),(.t 6)]) [0,1],
 Zz 8 (.bin .geq (.t 7) (.c (.int .i64 0))) [2],
 Zm 4 8 [3,2,0,1,2,3]] [] [0,1,5,6,7,8])
 .ret))⟩
def s50:SFn:=⟨41,[.tmp 4],
 (.seq (.region [Zz 2 (.box .dyn (.t 0)) [],
 Zz 3 (.box .dyn (.t 1)) [],
 Zz 4 (.mov (.c (.bool false))) []] [] [0,1,4])
 (.seq (.region [Zz 5 (.mov (.f 122)) []] [] [])
 (.seq (.region [Zf 6 0 2 [],
 Zl 7 6 [0],
 Zf 8 0 3 [],
 Zl 9 8 [2],
 Zz 10 (.call .pure (.f 123) [(.t 7),(.t 9)]) [1,3],
 Zm 11 10 [4,4],
 Zx 12 (.faddr 1 (.t 2)) [5] 11 true,
 Zx 13 (.load none (.t 12)) [6,5] 11 true,
 Zx 14 (.faddr 1 (.t 3)) [5] 11 true,
 Zx 15 (.load none (.t 14)) [8,5] 11 true,
 Zx 16 (.mov (.t 5)) [5] 11 true,
 Zx 17 (.call .pure (.f 124) [(.t 13),(.t 15),(.t 16)]) [7,9,10,5,5] 11 true,
 Zz 18 (.pick (.t 11) (.t 17) (.c (.bool false))) [5,11],
 Zm 19 18 [12,11],
 Zx 20 (.faddr 2 (.t 2)) [13] 19 true,
 Zx 21 (.load none (.t 20)) [14,13] 19 true,
 Zx 22 (.faddr 2 (.t 3)) [13] 19 true,
 Zx 23 (.load none (.t 22)) [16,13] 19 true,
 Zx 24 (.mov (.t 5)) [13] 19 true,
 Zx 25 (.call .pure (.f 124) [(.t 21),(.t 23),(.t 24)]) [15,17,18,13,13] 19 true,
 Zz 26 (.pick (.t 19) (.t 25) (.c (.bool false))) [13,19],
 Zm 27 26 [20,19],
 Zx 28 (.faddr 3 (.t 2)) [21] 27 true,
 Zx 29 (.load none (.t 28)) [22,21] 27 true,
 Zx 30 (.faddr 3 (.t 3)) [21] 27 true,
 Zx 31 (.load none (.t 30)) [24,21] 27 true,
 Zx 32 (.call .pure (.f 125) [(.t 29),(.t 31),(.f 126)]) [23,25,21,21] 27 true,
 Zz 33 (.pick (.t 27) (.t 32) (.c (.bool false))) [21,26],
 Zm 34 33 [27,26],
 Zx 35 (.faddr 4 (.t 2)) [28] 34 true,
 Zx 36 (.load none (.t 35)) [29,28] 34 true,
 Zx 37 (.faddr 4 (.t 3)) [28] 34 true,
 Zx 38 (.load none (.t 37)) [31,28] 34 true,
 Zx 39 (.call .pure (.f 128) [(.t 36),(.t 38),(.f 129)]) [30,32,28,28] 34 true,
 Zz 40 (.pick (.t 34) (.t 39) (.c (.bool false))) [28,33],
 Zm 4 40 (Za [34,33] 35)] [] [2,3,5,6,7,8,9,10,11,12,13,14,15,16,17,18,19,20,21,22,23,24,25,26,27,28,29,30,31,32,33,34,35,36,37,38,39,40])
 .ret)))⟩
def s51:SFn:=⟨41,[.tmp 4],
 (.seq (.region [Zz 2 (.box .dyn (.t 0)) [],
 Zz 3 (.box .dyn (.t 1)) [],
 Zz 4 (.mov (.c (.bool false))) []] [] [0,1,4])
 (.seq (.region [Zz 5 (.mov (.f 131)) []] [] [])
 (.seq (.region [Zf 6 0 2 [],
 Zl 7 6 [0],
 Zf 8 0 3 [],
 Zl 9 8 [2],
 Zz 10 (.call .pure (.f 123) [(.t 7),(.t 9)]) [1,3],
 Zm 11 10 [4,4],
 Zx 12 (.faddr 1 (.t 2)) [5] 11 true,
 Zx 13 (.load none (.t 12)) [6,5] 11 true,
 Zx 14 (.faddr 1 (.t 3)) [5] 11 true,
 Zx 15 (.load none (.t 14)) [8,5] 11 true,
 Zx 16 (.mov (.t 5)) [5] 11 true,
 Zx 17 (.call .pure (.f 124) [(.t 13),(.t 15),(.t 16)]) [7,9,10,5,5] 11 true,
 Zz 18 (.pick (.t 11) (.t 17) (.c (.bool false))) [5,11],
 Zm 19 18 [12,11],
 Zx 20 (.faddr 2 (.t 2)) [13] 19 true,
 Zx 21 (.load none (.t 20)) [14,13] 19 true,
 Zx 22 (.faddr 2 (.t 3)) [13] 19 true,
 Zx 23 (.load none (.t 22)) [16,13] 19 true,
 Zx 24 (.mov (.t 5)) [13] 19 true,
 Zx 25 (.call .pure (.f 124) [(.t 21),(.t 23),(.t 24)]) [15,17,18,13,13] 19 true,
 Zz 26 (.pick (.t 19) (.t 25) (.c (.bool false))) [13,19],
 Zm 27 26 [20,19],
 Zx 28 (.faddr 3 (.t 2)) [21] 27 true,
 Zx 29 (.load none (.t 28)) [22,21] 27 true,
 Zx 30 (.faddr 3 (.t 3)) [21] 27 true,
 Zx 31 (.load none (.t 30)) [24,21] 27 true,
 Zx 32 (.call .pure (.f 125) [(.t 29),(.t 31),(.f 132)]) [23,25,21,21] 27 true,
 Zz 33 (.pick (.t 27) (.t 32) (.c (.bool false))) [21,26],
 Zm 34 33 [27,26],
 Zx 35 (.faddr 4 (.t 2)) [28] 34 true,
 Zx 36 (.load none (.t 35)) [29,28] 34 true,
 Zx 37 (.faddr 4 (.t 3)) [28] 34 true,
 Zx 38 (.load none (.t 37)) [31,28] 34 true,
 Zx 39 (.call .pure (.f 128) [(.t 36),(.t 38),(.f 133)]) [30,32,28,28] 34 true,
 Zz 40 (.pick (.t 34) (.t 39) (.c (.bool false))) [28,33],
 Zm 4 40 (Za [34,33] 35)] [] [2,3,5,6,7,8,9,10,11,12,13,14,15,16,17,18,19,20,21,22,23,24,25,26,27,28,29,30,31,32,33,34,35,36,37,38,39,40])
 .ret)))⟩
def s52:SFn:=⟨19,[.tmp 4],
 (.seq (.region [Zz 4 (.mov (.c (.int .i64 0))) []] [] [4])
 (.seq (.seq (.region [Zm 6 0 [],
 Zv 7 6 [0],
 Zz 8 (.mov (.c (.int .i64 0))) []] [] [6])
 (.block 0 (.loop (.seq (.region [Zb 9 .lss 8 7 []] [] [])
 (.seq (.cond (.t 9)
 .skip
 (.exit 0))
 (.seq (.block 1 (.seq (.region [Zm 10 8 [],
 Zm 5 10 [0,0]] [] [9,10])
 (.seq (.region [Zm 11 1 [],
 Zm 12 0 [],
 Zm 13 5 [],
 Zi 14 5 12 13 [1,2],
 Zw 15 5 14 [3],
 Zz 16 (.call .pure (.t 11) [(.t 15)]) [0,4]] [] [11,12,13,14,15])
 (.cond (.t 16)
 (.seq (.region [Zm 17 5 [],
 Zm 4 17 [0,0]] [] [0,1,7,8,5,16,17])
 .ret)
 .skip))))
 (.region [Zz 18 (.bin .add (.t 8) (.c (.int .i64 1))) [],
 Zm 8 18 [0]] [] [4,5,16,18])))))))
 (.seq (.region [Zz 4 (.mov (.c (.int .i64 (-1)))) []] [] [0,1,7,8])
 .ret)))⟩
def s53:SFn:=⟨8,[.tmp 3],
 (.seq (.region [Zz 2 (.box .dyn (.t 0)) [],
 Zz 3 (.mov (.c (.bool false))) []] [] [0,3])
 (.seq (.region [Zf 4 0 2 [],
 Zl 5 4 [0],
 Zl 6 1 [],
 Zb 7 .eql 5 6 [1,2],
 Zm 3 7 [3,0,1,2,3]] [] [1,2,4,5,6,7])
 .ret))⟩
def s60:SFn:=⟨12,[.tmp 2],
 (.seq (.region [Zz 1 (.box .dyn (.t 0)) [],
 Zz 2 (.mov (.c (.bool false))) []] [] [0,2])
 (.seq (.region [Zw 3 4 1 [],
 Zz 4 (.call .pure (.f 112) [(.t 3)]) [0],
 Zz 5 (.bin .eql (.t 4) (.c (.int .i64 0))) [1],
 Zm 6 5 [2,1],
 Zx 7 (.load (some 4) (.t 1)) [3] 6 true,
 Zx 8 (.load (some 4) (.t 1)) [3] 6 true,
 Zx 9 (.call .pure (.f 150) [(.t 8)]) [5,3,3] 6 true,
 Zx 10 (.call .pure (.f 33) [(.t 7),(.t 9)]) [4,6,6,3] 6 true,
 Zz 11 (.pick (.t 6) (.t 10) (.c (.bool false))) [3,7],
 Zm 2 11 (Za [8,7] 9)] [] [1,3,4,5,6,7,8,9,10,11])
 .ret))⟩
def s82:SFn:=⟨51,[.tmp 2],
 (.seq (.region [Zz 2 (.mov (.c (.int .i64 0))) []] [] [2])
 (.seq (.seq (.region [Zm 6 0 [],
 Zv 7 6 [0],
 Zz 8 (.bin .gtr (.t 7) (.c (.int .i64 32))) [1]] [] [6,7])
 (.cond (.t 8)
 (.seq (.region [Zz 2 (.mov (.c (.int .i64 3))) []] [] [0,8])
 .ret)
 .skip))
 (.seq (.region [Zz 9 (.mkmap .dyn) [],
 Zm 3 9 [0,0]] [] [2,8,9])
 (.seq (.seq (.region [Zm 10 0 [],
 Zv 11 10 [0],
 Zz 12 (.mov (.c (.int .i64 0))) []] [] [0])
 (.block 0 (.loop (.seq (.region [Zb 13 .lss 12 11 []] [] [])
 (.seq (.cond (.t 13)
 .skip
 (.exit 0))
 (.seq (.block 1 (.seq (.region [Zi 14 5 10 12 [],
 Zw 15 5 14 [0],
 Zz 5 (.alloc .dyn (.agg [(.str []),(.bool false),(.bool false),(.bool false),(.int .i64 0)])) [],
 Zs 5 5 15 [2,1,0,1,2]] [] [13,14,15])
 (.seq (.block 2 (.seq (.region [Zf 17 0 5 [],
 Zl 18 17 [0],
 Zz 19 (.call .pure (.f 135) [(.t 18)]) [1],
 Zz 20 (.un .not (.t 19)) [2],
 Zm 16 20 [3,2]] [] [17,18,19,20])
 (.cond (.t 16)
 (.seq (.region [Zz 2 (.mov (.c (.int .i64 7))) []] [] [3,10,11,12,45,42,44,43,41,40,33,32,31,5,16])
 .ret)
 (.seq (.region [Zm 22 3 [],
 Zf 23 0 5 [],
 Zl 24 23 [1],
 Zz 25 (.lookup false [.s] (.bool false) false (.t 22) (.t 24)) [0,2],
 Zm 21 25 [3]] [] [16,22,23,24,25])
 (.cond (.t 21)
 (.seq (.region [Zz 2 (.mov (.c (.int .i64 8))) []] [] [3,10,11,12,45,42,44,43,41,40,33,32,31,5,21])
 .ret)
 (.seq (.region [Zf 27 4 5 [],
 Zl 28 27 [0],
 Zz 29 (.bin .lss (.t 28) (.c (.int .i64 0))) [1],
 Zm 30 29 [2],
 Zx 31 (.faddr 4 (.t 5)) [3] 30 false,
 Zx 32 (.load none (.t 31)) [4,3] 30 false,
 Zx 33 (.bin .gtr (.t 32) (.c (.int .i64 4))) [5,3] 30 false,
 Zz 34 (.pick (.t 30) (.c (.bool true)) (.t 33)) [3,6],
 Zm 26 34 [7,3]] [] [21,27,28,29,30,34])
 (.cond (.t 26)
 (.seq (.region [Zz 2 (.mov (.c (.int .i64 2))) []] [] [3,10,11,12,45,42,44,43,41,40,33,32,31,5,26])
 .ret)
 (.seq (.region [Zf 36 4 5 [],
 Zl 37 36 [0],
 Zz 38 (.bin .neq (.t 37) (.c (.int .i64 0))) [1],
 Zm 39 38 [2],
 Zx 40 (.faddr 1 (.t 5)) [3] 39 true,
 Zx 41 (.load none (.t 40)) [4,3] 39 true,
 Zx 42 (.mov (.t 41)) [5,3,3] 39 true,
 Zx 43 (.faddr 2 (.t 5)) [6] 42 false,
 Zx 44 (.load none (.t 43)) [7,6] 42 false,
 Zx 45 (.pick (.t 42) (.c (.bool true)) (.t 44)) [6,8,3] 39 true,
 Zz 46 (.pick (.t 39) (.t 45) (.c (.bool false))) [3,9],
 Zm 35 46 [10,6]] [] [26,36,37,38,39,46])
 (.cond (.t 35)
 (.seq (.region [Zz 2 (.mov (.c (.int .i64 13))) []] [] [3,10,11,12,45,42,44,43,41,40,33,32,31,5,35])
 .ret)
 .skip)))))))))
 (.region [Zm 47 3 [],
 Zf 48 0 5 [],
 Zl 49 48 [1],
 Zy (.mupd false [.s] (.t 47) (.t 49) (.c (.bool true))) [0,2,0,1,2]] [] [2,5,35,47,48,49]))))
 (.region [Zz 50 (.bin .add (.t 12) (.c (.int .i64 1))) [],
 Zm 12 50 [0]] [] [50])))))))
 (.seq (.region [Zz 2 (.mov (.c (.int .i64 0))) []] [] [3,10,11,12,45,42,44,43,41,40,33,32,31])
 .ret)))))⟩
def s84:SFn:=⟨8,[.tmp 4],
 (.seq (.region [Zz 4 (.mov (.c .nilsl)) []] [] [4])
 (.seq (.region [Zm 5 0 [],
 Zm 6 1 [],
 Zz 7 (.call .pure (.f 168) [(.t 5),(.t 6),(.f 169)]) [0,1],
 Zm 4 7 [2,2,0,1,2]] [] [0,1,5,6,7])
 .ret))⟩
def s85:SFn:=⟨68,[.cell 2 (some 3)],
 (.seq (.region [Zz 1 (.box .dyn (.t 0)) [],
 Zz 2 (.alloc .dyn (.agg [.nilsl,.nilsl,.nilsl])) []] [] [0])
 (.seq (.region [Zz 10 (.build [.nilsl,.nilsl,.nilsl] []) [],
 Zz 3 (.alloc .dyn (.agg [.nilsl,.nilsl,.nilsl])) [],
 Zs 3 3 10 [1,0,0,1]] [] [10])
 (.seq (.seq (.region [Zf 11 1 1 [],
 Zl 12 11 [0],
 Zv 13 12 [1],
 Zz 14 (.mov (.c (.int .i64 0))) []] [] [11])
 (.block 0 (.loop (.seq (.region [Zb 15 .lss 14 13 []] [] [])
 (.seq (.cond (.t 15)
 .skip
 (.exit 0))
 (.seq (.block 1 (.seq (.region [Zi 16 5 12 14 [],
 Zw 17 5 16 [0],
 Zz 5 (.alloc .dyn (.agg [(.str []),.nilsl,(.int .i64 0),.nilsl,.nilsl])) [],
 Zs 5 5 17 [2,1,0,1,2]] [] [15,16,17])
 (.region [Zf 18 0 3 [],
 Zl 19 18 [0],
 Zf 20 1 5 [],
 Zf 21 1 20 [2],
 Zl 22 21 [3],
 Zz 23 (.bslice false .dyn 1 1 [(.int .i64 0)] [(0,1,(.t 22))]) [4],
 Zz 24 (.append .dyn 1 8 (.t 19) (.t 23)) [1,5],
 Zf 25 0 3 (Za [] 7),
 Zs 1 25 24 (Za [7,6,6] 7)] [] [5,18,19,20,21,22,23,24,25])))
 (.region [Zz 26 (.bin .add (.t 14) (.c (.int .i64 1))) [],
 Zm 14 26 [0]] [] [26])))))))
 (.seq (.seq (.region [Zf 27 3 1 [],
 Zl 28 27 [0],
 Zv 29 28 [1],
 Zz 30 (.mov (.c (.int .i64 0))) []] [] [12,13,14,27])
 (.block 2 (.loop (.seq (.region [Zb 31 .lss 30 29 []] [] [])
 (.seq (.cond (.t 31)
 .skip
 (.exit 2))
 (.seq (.block 3 (.seq (.region [Zi 32 2 28 30 [],
 Zw 33 2 32 [0],
 Zz 7 (.alloc .dyn (.agg [(.str []),.nilsl])) [],
 Zs 2 7 33 [2,1,0,1,2]] [] [31,32,33])
 (.region [Zf 34 1 3 [],
 Zl 35 34 [0],
 Zf 36 0 7 [],
 Zl 37 36 [2],
 Zf 38 1 7 [],
 Zl 39 38 [4],
 Zz 40 (.call .pure (.f 148) [(.t 39)]) [5],
 Zz 41 (.build [(.str []),.nilsl] [(0,1,(.t 37)),(1,1,(.t 40))]) [3,6],
 Zz 42 (.bslice false .dyn 2 1 [(.str []),.nilsl] [(0,2,(.t 41))]) [7],
 Zz 43 (.append .dyn 2 40 (.t 35) (.t 42)) [1,8,6],
 Zf 44 1 3 (Za [] 10),
 Zs 1 44 43 (Za [10,9,9] 10)] [] [7,34,35,36,37,38,39,40,41,42,43,44])))
 (.region [Zz 45 (.bin .add (.t 30) (.c (.int .i64 1))) [],
 Zm 30 45 [0]] [] [45])))))))
 (.seq (.seq (.region [Zf 46 4 1 [],
 Zl 47 46 [0],
 Zv 48 47 [1],
 Zz 49 (.mov (.c (.int .i64 0))) []] [] [1,28,29,30,46])
 (.block 4 (.loop (.seq (.region [Zb 50 .lss 49 48 []] [] [])
 (.seq (.cond (.t 50)
 .skip
 (.exit 4))
 (.seq (.block 5 (.seq (.region [Zi 51 3 47 49 [],
 Zw 52 3 51 [0],
 Zz 9 (.alloc .dyn (.agg [(.str []),.nilsl,(.int .i64 0)])) [],
 Zs 3 9 52 [2,1,0,1,2]] [] [50,51,52])
 (.region [Zf 53 2 3 [],
 Zl 54 53 [0],
 Zf 55 0 9 [],
 Zl 56 55 [2],
 Zf 57 1 9 [],
 Zl 58 57 [4],
 Zz 59 (.call .pure (.f 149) [(.t 58)]) [5],
 Zf 60 2 9 [],
 Zl 61 60 [7],
 Zz 62 (.build [(.str []),.nilsl,(.int .i64 0)] [(0,1,(.t 56)),(1,1,(.t 59)),(2,1,(.t 61))]) [3,6,8],
 Zz 63 (.bslice false .dyn 3 1 [(.str []),.nilsl,(.int .i64 0)] [(0,3,(.t 62))]) [9],
 Zz 64 (.append .dyn 3 48 (.t 54) (.t 63)) [1,10,6],
 Zf 65 2 3 (Za [] 12),
 Zs 1 65 64 (Za [12,11,11] 12)] [] [9,53,54,55,56,57,58,59,60,61,62,63,64,65])))
 (.region [Zz 66 (.bin .add (.t 49) (.c (.int .i64 1))) [],
 Zm 49 66 [0]] [] [66])))))))
 (.seq (.region [Zw 67 3 3 [],
 Zs 3 2 67 [0,0]] [] [3,47,48,49,67])
 .ret))))))⟩
def s88:SFn:=⟨55,[.tmp 2],
 (.seq (.region [Zz 1 (.box .dyn (.t 0)) [],
 Zz 2 (.mov (.c .nilsl)) []] [] [0,2])
 (.seq (.region [Zz 3 (.mov (.c .nilsl)) []] [] [])
 (.seq (.seq (.region [Zz 4 (.mov (.c (.int .i64 0))) []] [] [])
 (.block 0 (.loop (.seq (.seq (.region [Zm 6 4 [],
 Zz 7 (.bin .lss (.t 6) (.c (.int .i64 5))) [0]] [] [6])
 (.cond (.t 7)
 .skip
 (.exit 0)))
 (.seq (.block 1 (.seq (.region [Zm 10 4 [],
 Zz 11 (.conv .u8 (.t 10)) [0],
 Zz 12 (.bin .add (.c (.int .u8 97)) (.t 11)) [1],
 Zz 13 (.bslice false .dyn 1 1 [(.int .u8 0)] [(0,1,(.t 12))]) [2],
 Zz 14 (.convB (.t 13)) [3],
 Zz 15 (.build [(.str []),(.bool false),(.bool false),(.bool false),(.int .i64 0)] [(0,1,(.t 14))]) [4],
 Zz 5 (.alloc .dyn (.agg [(.str []),(.bool false),(.bool false),(.bool false),(.int .i64 0)])) [],
 Zs 5 5 15 (Za [6,5] 7)] [] [7,10,11,12,13,14,15])
 (.seq (.seq (.region [Zm 16 4 [],
 Zz 17 (.iaddr (some 5) 1 (.t 1) (.t 16)) [0],
 Zl 18 17 [1],
 Zz 19 (.bin .geq (.t 18) (.c (.int .u8 48))) [2],
 Zm 20 19 [3],
 Zx 21 (.mov (.t 4)) [4] 20 true,
 Zx 22 (.iaddr (some 5) 1 (.t 1) (.t 21)) [5,4] 20 true,
 Zx 23 (.load none (.t 22)) [6,4] 20 true,
 Zx 24 (.bin .lss (.t 23) (.c (.int .u8 52))) [7,4] 20 true,
 Zz 25 (.pick (.t 20) (.t 24) (.c (.bool false))) [4,8]] [] [16,17,18,19,20])
 (.cond (.t 25)
 (.region [Zm 26 4 [],
 Zz 27 (.iaddr (some 5) 1 (.t 1) (.t 26)) [0],
 Zl 28 27 [1],
 Zz 29 (.conv .i64 (.t 28)) [2],
 Zz 30 (.bin .sub (.t 29) (.c (.int .i64 47))) [3],
 Zf 31 4 5 (Za [] 5),
 Zs 1 31 30 (Za [5,4] 5)] [] [25,26,27,28,29,30,31])
 (.region [Zm 32 4 [],
 Zz 33 (.iaddr (some 5) 1 (.t 1) (.t 32)) [0],
 Zl 34 33 [1],
 Zz 35 (.bin .and (.t 34) (.c (.int .u8 1))) [2],
 Zz 36 (.bin .eql (.t 35) (.c (.int .u8 1))) [3],
 Zm 37 4 [],
 Zz 38 (.iaddr (some 5) 1 (.t 1) (.t 37)) [5],
 Zl 39 38 [6],
 Zz 40 (.bin .and (.t 39) (.c (.int .u8 2))) [7],
 Zz 41 (.bin .eql (.t 40) (.c (.int .u8 2))) [8],
 Zm 42 4 [],
 Zz 43 (.iaddr (some 5) 1 (.t 1) (.t 42)) [10],
 Zl 44 43 [11],
 Zz 45 (.bin .and (.t 44) (.c (.int .u8 4))) [12],
 Zz 46 (.bin .eql (.t 45) (.c (.int .u8 4))) [13],
 Zf 47 1 5 (Za [] 5),
 Zs 1 47 36 (Za [15,4] 5),
 Zf 48 2 5 [0,1,2,3,4,5,6,7,8,9,15,16],
 Zs 1 48 41 [17,9,16,0,1,2,3,4,5,6,7,8,9,15,16],
 Zf 49 3 5 (Za [] 19),
 Zs 1 49 46 (Za [19,14,18] 19)] [(7,16),(12,16),(12,18)] [25,32,33,34,35,36,37,38,39,40,41,42,43,44,45,46,47,48,49])))
 (.region [Zm 50 3 [],
 Zw 51 5 5 [],
 Zz 52 (.bslice false .dyn 5 1 [(.str []),(.bool false),(.bool false),(.bool false),(.int .i64 0)] [(0,5,(.t 51))]) [1],
 Zz 53 (.append .dyn 5 32 (.t 50) (.t 52)) [0,2],
 Zm 3 53 [3,3,0,1,2,3]] [] [5,50,51,52,53]))))
 (.region [Zm 8 4 [],
 Zz 9 (.bin .add (.t 8) (.c (.int .i64 1))) [0],
 Zm 4 9 [1,0,1]] [] [8,9]))))))
 (.seq (.region [Zm 54 3 [],
 Zm 2 54 [0,0]] [] [1,3,4,24,23,22,21,54])
 .ret))))⟩
def s103:SFn:=⟨62,[.tmp 4],
 (.seq (.region [Zz 2 (.box .dyn (.t 0)) [],
 Zz 3 (.box .dyn (.t 1)) [],
 Zz 4 (.mov (.c (.int .i64 0))) []] [] [0,1,4])
 (.seq (.seq (.region [Zf 7 1 3 [],
 Zl 8 7 [0],
 Zv 9 8 [1],
 Zz 10 (.bin .eql (.t 9) (.c (.int .i64 0))) [2]] [] [7,8,9])
 (.cond (.t 10)
 (.seq (.region [Zz 4 (.mov (.c (.int .i64 12))) []] [] [2,3,10])
 .ret)
 .skip))
 (.seq (.seq (.region [Zf 11 1 3 [],
 Zl 12 11 [0],
 Zv 13 12 [1],
 Zz 14 (.mov (.c (.int .i64 0))) []] [] [4,10,11])
 (.block 0 (.loop (.seq (.region [Zb 15 .lss 14 13 []] [] [])
 (.seq (.cond (.t 15)
 .skip
 (.exit 0))
 (.seq (.block 1 (.seq (.region [Zm 16 14 [],
 Zi 17 2 12 14 [],
 Zw 18 2 17 [1],
 Zz 6 (.alloc .dyn (.agg [(.int .i64 0),(.int .i64 0)])) [],
 Zm 5 16 [0,0,1,2,3],
 Zs 2 6 18 (Za [3,2,4] 5)] [] [15,16,17,18])
 (.block 2 (.seq (.region [Zf 20 0 6 [],
 Zl 21 20 [0],
 Zz 22 (.bin .lss (.t 21) (.c (.int .i64 0))) [1],
 Zm 23 22 [2],
 Zx 24 (.faddr 0 (.t 6)) [3] 23 false,
 Zx 25 (.load none (.t 24)) [4,3] 23 false,
 Zx 26 (.faddr 0 (.t 2)) [3] 23 false,
 Zx 27 (.load none (.t 26)) [6,3] 23 false,
 Zx 28 (.len 1 (.t 27)) [7,3] 23 false,
 Zx 29 (.bin .geq (.t 25) (.t 28)) [5,8,3] 23 false,
 Zz 30 (.pick (.t 23) (.c (.bool true)) (.t 29)) [3,9],
 Zm 19 30 [10,3]] [] [20,21,22,23,30])
 (.cond (.t 19)
 (.seq (.region [Zz 4 (.mov (.c (.int .i64 2))) []] [] [2,3,12,13,14,59,52,58,57,54,56,55,53,51,44,36,43,42,41,38,40,39,37,35,29,25,28,27,26,24,6,5,19])
 .ret)
 (.seq (.region [Zm 32 5 [],
 Zz 33 (.bin .gtr (.t 32) (.c (.int .i64 0))) [0],
 Zm 34 33 [1],
 Zx 35 (.faddr 0 (.t 6)) [2] 34 true,
 Zx 36 (.load none (.t 35)) [3,2] 34 true,
 Zx 37 (.faddr 1 (.t 3)) [2] 34 true,
 Zx 38 (.load none (.t 37)) [5,2] 34 true,
 Zx 39 (.mov (.t 5)) [2] 34 true,
 Zx 40 (.bin .sub (.t 39) (.c (.int .i64 1))) [7,2] 34 true,
 Zx 41 (.iaddr none 2 (.t 38) (.t 40)) [6,8,2] 34 true,
 Zx 42 (.faddr 0 (.t 41)) [9,2] 34 true,
 Zx 43 (.load none (.t 42)) [10,2] 34 true,
 Zx 44 (.bin .leq (.t 36) (.t 43)) [4,11,2] 34 true,
 Zz 45 (.pick (.t 34) (.t 44) (.c (.bool false))) [2,12],
 Zm 31 45 [13,2]] [] [5,19,32,33,34,45])
 (.cond (.t 31)
 (.seq (.region [Zz 4 (.mov (.c (.int .i64 5))) []] [] [2,3,12,13,14,59,52,58,57,54,56,55,53,51,44,36,43,42,41,38,40,39,37,35,29,25,28,27,26,24,6,31])
 .ret)
 (.seq (.region [Zf 47 1 6 [],
 Zl 48 47 [0],
 Zz 49 (.bin .lss (.t 48) (.c (.int .i64 0))) [1],
 Zm 50 49 [2],
 Zx 51 (.faddr 1 (.t 6)) [3] 50 false,
 Zx 52 (.load none (.t 51)) [4,3] 50 false,
 Zx 53 (.faddr 0 (.t 2)) [3] 50 false,
 Zx 54 (.load none (.t 53)) [6,3] 50 false,
 Zx 55 (.faddr 0 (.t 6)) [3] 50 false,
 Zx 56 (.load none (.t 55)) [8,3] 50 false,
 Zx 57 (.iaddr none 1 (.t 54) (.t 56)) [7,9,3] 50 false,
 Zx 58 (.load none (.t 57)) [10,3] 50 false,
 Zx 59 (.bin .geq (.t 52) (.t 58)) [5,11,3] 50 false,
 Zz 60 (.pick (.t 50) (.c (.bool true)) (.t 59)) [3,12],
 Zm 46 60 [13,3]] [] [6,31,47,48,49,50,60])
 (.cond (.t 46)
 (.seq (.region [Zz 4 (.mov (.c (.int .i64 2))) []] [] [2,3,12,13,14,59,52,58,57,54,56,55,53,51,44,36,43,42,41,38,40,39,37,35,29,25,28,27,26,24,46])
 .ret)
 .skip)))))))))
 (.region [Zz 61 (.bin .add (.t 14) (.c (.int .i64 1))) [],
 Zm 14 61 [0]] [] [4,46,61])))))))
 (.seq (.region [Zz 4 (.mov (.c (.int .i64 0))) []] [] [2,3,12,13,14,59,52,58,57,54,56,55,53,51,44,36,43,42,41,38,40,39,37,35,29,25,28,27,26,24])
 .ret))))⟩
def s105:SFn:=⟨59,[.tmp 4],
 (.seq (.region [Zz 2 (.box .dyn (.t 0)) [],
 Zz 3 (.box .dyn (.t 1)) [],
 Zz 4 (.mov (.c (.int .i64 0))) []] [] [0,1,4])
 (.seq (.seq (.region [Zf 7 1 3 [],
 Zl 8 7 [0],
 Zv 9 8 [1],
 Zz 10 (.bin .eql (.t 9) (.c (.int .i64 0))) [2]] [] [7,8,9])
 (.cond (.t 10)
 (.seq (.region [Zz 4 (.mov (.c (.int .i64 12))) []] [] [2,3,10])
 .ret)
 .skip))
 (.seq (.seq (.region [Zf 11 1 3 [],
 Zl 12 11 [0],
 Zv 13 12 [1],
 Zz 14 (.mov (.c (.int .i64 0))) []] [] [4,10,11])
 (.block 0 (.loop (.seq (.region [Zb 15 .lss 14 13 []] [] [])
 (.seq (.cond (.t 15)
 .skip
 (.exit 0))
 (.seq (.block 1 (.seq (.region [Zm 16 14 [],
 Zi 17 2 12 14 [],
 Zw 18 2 17 [1],
 Zz 6 (.alloc .dyn (.agg [(.int .i64 0),(.int .i64 0)])) [],
 Zm 5 16 [0,0,1,2,3],
 Zs 2 6 18 (Za [3,2,4] 5)] [] [15,16,17,18])
 (.block 2 (.seq (.region [Zf 20 0 6 [],
 Zl 21 20 [0],
 Zz 22 (.bin .lss (.t 21) (.c (.int .i64 0))) [1],
 Zm 23 22 [2],
 Zx 24 (.faddr 0 (.t 6)) [3] 23 false,
 Zx 25 (.load none (.t 24)) [4,3] 23 false,
 Zx 26 (.faddr 0 (.t 2)) [3] 23 false,
 Zx 27 (.load none (.t 26)) [6,3] 23 false,
 Zx 28 (.len 1 (.t 27)) [7,3] 23 false,
 Zx 29 (.bin .geq (.t 25) (.t 28)) [5,8,3] 23 false,
 Zz 30 (.pick (.t 23) (.c (.bool true)) (.t 29)) [3,9],
 Zm 19 30 [10,3]] [] [20,21,22,23,30])
 (.cond (.t 19)
 (.seq (.region [Zz 4 (.mov (.c (.int .i64 2))) []] [] [2,3,12,13,14,53,52,51,44,36,43,42,41,38,40,39,37,35,29,25,28,27,26,24,6,5,19])
 .ret)
 (.seq (.region [Zm 32 5 [],
 Zz 33 (.bin .gtr (.t 32) (.c (.int .i64 0))) [0],
 Zm 34 33 [1],
 Zx 35 (.faddr 0 (.t 6)) [2] 34 true,
 Zx 36 (.load none (.t 35)) [3,2] 34 true,
 Zx 37 (.faddr 1 (.t 3)) [2] 34 true,
 Zx 38 (.load none (.t 37)) [5,2] 34 true,
 Zx 39 (.mov (.t 5)) [2] 34 true,
 Zx 40 (.bin .sub (.t 39) (.c (.int .i64 1))) [7,2] 34 true,
 Zx 41 (.iaddr none 2 (.t 38) (.t 40)) [6,8,2] 34 true,
 Zx 42 (.faddr 0 (.t 41)) [9,2] 34 true,
 Zx 43 (.load none (.t 42)) [10,2] 34 true,
 Zx 44 (.bin .leq (.t 36) (.t 43)) [4,11,2] 34 true,
 Zz 45 (.pick (.t 34) (.t 44) (.c (.bool false))) [2,12],
 Zm 31 45 [13,2]] [] [5,19,32,33,34,45])
 (.cond (.t 31)
 (.seq (.region [Zz 4 (.mov (.c (.int .i64 5))) []] [] [2,3,12,13,14,53,52,51,44,36,43,42,41,38,40,39,37,35,29,25,28,27,26,24,6,31])
 .ret)
 (.seq (.region [Zf 47 1 6 [],
 Zl 48 47 [0],
 Zz 49 (.bin .eql (.t 48) (.c (.int .i64 0))) [1],
 Zm 50 49 [2],
 Zx 51 (.faddr 1 (.t 6)) [3] 50 false,
 Zx 52 (.load none (.t 51)) [4,3] 50 false,
 Zx 53 (.call .pure (.f 190) [(.t 52)]) [5,3,3] 50 false,
 Zz 54 (.pick (.t 50) (.c (.bool true)) (.t 53)) [3,6],
 Zm 46 54 [7,6]] [] [6,31,47,48,49,50,54])
 (.cond (.t 46)
 (.seq (.region [Zz 4 (.mov (.c (.int .i64 2))) []] [] [2,3,12,13,14,53,52,51,44,36,43,42,41,38,40,39,37,35,29,25,28,27,26,24,46])
 .ret)
 .skip)))))))))
 (.region [Zz 55 (.bin .add (.t 14) (.c (.int .i64 1))) [],
 Zm 14 55 [0]] [] [4,46,55])))))))
 (.seq (.seq (.region [Zf 56 2 3 [],
 Zl 57 56 [0],
 Zz 58 (.call .pure (.f 190) [(.t 57)]) [1]] [] [2,3,12,13,14,53,52,51,44,36,43,42,41,38,40,39,37,35,29,25,28,27,26,24,56,57])
 (.cond (.t 58)
 (.seq (.region [Zz 4 (.mov (.c (.int .i64 2))) []] [] [58])
 .ret)
 .skip))
 (.seq (.region [Zz 4 (.mov (.c (.int .i64 0))) []] [] [58])
 .ret)))))⟩
def s110:SFn:=⟨19,[.tmp 4],
 (.seq (.region [Zz 4 (.mov (.c (.int .i64 0))) []] [] [4])
 (.seq (.seq (.region [Zm 6 0 [],
 Zv 7 6 [0],
 Zz 8 (.mov (.c (.int .i64 0))) []] [] [6])
 (.block 0 (.loop (.seq (.region [Zb 9 .lss 8 7 []] [] [])
 (.seq (.cond (.t 9)
 .skip
 (.exit 0))
 (.seq (.block 1 (.seq (.region [Zm 10 8 [],
 Zm 5 10 [0,0]] [] [9,10])
 (.seq (.region [Zm 11 1 [],
 Zm 12 0 [],
 Zm 13 5 [],
 Zi 14 1 12 13 [1,2],
 Zl 15 14 [3],
 Zz 16 (.call .pure (.t 11) [(.t 15)]) [0,4]] [] [11,12,13,14,15])
 (.cond (.t 16)
 (.seq (.region [Zm 17 5 [],
 Zm 4 17 [0,0]] [] [0,1,7,8,5,16,17])
 .ret)
 .skip))))
 (.region [Zz 18 (.bin .add (.t 8) (.c (.int .i64 1))) [],
 Zm 8 18 [0]] [] [4,5,16,18])))))))
 (.seq (.region [Zz 4 (.mov (.c (.int .i64 (-1)))) []] [] [0,1,7,8])
 .ret)))⟩
def s114:SFn:=⟨8,[.tmp 2],
 (.seq (.region [Zz 2 (.mov (.c .nilsl)) []] [] [2])
 (.seq (.seq (.region [Zm 3 0 [],
 Zz 4 (.eqn false (.t 3)) [0]] [] [3])
 (.cond (.t 4)
 (.seq (.region [Zz 2 (.mov (.c .nilsl)) []] [] [0,4])
 .ret)
 .skip))
 (.seq (.region [Zz 5 (.bslice false .dyn 5 0 [] []) [],
 Zm 6 0 [],
 Zz 7 (.append .dyn 5 96 (.t 5) (.t 6)) [0,1],
 Zm 2 7 [2,2,0,1,2]] [] [0,4,5,6,7])
 .ret)))⟩
def s122:SFn:=⟨17,[.tmp 4],
 (.seq (.region [Zz 2 (.box .dyn (.t 0)) [],
 Zz 3 (.box .dyn (.t 1)) [],
 Zz 4 (.mov (.c (.bool false))) []] [] [0,1,4])
 (.seq (.region [Zf 5 0 2 [],
 Zl 6 5 [0],
 Zf 7 0 3 [],
 Zl 8 7 [2],
 Zb 9 .eql 6 8 [1,3],
 Zm 10 9 [4],
 Zx 11 (.faddr 1 (.t 2)) [5] 10 true,
 Zx 12 (.load (some 4) (.t 11)) [6,5] 10 true,
 Zx 13 (.faddr 1 (.t 3)) [5] 10 true,
 Zx 14 (.load (some 4) (.t 13)) [8,5] 10 true,
 Zx 15 (.call .pure (.f 33) [(.t 12),(.t 14)]) [7,9,5,5] 10 true,
 Zz 16 (.pick (.t 10) (.t 15) (.c (.bool false))) [5,10],
 Zm 4 16 (Za [11,10] 12)] [] [2,3,5,6,7,8,9,10,11,12,13,14,15,16])
 .ret))⟩
def s123:SFn:=⟨26,[.tmp 4],
 (.seq (.region [Zz 4 (.mov (.c (.bool false))) []] [] [4])
 (.seq (.seq (.region [Zm 6 0 [],
 Zv 7 6 [0],
 Zm 8 1 [],
 Zv 9 8 [2],
 Zb 10 .neq 7 9 [1,3]] [] [6,7,8,9])
 (.cond (.t 10)
 (.seq (.region [Zz 4 (.mov (.c (.bool false))) []] [] [0,1,10])
 .ret)
 .skip))
 (.seq (.seq (.region [Zm 11 0 [],
 Zv 12 11 [0],
 Zz 13 (.mov (.c (.int .i64 0))) []] [] [4,10,11])
 (.block 0 (.loop (.seq (.region [Zb 14 .lss 13 12 []] [] [])
 (.seq (.cond (.t 14)
 .skip
 (.exit 0))
 (.seq (.block 1 (.seq (.region [Zm 15 13 [],
 Zm 5 15 [0,0]] [] [14,15])
 (.seq (.region [Zm 16 0 [],
 Zm 17 5 [],
 Zi 18 5 16 17 [0,1],
 Zw 19 5 18 [2],
 Zm 20 1 [],
 Zm 21 5 [],
 Zi 22 5 20 21 [4,5],
 Zw 23 5 22 [6],
 Zz 24 (.eq (.flat true [.s,.b,.b,.b,.i]) true (.t 19) (.t 23)) [3,7]] [] [5,16,17,18,19,20,21,22,23])
 (.cond (.t 24)
 (.seq (.region [Zz 4 (.mov (.c (.bool false))) []] [] [0,1,12,13,24])
 .ret)
 .skip))))
 (.region [Zz 25 (.bin .add (.t 13) (.c (.int .i64 1))) [],
 Zm 13 25 [0]] [] [4,24,25])))))))
 (.seq (.region [Zz 4 (.mov (.c (.bool true))) []] [] [0,1,12,13])
 .ret))))⟩
def s124:SFn:=⟨32,[.tmp 6],
 (.seq (.region [Zz 6 (.mov (.c (.bool false))) []] [] [6])
 (.seq (.seq (.region [Zm 10 0 [],
 Zv 11 10 [0],
 Zm 12 1 [],
 Zv 13 12 [2],
 Zb 14 .neq 11 13 [1,3]] [] [10,11,12,13])
 (.cond (.t 14)
 (.seq (.region [Zz 6 (.mov (.c (.bool false))) []] [] [0,1,2,14])
 .ret)
 .skip))
 (.seq (.seq (.region [Zm 15 0 [],
 Zv 16 15 [0],
 Zz 17 (.mov (.c (.int .i64 0))) []] [] [6,0,14])
 (.block 0 (.loop (.seq (.region [Zb 18 .lss 17 16 []] [] [])
 (.seq (.cond (.t 18)
 .skip
 (.exit 0))
 (.seq (.block 1 (.seq (.region [Zm 19 17 [],
 Zi 20 5 15 17 [],
 Zw 21 5 20 [1],
 Zz 8 (.alloc .dyn (.agg [(.str []),.nilsl,(.int .i64 0),.nilsl,.nilsl])) [],
 Zm 7 19 [0,0,1,2,3],
 Zs 5 8 21 (Za [3,2,4] 5)] [] [18,19,20,21])
 (.seq (.region [Zm 22 1 [],
 Zm 23 7 [],
 Zi 24 5 22 23 [0,1],
 Zw 25 5 24 [2],
 Zz 9 (.alloc .dyn (.agg [(.str []),.nilsl,(.int .i64 0),.nilsl,.nilsl])) [],
 Zs 5 9 25 (Za [4,3] 5)] [] [7,22,23,24,25])
 (.seq (.region [Zm 26 2 [],
 Zw 27 5 8 [],
 Zw 28 5 9 [],
 Zz 29 (.call .pure (.t 26) [(.t 27),(.t 28)]) [0,1,2],
 Zz 30 (.un .not (.t 29)) [3]] [] [8,9,26,27,28,29])
 (.cond (.t 30)
 (.seq (.region [Zz 6 (.mov (.c (.bool false))) []] [] [1,2,15,16,17,30])
 .ret)
 .skip)))))
 (.region [Zz 31 (.bin .add (.t 17) (.c (.int .i64 1))) [],
 Zm 17 31 [0]] [] [6,30,31])))))))
 (.seq (.region [Zz 6 (.mov (.c (.bool true))) []] [] [1,2,15,16,17])
 .ret))))⟩
def s125:SFn:=⟨32,[.tmp 6],
 (.seq (.region [Zz 6 (.mov (.c (.bool false))) []] [] [6])
 (.seq (.seq (.region [Zm 10 0 [],
 Zv 11 10 [0],
 Zm 12 1 [],
 Zv 13 12 [2],
 Zb 14 .neq 11 13 [1,3]] [] [10,11,12,13])
 (.cond (.t 14)
 (.seq (.region [Zz 6 (.mov (.c (.bool false))) []] [] [0,1,2,14])
 .ret)
 .skip))
 (.seq (.seq (.region [Zm 15 0 [],
 Zv 16 15 [0],
 Zz 17 (.mov (.c (.int .i64 0))) []] [] [6,0,14])
 (.block 0 (.loop (.seq (.region [Zb 18 .lss 17 16 []] [] [])
 (.seq (.cond (.t 18)
 .skip
 (.exit 0))
 (.seq (.block 1 (.seq (.region [Zm 19 17 [],
 Zi 20 2 15 17 [],
 Zw 21 2 20 [1],
 Zz 8 (.alloc .dyn (.agg [(.str []),.nilsl])) [],
 Zm 7 19 [0,0,1,2,3],
 Zs 2 8 21 (Za [3,2,4] 5)] [] [18,19,20,21])
 (.seq (.region [Zm 22 1 [],
 Zm 23 7 [],
 Zi 24 2 22 23 [0,1],
 Zw 25 2 24 [2],
 Zz 9 (.alloc .dyn (.agg [(.str []),.nilsl])) [],
 Zs 2 9 25 (Za [4,3] 5)] [] [7,22,23,24,25])
 (.seq (.region [Zm 26 2 [],
 Zw 27 2 8 [],
 Zw 28 2 9 [],
 Zz 29 (.call .pure (.t 26) [(.t 27),(.t 28)]) [0,1,2],
 Zz 30 (.un .not (.t 29)) [3]] [] [8,9,26,27,28,29])
 (.cond (.t 30)
 (.seq (.region [Zz 6 (.mov (.c (.bool false))) []] [] [1,2,15,16,17,30])
 .ret)
 .skip)))))
 (.region [Zz 31 (.bin .add (.t 17) (.c (.int .i64 1))) [],
 Zm 17 31 [0]] [] [6,30,31])))))))
 (.seq (.region [Zz 6 (.mov (.c (.bool true))) []] [] [1,2,15,16,17])
 .ret))))⟩
def s126:SFn:=⟨17,[.tmp 4],
 (.seq (.region [Zz 2 (.box .dyn (.t 0)) [],
 Zz 3 (.box .dyn (.t 1)) [],
 Zz 4 (.mov (.c (.bool false))) []] [] [0,1,4])
 (.seq (.region [Zf 5 0 2 [],
 Zl 6 5 [0],
 Zf 7 0 3 [],
 Zl 8 7 [2],
 Zb 9 .eql 6 8 [1,3],
 Zm 10 9 [4],
 Zx 11 (.faddr 1 (.t 2)) [5] 10 true,
 Zx 12 (.load none (.t 11)) [6,5] 10 true,
 Zx 13 (.faddr 1 (.t 3)) [5] 10 true,
 Zx 14 (.load none (.t 13)) [8,5] 10 true,
 Zx 15 (.call .pure (.f 127) [(.t 12),(.t 14)]) [7,9,5,5] 10 true,
 Zz 16 (.pick (.t 10) (.t 15) (.c (.bool false))) [5,10],
 Zm 4 16 (Za [11,10] 12)] [] [2,3,5,6,7,8,9,10,11,12,13,14,15,16])
 .ret))⟩
def s127:SFn:=⟨26,[.tmp 4],
 (.seq (.region [Zz 4 (.mov (.c (.bool false))) []] [] [4])
 (.seq (.seq (.region [Zm 6 0 [],
 Zv 7 6 [0],
 Zm 8 1 [],
 Zv 9 8 [2],
 Zb 10 .neq 7 9 [1,3]] [] [6,7,8,9])
 (.cond (.t 10)
 (.seq (.region [Zz 4 (.mov (.c (.bool false))) []] [] [0,1,10])
 .ret)
 .skip))
 (.seq (.seq (.region [Zm 11 0 [],
 Zv 12 11 [0],
 Zz 13 (.mov (.c (.int .i64 0))) []] [] [4,10,11])
 (.block 0 (.loop (.seq (.region [Zb 14 .lss 13 12 []] [] [])
 (.seq (.cond (.t 14)
 .skip
 (.exit 0))
 (.seq (.block 1 (.seq (.region [Zm 15 13 [],
 Zm 5 15 [0,0]] [] [14,15])
 (.seq (.region [Zm 16 0 [],
 Zm 17 5 [],
 Zi 18 2 16 17 [0,1],
 Zw 19 2 18 [2],
 Zm 20 1 [],
 Zm 21 5 [],
 Zi 22 2 20 21 [4,5],
 Zw 23 2 22 [6],
 Zz 24 (.eq (.flat true [.i,.i]) true (.t 19) (.t 23)) [3,7]] [] [5,16,17,18,19,20,21,22,23])
 (.cond (.t 24)
 (.seq (.region [Zz 4 (.mov (.c (.bool false))) []] [] [0,1,12,13,24])
 .ret)
 .skip))))
 (.region [Zz 25 (.bin .add (.t 13) (.c (.int .i64 1))) [],
 Zm 13 25 [0]] [] [4,24,25])))))))
 (.seq (.region [Zz 4 (.mov (.c (.bool true))) []] [] [0,1,12,13])
 .ret))))⟩
def s128:SFn:=⟨32,[.tmp 6],
 (.seq (.region [Zz 6 (.mov (.c (.bool false))) []] [] [6])
 (.seq (.seq (.region [Zm 10 0 [],
 Zv 11 10 [0],
 Zm 12 1 [],
 Zv 13 12 [2],
 Zb 14 .neq 11 13 [1,3]] [] [10,11,12,13])
 (.cond (.t 14)
 (.seq (.region [Zz 6 (.mov (.c (.bool false))) []] [] [0,1,2,14])
 .ret)
 .skip))
 (.seq (.seq (.region [Zm 15 0 [],
 Zv 16 15 [0],
 Zz 17 (.mov (.c (.int .i64 0))) []] [] [6,0,14])
 (.block 0 (.loop (.seq (.region [Zb 18 .lss 17 16 []] [] [])
 (.seq (.cond (.t 18)
 .skip
 (.exit 0))
 (.seq (.block 1 (.seq (.region [Zm 19 17 [],
 Zi 20 3 15 17 [],
 Zw 21 3 20 [1],
 Zz 8 (.alloc .dyn (.agg [(.str []),.nilsl,(.int .i64 0)])) [],
 Zm 7 19 [0,0,1,2,3],
 Zs 3 8 21 (Za [3,2,4] 5)] [] [18,19,20,21])
 (.seq (.region [Zm 22 1 [],
 Zm 23 7 [],
 Zi 24 3 22 23 [0,1],
 Zw 25 3 24 [2],
 Zz 9 (.alloc .dyn (.agg [(.str []),.nilsl,(.int .i64 0)])) [],
 Zs 3 9 25 (Za [4,3] 5)] [] [7,22,23,24,25])
 (.seq (.region [Zm 26 2 [],
 Zw 27 3 8 [],
 Zw 28 3 9 [],
 Zz 29 (.call .pure (.t 26) [(.t 27),(.t 28)]) [0,1,2],
 Zz 30 (.un .not (.t 29)) [3]] [] [8,9,26,27,28,29])
 (.cond (.t 30)
 (.seq (.region [Zz 6 (.mov (.c (.bool false))) []] [] [1,2,15,16,17,30])
 .ret)
 .skip)))))
 (.region [Zz 31 (.bin .add (.t 17) (.c (.int .i64 1))) [],
 Zm 17 31 [0]] [] [6,30,31])))))))
 (.seq (.region [Zz 6 (.mov (.c (.bool true))) []] [] [1,2,15,16,17])
 .ret))))⟩
def s129:SFn:=⟨24,[.tmp 4],
 (.seq (.region [Zz 2 (.box .dyn (.t 0)) [],
 Zz 3 (.box .dyn (.t 1)) [],
 Zz 4 (.mov (.c (.bool false))) []] [] [0,1,4])
 (.seq (.region [Zf 5 0 2 [],
 Zl 6 5 [0],
 Zf 7 0 3 [],
 Zl 8 7 [2],
 Zb 9 .eql 6 8 [1,3],
 Zm 10 9 [4],
 Zx 11 (.faddr 2 (.t 2)) [5] 10 true,
 Zx 12 (.load none (.t 11)) [6,5] 10 true,
 Zx 13 (.faddr 2 (.t 3)) [5] 10 true,
 Zx 14 (.load none (.t 13)) [8,5] 10 true,
 Zx 15 (.bin .eql (.t 12) (.t 14)) [7,9,5] 10 true,
 Zz 16 (.pick (.t 10) (.t 15) (.c (.bool false))) [5,10],
 Zm 17 16 [11,5],
 Zx 18 (.faddr 1 (.t 2)) [12] 17 true,
 Zx 19 (.load none (.t 18)) [13,12] 17 true,
 Zx 20 (.faddr 1 (.t 3)) [12] 17 true,
 Zx 21 (.load none (.t 20)) [15,12] 17 true,
 Zx 22 (.call .pure (.f 130) [(.t 19),(.t 21)]) [14,16,12,12] 17 true,
 Zz 23 (.pick (.t 17) (.t 22) (.c (.bool false))) [12,17],
 Zm 4 23 (Za [18,17] 19)] [] [2,3,5,6,7,8,9,10,11,12,13,14,15,16,17,18,19,20,21,22,23])
 .ret))⟩
def s130:SFn:=⟨26,[.tmp 4],
 (.seq (.region [Zz 4 (.mov (.c (.bool false))) []] [] [4])
 (.seq (.seq (.region [Zm 6 0 [],
 Zv 7 6 [0],
 Zm 8 1 [],
 Zv 9 8 [2],
 Zb 10 .neq 7 9 [1,3]] [] [6,7,8,9])
 (.cond (.t 10)
 (.seq (.region [Zz 4 (.mov (.c (.bool false))) []] [] [0,1,10])
 .ret)
 .skip))
 (.seq (.seq (.region [Zm 11 0 [],
 Zv 12 11 [0],
 Zz 13 (.mov (.c (.int .i64 0))) []] [] [4,10,11])
 (.block 0 (.loop (.seq (.region [Zb 14 .lss 13 12 []] [] [])
 (.seq (.cond (.t 14)
 .skip
 (.exit 0))
 (.seq (.block 1 (.seq (.region [Zm 15 13 [],
 Zm 5 15 [0,0]] [] [14,15])
 (.seq (.region [Zm 16 0 [],
 Zm 17 5 [],
 Zi 18 2 16 17 [0,1],
 Zw 19 2 18 [2],
 Zm 20 1 [],
 Zm 21 5 [],
 Zi 22 2 20 21 [4,5],
 Zw 23 2 22 [6],
 Zz 24 (.eq (.flat true [.i,.i]) true (.t 19) (.t 23)) [3,7]] [] [5,16,17,18,19,20,21,22,23])
 (.cond (.t 24)
 (.seq (.region [Zz 4 (.mov (.c (.bool false))) []] [] [0,1,12,13,24])
 .ret)
 .skip))))
 (.region [Zz 25 (.bin .add (.t 13) (.c (.int .i64 1))) [],
 Zm 13 25 [0]] [] [4,24,25])))))))
 (.seq (.region [Zz 4 (.mov (.c (.bool true))) []] [] [0,1,12,13])
 .ret))))⟩
def s131:SFn:=⟨17,[.tmp 4],
 (.seq (.region [Zz 2 (.box .dyn (.t 0)) [],
 Zz 3 (.box .dyn (.t 1)) [],
 Zz 4 (.mov (.c (.bool false))) []] [] [0,1,4])
 (.seq (.region [Zf 5 0 2 [],
 Zl 6 5 [0],
 Zf 7 0 3 [],
 Zl 8 7 [2],
 Zb 9 .eql 6 8 [1,3],
 Zm 10 9 [4],
 Zx 11 (.faddr 1 (.t 2)) [5] 10 true,
 Zx 12 (.load (some 4) (.t 11)) [6,5] 10 true,
 Zx 13 (.faddr 1 (.t 3)) [5] 10 true,
 Zx 14 (.load (some 4) (.t 13)) [8,5] 10 true,
 Zx 15 (.call .pure (.f 33) [(.t 12),(.t 14)]) [7,9,5,5] 10 true,
 Zz 16 (.pick (.t 10) (.t 15) (.c (.bool false))) [5,10],
 Zm 4 16 (Za [11,10] 12)] [] [2,3,5,6,7,8,9,10,11,12,13,14,15,16])
 .ret))⟩
def s132:SFn:=⟨17,[.tmp 4],
 (.seq (.region [Zz 2 (.box .dyn (.t 0)) [],
 Zz 3 (.box .dyn (.t 1)) [],
 Zz 4 (.mov (.c (.bool false))) []] [] [0,1,4])
 (.seq (.region [Zf 5 0 2 [],
 Zl 6 5 [0],
 Zf 7 0 3 [],
 Zl 8 7 [2],
 Zb 9 .eql 6 8 [1,3],
 Zm 10 9 [4],
 Zx 11 (.faddr 1 (.t 2)) [5] 10 true,
 Zx 12 (.load none (.t 11)) [6,5] 10 true,
 Zx 13 (.faddr 1 (.t 3)) [5] 10 true,
 Zx 14 (.load none (.t 13)) [8,5] 10 true,
 Zx 15 (.call .pure (.f 127) [(.t 12),(.t 14)]) [7,9,5,5] 10 true,
 Zz 16 (.pick (.t 10) (.t 15) (.c (.bool false))) [5,10],
 Zm 4 16 (Za [11,10] 12)] [] [2,3,5,6,7,8,9,10,11,12,13,14,15,16])
 .ret))⟩
def s133:SFn:=⟨24,[.tmp 4],
 (.seq (.region [Zz 2 (.box .dyn (.t 0)) [],
 Zz 3 (.box .dyn (.t 1)) [],
 Zz 4 (.mov (.c (.bool false))) []] [] [0,1,4])
 (.seq (.region [Zf 5 0 2 [],
 Zl 6 5 [0],
 Zf 7 0 3 [],
 Zl 8 7 [2],
 Zb 9 .eql 6 8 [1,3],
 Zm 10 9 [4],
 Zx 11 (.faddr 2 (.t 2)) [5] 10 true,
 Zx 12 (.load none (.t 11)) [6,5] 10 true,
 Zx 13 (.faddr 2 (.t 3)) [5] 10 true,
 Zx 14 (.load none (.t 13)) [8,5] 10 true,
 Zx 15 (.bin .eql (.t 12) (.t 14)) [7,9,5] 10 true,
 Zz 16 (.pick (.t 10) (.t 15) (.c (.bool false))) [5,10],
 Zm 17 16 [11,5],
 Zx 18 (.faddr 1 (.t 2)) [12] 17 true,
 Zx 19 (.load none (.t 18)) [13,12] 17 true,
 Zx 20 (.faddr 1 (.t 3)) [12] 17 true,
 Zx 21 (.load none (.t 20)) [15,12] 17 true,
 Zx 22 (.call .pure (.f 130) [(.t 19),(.t 21)]) [14,16,12,12] 17 true,
 Zz 23 (.pick (.t 17) (.t 22) (.c (.bool false))) [12,17],
 Zm 4 23 (Za [18,17] 19)] [] [2,3,5,6,7,8,9,10,11,12,13,14,15,16,17,18,19,20,21,22,23])
 .ret))⟩
def s134:SFn:=⟨8,[.tmp 3],
 (.seq (.region [Zz 2 (.box .dyn (.t 0)) [],
 Zz 3 (.mov (.c (.bool false))) []] [] [0,3])
 (.seq (.region [Zf 4 0 2 [],
 Zl 5 4 [0],
 Zl 6 1 [],
 Zb 7 .eql 5 6 [1,2],
 Zm 3 7 [3,0,1,2,3]] [] [1,2,4,5,6,7])
 .ret))⟩
def s148:SFn:=⟨8,[.tmp 2],
 (.seq (.region [Zz 2 (.mov (.c .nilsl)) []] [] [2])
 (.seq (.seq (.region [Zm 3 0 [],
 Zz 4 (.eqn false (.t 3)) [0]] [] [3])
 (.cond (.t 4)
 (.seq (.region [Zz 2 (.mov (.c .nilsl)) []] [] [0,4])
 .ret)
 .skip))
 (.seq (.region [Zz 5 (.bslice false .dyn 2 0 [] []) [],
 Zm 6 0 [],
 Zz 7 (.append .dyn 2 16 (.t 5) (.t 6)) [0,1],
 Zm 2 7 [2,2,0,1,2]] [] [0,4,5,6,7])
 .ret)))⟩
def s149:SFn:=⟨8,[.tmp 2],
 (.seq (.region [Zz 2 (.mov (.c .nilsl)) []] [] [2])
 (.seq (.seq (.region [Zm 3 0 [],
 Zz 4 (.eqn false (.t 3)) [0]] [] [3])
 (.cond (.t 4)
 (.seq (.region [Zz 2 (.mov (.c .nilsl)) []] [] [0,4])
 .ret)
 .skip))
 (.seq (.region [Zz 5 (.bslice false .dyn 2 0 [] []) [],
 Zm 6 0 [],
 Zz 7 (.append .dyn 2 16 (.t 5) (.t 6)) [0,1],
 Zm 2 7 [2,2,0,1,2]] [] [0,4,5,6,7])
 .ret)))⟩
def s166:SFn:=⟨7,[.tmp 3],
 (.seq (.region [Zz 3 (.mov (.c (.bool false))) []] [] [3])
 (.seq (.region [Zm 4 0 [],
 Zl 5 1 [],
 Zb 6 .geq 4 5 [0,1],
 Zm 3 6 [2,0,1,2]] [] [0,1,4,5,6])
 .ret))⟩
def s167:SFn:=⟨10,[.tmp 4],
 (.seq (.region [Zz 4 (.mov (.c (.bool false))) []] [] [4])
 (.seq (.region [Zm 5 0 [],
 Zm 6 1 [],
 Zz 7 (.call .pure (.f 219) [(.t 5),(.t 6)]) [0,1],
 Zv 8 7 [2],
 Zz 9 (.bin .eql (.t 8) (.c (.int .i64 0))) [3],
 Zm 4 9 (Za [4,2] 5)] [] [0,1,5,6,7,8,9])
 .ret))⟩
def s168:SFn:=⟨74,[.tmp 6],
 (.seq (.region [Zz 6 (.mov (.c .nilsl)) []] [] [6])
 (.seq (.region [Zz 7 (.mov (.c .nilsl)) []] [] [])
 (.seq (.block 0 (.loop (.seq (.seq (.region [Zm 11 0 [],
 Zv 12 11 [0],
 Zz 13 (.bin .gtr (.t 12) (.c (.int .i64 0))) [1],
 Zm 14 13 [2],
 Zx 15 (.mov (.t 1)) [3] 14 false,
 Zx 16 (.len 1 (.t 15)) [4,3] 14 false,
 Zx 17 (.bin .gtr (.t 16) (.c (.int .i64 0))) [5,3] 14 false,
 Zz 18 (.pick (.t 14) (.c (.bool true)) (.t 17)) [3,6]] [] [11,12,13,14])
 (.cond (.t 18)
 .skip
 (.exit 0)))
 (.block 1 (.seq (.region [Zm 19 0 [],
 Zv 20 19 [0],
 Zz 21 (.bin .gtr (.t 20) (.c (.int .i64 0))) [1],
 Zm 22 21 [2],
 Zx 23 (.mov (.t 1)) [3] 22 true,
 Zx 24 (.len 1 (.t 23)) [4,3] 22 true,
 Zx 25 (.bin .eql (.t 24) (.c (.int .i64 0))) [5,3] 22 true,
 Zx 26 (.mov (.t 25)) [6,3,3] 22 true,
 Zx 27 (.mov (.t 0)) [7] 26 false,
 Zx 28 (.iaddr none 1 (.t 27) (.c (.int .i64 0))) [8,7] 26 false,
 Zx 29 (.load none (.t 28)) [9,7] 26 false,
 Zx 30 (.mov (.t 1)) [7] 26 false,
 Zx 31 (.iaddr none 1 (.t 30) (.c (.int .i64 0))) [11,7] 26 false,
 Zx 32 (.load none (.t 31)) [12,7] 26 false,
 Zx 33 (.bin .leq (.t 29) (.t 32)) [10,13,7] 26 false,
 Zx 34 (.pick (.t 26) (.c (.bool true)) (.t 33)) [7,14,3] 22 true,
 Zz 35 (.pick (.t 22) (.t 34) (.c (.bool false))) [3,15],
 Zm 8 35 (Za [16,7] 17)] [] [18,19,20,21,22,35])
 (.seq (.region [Zm 36 1 [],
 Zv 37 36 [0],
 Zz 38 (.bin .gtr (.t 37) (.c (.int .i64 0))) [1],
 Zm 39 38 [2],
 Zx 40 (.mov (.t 0)) [3] 39 true,
 Zx 41 (.len 1 (.t 40)) [4,3] 39 true,
 Zx 42 (.bin .eql (.t 41) (.c (.int .i64 0))) [5,3] 39 true,
 Zx 43 (.mov (.t 42)) [6,3,3] 39 true,
 Zx 44 (.mov (.t 1)) [7] 43 false,
 Zx 45 (.iaddr none 1 (.t 44) (.c (.int .i64 0))) [8,7] 43 false,
 Zx 46 (.load none (.t 45)) [9,7] 43 false,
 Zx 47 (.mov (.t 0)) [7] 43 false,
 Zx 48 (.iaddr none 1 (.t 47) (.c (.int .i64 0))) [11,7] 43 false,
 Zx 49 (.load none (.t 48)) [12,7] 43 false,
 Zx 50 (.bin .leq (.t 46) (.t 49)) [10,13,7] 43 false,
 Zx 51 (.pick (.t 43) (.c (.bool true)) (.t 50)) [7,14,3] 39 true,
 Zz 52 (.pick (.t 39) (.t 51) (.c (.bool false))) [3,15],
 Zm 9 52 (Za [16,7] 17)] [] [36,37,38,39,52])
 (.seq (.region [Zz 10 (.mov (.c (.int .i64 0))) []] [] [])
 (.seq (.seq (.region [Zm 53 8 []] [] [])
 (.cond (.t 53)
 (.region [Zm 54 0 [],
 Zz 55 (.iaddr none 1 (.t 54) (.c (.int .i64 0))) [0],
 Zl 56 55 [1],
 Zm 57 0 [],
 Zz 58 (.slice (some 1) (.t 57) (some (.c (.int .i64 1))) none none) [3],
 Zm 10 56 [2,0,1,2],
 Zm 0 58 (Za [4,5] 6)] [] [53,54,55,56,57,58])
 .skip))
 (.seq (.seq (.region [Zm 59 9 []] [] [53])
 (.cond (.t 59)
 (.region [Zm 60 1 [],
 Zz 61 (.iaddr none 1 (.t 60) (.c (.int .i64 0))) [0],
 Zl 62 61 [1],
 Zm 63 1 [],
 Zz 64 (.slice (some 1) (.t 63) (some (.c (.int .i64 1))) none none) [3],
 Zm 10 62 [2,0,1,2],
 Zm 1 64 (Za [4,5] 6)] [] [59,60,61,62,63,64])
 .skip))
 (.seq (.region [Zm 65 2 [],
 Zm 66 8 [],
 Zm 67 9 [],
 Zz 68 (.call .pure (.t 65) [(.t 66),(.t 67)]) [0,1,2]] [] [8,9,59,65,66,67])
 (.cond (.t 68)
 (.region [Zm 69 7 [],
 Zm 70 10 [],
 Zz 71 (.bslice false .dyn 1 1 [(.int .i64 0)] [(0,1,(.t 70))]) [1],
 Zz 72 (.append .dyn 1 8 (.t 69) (.t 71)) [0,2],
 Zm 7 72 [3,3,0,1,2,3]] [] [10,68,69,70,71,72])
 .skip)))))))))))
 (.seq (.region [Zm 73 7 [],
 Zm 6 73 [0,0]] [] [0,1,2,7,51,43,50,46,49,48,47,45,44,42,41,40,34,26,33,29,32,31,30,28,27,25,24,23,17,16,15,73])
 .ret))))⟩
def s169:SFn:=⟨9,[.tmp 4],
 (.seq (.region [Zz 4 (.mov (.c (.bool false))) []] [] [4])
 (.seq (.region [Zm 5 0 [],
 Zm 6 5 [0],
 Zx 7 (.mov (.t 1)) [1] 6 false,
 Zz 8 (.pick (.t 6) (.c (.bool true)) (.t 7)) [1,2],
 Zm 4 8 [3,1,0,1,2,3]] [] [0,1,5,6,7,8])
 .ret))⟩
def s190:SFn:=⟨9,[.tmp 2],
 (.seq (.region [Zz 2 (.mov (.c (.bool false))) []] [] [2])
 (.seq (.region [Zm 3 0 [],
 Zz 4 (.bin .lss (.t 3) (.c (.int .i64 (-65536)))) [0],
 Zm 5 4 [1],
 Zx 6 (.mov (.t 0)) [2] 5 false,
 Zx 7 (.bin .gtr (.t 6) (.c (.int .i64 65536))) [3,2] 5 false,
 Zz 8 (.pick (.t 5) (.c (.bool true)) (.t 7)) [2,4],
 Zm 2 8 (Za [5,2] 6)] [] [0,3,4,5,6,7,8])
 .ret))⟩
def s219:SFn:=⟨8,[.tmp 4],
 (.seq (.region [Zz 4 (.mov (.c .nilsl)) []] [] [4])
 (.seq (.region [Zm 5 0 [],
 Zm 6 1 [],
 Zz 7 (.call .pure (.f 168) [(.t 5),(.t 6),(.f 242)]) [0,1],
 Zm 4 7 [2,2,0,1,2]] [] [0,1,5,6,7])
 .ret))⟩
def s242:SFn:=⟨10,[.tmp 4],
 (.seq (.region [Zz 4 (.mov (.c (.bool false))) []] [] [4])
 (.seq (.region [Zm 5 0 [],
 Zm 6 5 [0],
 Zx 7 (.mov (.t 1)) [1] 6 true,
 Zx 8 (.un .not (.t 7)) [2,1] 6 true,
 Zz 9 (.pick (.t 6) (.t 8) (.c (.bool false))) [1,3],
 Zm 4 9 (Za [4,1] 5)] [] [0,1,5,6,7,8,9])
 .ret))⟩
theorem ok21:okFn Tryz.prog 21 s21=true:=by kernel_rfl
theorem ok25:okFn Tryz.prog 25 s25=true:=by kernel_rfl
theorem ok36:okFn Tryz.prog 36 s36=true:=by kernel_rfl
theorem ok50:okFn Tryz.prog 50 s50=true:=by kernel_rfl
theorem ok51:okFn Tryz.prog 51 s51=true:=by kernel_rfl
theorem ok52:okFn Tryz.prog 52 s52=true:=by kernel_rfl
theorem ok53:okFn Tryz.prog 53 s53=true:=by kernel_rfl
theorem ok60:okFn Tryz.prog 60 s60=true:=by kernel_rfl
theorem ok82:okFn Tryz.prog 82 s82=true:=by kernel_rfl
theorem ok84:okFn Tryz.prog 84 s84=true:=by kernel_rfl
theorem ok85:okFn Tryz.prog 85 s85=true:=by kernel_rfl
theorem ok88:okFn Tryz.prog 88 s88=true:=by kernel_rfl
theorem ok103:okFn Tryz.prog 103 s103=true:=by kernel_rfl
theorem ok105:okFn Tryz.prog 105 s105=true:=by kernel_rfl
theorem ok110:okFn Tryz.prog 110 s110=true:=by kernel_rfl
theorem ok114:okFn Tryz.prog 114 s114=true:=by kernel_rfl
theorem ok122:okFn Tryz.prog 122 s122=true:=by kernel_rfl
theorem ok123:okFn Tryz.prog 123 s123=true:=by kernel_rfl
theorem ok124:okFn Tryz.prog 124 s124=true:=by kernel_rfl
theorem ok125:okFn Tryz.prog 125 s125=true:=by kernel_rfl
theorem ok126:okFn Tryz.prog 126 s126=true:=by kernel_rfl
theorem ok127:okFn Tryz.prog 127 s127=true:=by kernel_rfl
theorem ok128:okFn Tryz.prog 128 s128=true:=by kernel_rfl
theorem ok129:okFn Tryz.prog 129 s129=true:=by kernel_rfl
theorem ok130:okFn Tryz.prog 130 s130=true:=by kernel_rfl
theorem ok131:okFn Tryz.prog 131 s131=true:=by kernel_rfl
theorem ok132:okFn Tryz.prog 132 s132=true:=by kernel_rfl
theorem ok133:okFn Tryz.prog 133 s133=true:=by kernel_rfl
theorem ok134:okFn Tryz.prog 134 s134=true:=by kernel_rfl
theorem ok148:okFn Tryz.prog 148 s148=true:=by kernel_rfl
theorem ok149:okFn Tryz.prog 149 s149=true:=by kernel_rfl
theorem ok166:okFn Tryz.prog 166 s166=true:=by kernel_rfl
theorem ok167:okFn Tryz.prog 167 s167=true:=by kernel_rfl
theorem ok168:okFn Tryz.prog 168 s168=true:=by kernel_rfl
theorem ok169:okFn Tryz.prog 169 s169=true:=by kernel_rfl
theorem ok190:okFn Tryz.prog 190 s190=true:=by kernel_rfl
theorem ok219:okFn Tryz.prog 219 s219=true:=by kernel_rfl
theorem ok242:okFn Tryz.prog 242 s242=true:=by kernel_rfl
end Go.AM.SO
namespace Go.AM.SD
end Go.AM.SD
namespace Go.AM.SE
open Go.Proofs Go.AM.SD
end Go.AM.SE
namespace Go.AM.SE
open Go.Proofs Go.AM.SD
theorem Qk4:aEq (.nil 2) false .nilsl .nilsl=some (.bool true):=rfl
theorem Qk5:aEq (.nil 2) false .nsl .nilsl=some (.bool false):=rfl
theorem QjE {P:Program} {N:NM} {n:Nat} {d:Option Nat} {dead:List Nat} {r:List SOper} {T:Tmps} {h:Heap} {Q:QC} {fs:List Fr} {sz bytes b2 g2 off2 len2:Nat}:wM P N (aAppend .dyn n sz bytes (.sl b2 g2 off2 len2 sz) .nsl) d r dead fs n T h Q=
  wA P N (srcB (h.get b2) g2 off2 len2 sz) (some []) g2 len2 0 sz bytes b2 d r dead fs n T h Q:=QdD
theorem _root_.Go.AM.au5 {p:Prop} (h:p:=by repeat' (first|exact RB.nil|(refine RnL.same ?_;first|rfl|(simp only[noRef,noRefs,Qah,Bool.and_self,Bool.and_true,Bool.true_and,Qaa,Qaf,Qad,Qag,Qas,Qbn,Qae,Qaw,Qac,Qa5,QaI,Qam,Qap];done))|exact RnM.keyM rfl|exact RnL.nil|exact(True.intro:RnM _ _ _ [] [])|refine RnL.cons ?_ ?_|(refine Rn.same ?_;first|rfl|(simp only[noRef,noRefs,Qah,Bool.and_self,Bool.and_true,Bool.true_and,Qaa,Qaf,Qad,Qag,Qas,Qbn,Qae,Qaw,Qac,Qa5,QaI,Qam,Qap];done))|exact Rn.x1 rfl rfl|exact Rn.x2 rfl rfl|exact Rn.x3 rfl rfl|exact Rn.x4 rfl rfl|exact Rn.x5 rfl|exact Rn.x6 rfl|exact Rn.x7 rfl|refine RB.newnil rfl rfl ?_|refine RB.cells rfl rfl rfl ?_ ?_|refine RB.map rfl rfl rfl ?_ ?_|refine RB.cellsB rfl rfl ?_ ?_|refine RB.mapB rfl rfl ?_ ?_)):p:=h
theorem _root_.Go.AM.au6 {p:Prop} (h:p:=by repeat (first|exact RT.nil|(refine RT.cons ?_ ?_; · (first|exact Rn.any|exact Rn.x1 rfl rfl|exact Rn.x2 rfl rfl|exact Rn.x3 rfl rfl|exact Rn.x4 rfl rfl|exact Rn.x5 rfl|exact Rn.x6 rfl|exact Rn.x7 rfl|(refine Rn.slot ?_ ?_;(first|rfl|(rw[Int.natCast_add];rfl));(first|rfl|(simp only[noRef,noRefs,Qah,Bool.and_self,Bool.and_true,Bool.true_and,Qaa,Qaf,Qad,Qag,Qas,Qbn,Qae,Qaw,Qac,Qa5,QaI,Qam,Qap];done)))|(refine Rn.fn ?_ ?_<;>(repeat' (first|exact RnL.nil|refine RnL.cons ?_ ?_|exact Rn.same rfl|exact Rn.x6 rfl|exact Rn.x2 rfl rfl|exact Rn.x5 rfl|exact Rn.x1 rfl rfl))))))):p:=h
theorem Ql9:HSpec Tryz.prog 41 [.nilsl] .e (.sl 83 0 0 0 1) (hp [(83,.cells 0 [])]):=by
 refine HSpec.QeJ 100 ok41 rfl ?_
 simp(disch:=first|omega|(simp only[lenW]<;>omega)) only[s41,Qk4,wW,wV,simprocAttr]
 exact⟨.inr trivial,_,rfl,⟨[(83,.nil)],rfl,au0,au5,au6⟩⟩
theorem Qma:HSpec Tryz.prog 41 [.nsl] .e (.sl 83 0 0 0 1) (hp [(83,.cells 0 [])]):=by
 refine HSpec.QeJ 100 ok41 rfl ?_
 simp(disch:=first|omega|(simp only[lenW]<;>omega)) only[s41,Qk5,QjE,wW,wV,simprocAttr]
 exact⟨.inr trivial,_,rfl,⟨[(83,.blk 103 1)],rfl,au0,au5,au6⟩⟩
theorem clone56 (l:List Nat) (hl:l.length<=1000000):HSpec Tryz.prog 41 [sliN l] .e (.sl 83 0 0 l.length 1) (hp [(83,.cells 0 (ints (nz l)))]):=by
 cases l with
 |nil=>exact HSpec.empty Ql9 Qma
 |cons x l=>
  refine HSpec.QeJ 100 ok41 rfl ?_
  have hq:aEq (.nil 2) false (sliN (x::l)) .nilsl=some (.bool false):=rfl
  have hone:(ints (nz (x::l))).all AV.one=true:=by simp[ints,AV.one]
  generalize x::l=q at*
  simp(disch:=first|omega|(simp only[lenW]<;>omega)) only[s41,hq,hone,wW,wV,simprocAttr]
  exact⟨.inr trivial,_,rfl,⟨[(83,.blk 103 1)],rfl,au0,au5,au6⟩⟩
end Go.AM.SE
namespace Go.AM.SE
open Go.Proofs Go.AM.SD
abbrev frzE (es:List Ed) (left:Nat->Bool):Nat->AV:=fun k=>egsN (sOut es left k)
theorem QbF (es:List Ed) (left:Nat->Bool) (l:List Nat):noRefs (l.map (frzE es left))=true:=QcH (fun x=>QaI _) l
theorem QbN (l:List Ed):(l.flatMap edC).length=l.length*3:=QbM (f:=edC) (k:=3) (fun _=>rfl) l
theorem QfT (es:List Ed) (left:Nat->Bool) (v:Nat):(sOut es left v).length<=es.length:=by
 unfold sOut;exact List.length_filter_le _ _
def mks (a:Aut) (i:Nat) (o:List Nat):List Nat:=(List.range i).filter fun j=>a.ms.contains (o.getD j 0)
theorem Qkr {a:Aut} {i:Nat} {o:List Nat}:(mks a i o).length<=i:=by
 unfold mks;exact Nat.le_trans (List.length_filter_le _ _) (by simp)
theorem QnF {a:Aut} {i:Nat} {o t:List Nat} (h:i<=o.length):mks a i (o++t)=mks a i o:=by
 unfold mks
 refine List.filter_congr fun j hj=>?_
 have:=List.mem_range.1 hj
 rw[List.getD_eq_getElem?_getD,List.getD_eq_getElem?_getD,List.getElem?_append_left (by omega)]
theorem Qi2 {a:Aut} {i v:Nat} {o:List Nat} (h:o[i]?=some v):mks a (i+1) o=mks a i o++if a.ms.contains v then[i]else[]:=by
 unfold mks
 rw[List.range_succ,List.filter_append]
 congr 1
 have:o.getD i 0=v:=by rw[List.getD_eq_getElem?_getD,h];rfl
 rw[List.filter_cons,this];rfl
theorem QhB {i:Nat} {s:OE} {es:List Ed} {j:Nat} {e:Ed} (h:es[j]?=some e):(es.take (j+1)).foldl (sEd i) s=sEd i ((es.take j).foldl (sEd i) s) e:=by
 rw[List.take_add_one,h,Option.toList,List.foldl_append];rfl
theorem Qdp {i:Nat}:∀(es:List Ed) (s:OE),(es.foldl (sEd i) s).2.length=s.2.length+es.length
 |[],s=>by simp
 |e::es,s=>by
  rw[List.foldl_cons,Qdp es]
  unfold sEd;split<;>simp<;>omega
end Go.AM.SE
namespace Go.AM.SE
open Go.Proofs Go.AM.SD
end Go.AM.SE
namespace Go.AM.SE
open Go.Proofs Go.AM.SD
def mach:Aut:=⟨[0,1,2,3],3,[0],[(0,0,1),(1,1,0),(1,2,2),(2,3,0)]⟩
def mach3:Aut:=⟨[0,1,2,3],3,[0],[(0,0,1),(1,1,0),(1,2,2)]⟩
theorem q1:QOk mach [2] [1,2]:=⟨by decide,by decide,by decide,by decide⟩
theorem q2:QOk mach3 [] [1,2]:=⟨by decide,by decide,by decide,by decide⟩
end Go.AM.SE
namespace Go.AM.SE
open Go.Proofs Go.AM.SD
theorem QnG {α:Type} {p:α->Bool} {l:List α} {i:Nat} {x:α} (hx:l[i]?=some x) (hp:p x=true) (hb:∀j y,j<i->l[j]?=some y->p y=false):l.find? p=some x:=by
 obtain⟨hi,e⟩:=List.getElem?_eq_some_iff.1 hx
 rw[List.find?_eq_some_iff_getElem]
 refine⟨hp,i,hi,e,fun j hj=>?_⟩
 have:=hb j l[j] hj (List.getElem?_eq_getElem (by omega))
 simp[this]
def stepI (es:List Ed) (s ev:Nat):Int:=match stepA es s ev with|some to=>(to:Int)|none=> -1
theorem _root_.Go.AM.au7 {p:Prop} (h:p:=by repeat' (first|exact RB.nil|(refine RnL.same ?_;first|rfl|(simp only[noRef,noRefs,Qah,Bool.and_self,Bool.and_true,Bool.true_and,Qaa,Qaf,Qad,Qag,Qas,Qbn,Qae,Qaw,Qac,Qa5,QaI,Qam,Qap,QbF];done))|exact RnM.keyM rfl|exact RnL.nil|exact(True.intro:RnM _ _ _ [] [])|refine RnL.cons ?_ ?_|(refine Rn.same ?_;first|rfl|(simp only[noRef,noRefs,Qah,Bool.and_self,Bool.and_true,Bool.true_and,Qaa,Qaf,Qad,Qag,Qas,Qbn,Qae,Qaw,Qac,Qa5,QaI,Qam,Qap,QbF];done))|exact Rn.x1 rfl rfl|exact Rn.x2 rfl rfl|exact Rn.x3 rfl rfl|exact Rn.x4 rfl rfl|exact Rn.x5 rfl|exact Rn.x6 rfl|exact Rn.x7 rfl|refine RB.newnil rfl rfl ?_|refine RB.cells rfl rfl rfl ?_ ?_|refine RB.map rfl rfl rfl ?_ ?_|refine RB.cellsB rfl rfl ?_ ?_|refine RB.mapB rfl rfl ?_ ?_)):p:=h
theorem _root_.Go.AM.au8 {p:Prop} (h:p:=by repeat (first|exact RT.nil|(refine RT.cons ?_ ?_; · (first|exact Rn.any|exact Rn.x1 rfl rfl|exact Rn.x2 rfl rfl|exact Rn.x3 rfl rfl|exact Rn.x4 rfl rfl|exact Rn.x5 rfl|exact Rn.x6 rfl|exact Rn.x7 rfl|(refine Rn.slot ?_ ?_;(first|rfl|(rw[Int.natCast_add];rfl));(first|rfl|(simp only[noRef,noRefs,Qah,Bool.and_self,Bool.and_true,Bool.true_and,Qaa,Qaf,Qad,Qag,Qas,Qbn,Qae,Qaw,Qac,Qa5,QaI,Qam,Qap,QbF];done)))|(refine Rn.fn ?_ ?_<;>(repeat' (first|exact RnL.nil|refine RnL.cons ?_ ?_|exact Rn.same rfl|exact Rn.x6 rfl|exact Rn.x2 rfl rfl|exact Rn.x5 rfl|exact Rn.x1 rfl rfl))))))):p:=h
theorem step60 (a : Aut) (s ev : Nat) (hel : a.es.length <= 1000000) : PSpec Tryz.prog 62 [aV a, .int .i64 s, .int .i64 ev] (.int .i64 (stepI a.es s ev)) := by
  refine PSpec.Qaj 64 ok62 rfl (by(try simp only[noRefs,Qam,Qap,Qaa,Qaf,Qad,Qag,Qas,Qae,noRef,Bool.and_self,Bool.and_true])<;>rfl) rfl ?_
  simp(disch:=first|omega|(simp only[lenW]<;>omega)) only[s62,wW,wV,simprocAttr]
  refine Qat 100 (fun i:Nat=>[(1,.int .i64 s),(2,.int .i64 ev),(3,.ptr 50 0 0),(7,.int .i64 i)]) (fun _=>[(50,.cells 0 [sliN a.al,.int .i64 (a.n:Int),sliN a.ms,egsN a.es])])
    (fun i=>i<=a.es.length/\∀(j:Nat) y,j<i->a.es[j]?=some y->(y.1==s&&y.2.1==ev)=false) (fun i=>a.es.length-i) 0 ⟨[(50,.blk 64 0)],rfl,au0,au7,au8⟩ ⟨Nat.zero_le _,fun j y hj=>absurd hj (Nat.not_lt_zero _)⟩ ?_
  rintro i ⟨hi,hb⟩
  by_cases hlt:i<a.es.length
  · obtain ⟨e, he⟩ := Qak hlt
    have hno:(e.1==s&&e.2.1==ev)=false->i+1<=a.es.length/\∀(j:Nat) y,j<i+1->a.es[j]?=some y->(y.1==s&&y.2.1==ev)=false:=fun h=>⟨by omega,fun j y hj hy=>by
      by_cases e2:j=i
      · subst e2;rw[he]at hy;cases hy;exact h
      · exact hb j y (by omega) hy⟩
    by_cases h1:e.1=s
    · by_cases h2 : e.2.1 = ev
      · have hf := QnG (p := fun e : Ed => e.1 == s && e.2.1 == ev) he (by simp [h1, h2]) hb
        have hs:stepI a.es s ev=e.2.2:=by unfold stepI stepA;rw[hf];rfl
        have h1':(e.1:Int)=(s:Int):=by omega
        have h2':(e.2.1:Int)=(ev:Int):=by omega
        simp(disch:=first|omega|(simp only[lenW]<;>omega)) only[hlt,QaQ he,h1',h2',wW,wV,simprocAttr]
        exact⟨.inr trivial,_,rfl,by rw[hs];rfl⟩
      · have h1' : (e.1 : Int) = (s : Int) := by omega
        have h2':¬(e.2.1:Int)=(ev:Int):=by omega
        simp(disch:=first|omega|(simp only[lenW]<;>omega)) only[hlt,QaQ he,h1',h2',wW,wV,simprocAttr]
        exact⟨i+1,by omega,hno (by simp[h2]),⟨[(50,.blk 50 0)],rfl,au0,au7,au8⟩⟩
    · have h1' : ¬ (e.1 : Int) = (s : Int) := by omega
      simp(disch:=first|omega|(simp only[lenW]<;>omega)) only[hlt,QaQ he,h1',wW,wV,simprocAttr]
      exact⟨i+1,by omega,hno (by simp[h1]),⟨[(50,.blk 50 0)],rfl,au0,au7,au8⟩⟩
  · have hf : a.es.find? (fun e => e.1 == s && e.2.1 == ev) = none := by
      rw[List.find?_eq_none]
      intro y hy
      obtain⟨j,hj,hjl⟩:=QdO hy
      rw[hb j y (by omega) hj];decide
    have hs:stepI a.es s ev= -1:=by unfold stepI stepA;rw[hf];rfl
    simp(disch:=first|omega|(simp only[lenW]<;>omega)) only[hlt,wW,wV,simprocAttr]
    exact⟨.inr trivial,_,rfl,by rw[hs];rfl⟩
theorem index61 (l : List Int) (n : Int) (hl : l.length <= 1099511627776) : PSpec Tryz.prog 261 [sli l, .int .i64 n] (.int .i64 (indexR l n)) := by
  refine PSpec.Qaj 64 ok261 rfl (by(try simp only[noRefs,Qam,Qap,Qaa,Qaf,Qad,Qag,Qas,Qae,noRef,Bool.and_self,Bool.and_true])<;>rfl) rfl ?_
  simp(disch:=first|omega|(simp only[lenW]<;>omega)) only[s261,wW,wV,simprocAttr]
  refine Qat 100 (fun i:Nat=>[(0,sli l),(1,.int .i64 n),(5,.int .i64 i)]) (fun _=>[]) (fun i=>i<=l.length/\∀(j:Nat) y,j<i->l[j]?=some y->y≠n) (fun i=>l.length-i) 0 ⟨[],rfl,au0,au7,au8⟩ ⟨Nat.zero_le _,fun j y hj=>absurd hj (Nat.not_lt_zero _)⟩ ?_
  rintro i ⟨hi,hb⟩
  by_cases hlt:i<l.length
  · obtain ⟨x, hx⟩ := Qak hlt
    by_cases h0:x=n
    · have h1 : n ∈ l := h0 ▸ List.mem_of_getElem? hx
      have h2:l.findIdx (· ==n)=i:=by
        rw[List.findIdx_eq hlt]
        refine⟨by rw[List.getElem?_eq_getElem hlt]at hx;cases hx;simp[h0],fun j hj=>?_⟩
        have:=hb j l[j] hj (List.getElem?_eq_getElem (by omega))
        simpa using this
      simp(disch:=first|omega|(simp only[lenW]<;>omega)) only[hlt,QaW hx,h0,wW,wV,simprocAttr]
      refine⟨.inr trivial,_,rfl,?_⟩
      simp only[indexR,if_pos h1,h2];rfl
    · simp (disch := first | omega | (simp only [lenW] <;> omega)) only [hlt, QaW hx, h0, wW, wV, simprocAttr]
      refine⟨i+1,by omega,⟨by omega,fun j y hj hy=>?_⟩,⟨[],rfl,au0,au7,au8⟩⟩
      by_cases e:j=i
      · subst e;rw[hx]at hy;cases hy;exact h0
      · exact hb j y (by omega) hy
  · have : n ∉ l := fun h => by
      obtain⟨j,hj,hjl⟩:=QdO h
      exact hb j n (by omega) hj rfl
    simp(disch:=first|omega|(simp only[lenW]<;>omega)) only[hlt,wW,wV,simprocAttr]
    exact⟨.inr trivial,_,rfl,by simp only[indexR,if_neg this];rfl⟩
theorem Qi3 {l:List Nat} {x:Nat} (h:x∈l):indexR (nz l) x=idx l x:=by
  have h1:(x:Int)∈nz l:=List.mem_map.2 ⟨x,h,rfl⟩
  unfold indexR
  rw[if_pos h1]
  unfold idx nz
  rw[List.findIdx_map]
  congr 2
  funext y
  show((y:Int)==(x:Int))=(y==x)
  by_cases e:y=x
  · subst e;simp
  · have : ¬ (y : Int) = (x : Int) := by omega
    rw[beq_eq_false_iff_ne.2 this,beq_eq_false_iff_ne.2 e]
theorem QhC {al:List Nat} {es:List Ed} {s:Nat} {out:List Nat} {k ev:Nat} (h:al[k]?=some ev):(al.take (k+1)).foldl (fEv es s) out=fEv es s ((al.take k).foldl (fEv es s) out) ev:=by
 rw[List.take_add_one,h,Option.toList,List.foldl_append];rfl
structure Raw (a:Aut):Prop where
 esn:∀e∈a.es,e.1<a.n/\e.2.2<a.n
 n5:a.n<=5
 el:a.es.length<=1000000
 al:a.al.length<=32
 ml:a.ms.length<=32
theorem found59 (a : Aut) (h : Raw a) : PSpec Tryz.prog 259 [aV a] (sliN (found a)) := by
  have hn5:=h.n5
  have hal:=h.al
  refine PSpec.of_rn 64 ok259 rfl (by(try simp only[noRefs,Qam,Qap,Qaa,Qaf,Qad,Qag,Qas,Qae,noRef,Bool.and_self,Bool.and_true])<;>rfl) (Qac _) ?_
  have hfin:fQ a.al a.es (a.n+1) 0 (if 0<a.n then[0]else[])=found a:=rfl
  by_cases h0:0<a.n
  · rw [if_pos h0] at hfin
    have h0':(0:Int)<(a.n:Int):=by omega
    simp(disch:=first|omega|(simp only[lenW]<;>omega)) only[s259,h0',QiZ,QmZ,wW,wV,simprocAttr]
    refine Qat 100 (fun t:Nat×List Nat=>[(1,.ptr 50 0 0),(3,.sl 75 0 0 t.2.length 1),(4,.int .i64 t.1)]) (fun t=>[(50,.cells 0 [sliN a.al,.int .i64 (a.n:Int),sliN a.ms,egsN a.es]),(75,.cells 0 (ints (nz t.2)))])
      (fun t=>t.1<=t.2.length/\FI a.n t.2/\fQ a.al a.es (a.n+1-t.1) t.1 t.2=found a) (fun t=>a.n+1-t.1) (0,[0]) ?_ ⟨Nat.zero_le _,⟨by simp,fun x hx=>by simp at hx;omega⟩,by dsimp only;exact hfin⟩ ?_
    · exact⟨[(50,.blk 64 0),(75,.blk 72 0)],rfl,au0,au7,au8⟩
    rintro⟨i,out⟩ ⟨hi,hfi,hq⟩
    dsimp only at hi hfi hq⊢
    have hfl:=hfi.len
    by_cases hlt:i<out.length
    · obtain ⟨s, hs⟩ := Qak hlt
      have hq':fQ a.al a.es (a.n+1-(i+1)) (i+1) (fRow a.al a.es s out)=found a:=by
        rw[<-hq,show a.n+1-i=(a.n+1-(i+1))+1 by omega]
        simp only[fQ,hs]
      have hrow:=fun k=>FI.row h.esn s (a.al.take k) out hfi
      simp(disch:=first|omega|(simp only[lenW]<;>omega)) only[hlt,wW,wV,simprocAttr]
      refine Qax 200 (fun k:Nat=>[(1,.ptr 50 0 0),(3,.sl 75 0 0 ((a.al.take k).foldl (fEv a.es s) out).length 1),(4,.int .i64 i),(5,.int .i64 k)]) (fun k=>[(50,.cells 0 [sliN a.al,.int .i64 (a.n:Int),sliN a.ms,egsN a.es]),(75,.cells 0 (ints (nz ((a.al.take k).foldl (fEv a.es s) out))))])
        (fun k=>k<=a.al.length) (fun k=>a.al.length-k) 0 2 300
        (fun _:Unit=>[(1,.ptr 50 0 0),(3,.sl 75 0 0 (fRow a.al a.es s out).length 1),(4,.int .i64 i)]) (fun _=>[(50,.cells 0 [sliN a.al,.int .i64 (a.n:Int),sliN a.ms,egsN a.es]),(75,.cells 0 (ints (nz (fRow a.al a.es s out))))]) (fun _=>True) ?_ (Nat.zero_le _) ?_ ?_
      · exact⟨[(50,.blk 50 0),(75,.blk 75 0)],rfl,au0,au7,au8⟩
      · rintro k hk
        by_cases hkl:k<a.al.length
        · obtain ⟨ev, hev⟩ := Qak hkl
          have hstep:=QhC (es:=a.es) (s:=s) (out:=out) hev
          obtain⟨k1,⟨t,ht⟩,_⟩:=hrow k
          have hol:=k1.len
          have hs2:((a.al.take k).foldl (fEv a.es s) out)[i]?=some s:=by rw[ht,List.getElem?_append_left hlt];exact hs
          generalize (a.al.take k).foldl (fEv a.es s) out=o at*
          have hil:i<o.length:=(List.getElem?_eq_some_iff.1 hs2).1
          simp(disch:=first|omega|(simp only[lenW]<;>omega)) only[hkl,hil,Qdo (nz_at hs2),QaL hev,wW,wV,simprocAttr]
          refine cp (step60 a s ev h.el) ?_
          cases hst:stepA a.es s ev with
          | none =>
            have h1:stepI a.es s ev= -1:=by unfold stepI;rw[hst]
            have h2:fEv a.es s o ev=o:=by unfold fEv;rw[hst]
            rw[h2]at hstep
            rw[h1]
            simp(disch:=first|omega|(simp only[lenW]<;>omega)) only[wW,wV,simprocAttr]
            refine⟨k+1,by omega,by omega,?_⟩
            rw[hstep]
            exact⟨[(50,.blk 50 0),(75,.blk 75 0)],rfl,au0,au7,au8⟩
          | some to =>
            have h1:stepI a.es s ev=to:=by unfold stepI;rw[hst]
            have hto:=QfR h.esn hst
            rw[h1]
            simp(disch:=first|omega|(simp only[lenW]<;>omega)) only[wW,wV,simprocAttr]
            have hh:=has36 (nz o) to (by simp;omega)
            rw[QiW,QbU]at hh
            by_cases hc:o.contains to=true
            · have h2 : fEv a.es s o ev = o := by unfold fEv; rw [hst]; exact if_pos hc
              rw[h2]at hstep
              rw[hc]at hh
              refine ch (HSpec.lend (FrzL.cons (FrzTo.all gg (by simp[ints])) (FrzL.cons (FrzTo.same _) FrzL.nil)) hh rfl) ?_
              simp(disch:=first|omega|(simp only[lenW]<;>omega)) only[wW,wV,simprocAttr]
              refine⟨k+1,by omega,by omega,?_⟩
              rw[hstep]
              exact⟨[(50,.blk 50 0),(75,.blk 75 0)],rfl,au0,au7,au8⟩
            · have h2 : fEv a.es s o ev = o ++ [to] := by unfold fEv; rw [hst]; exact if_neg hc
              rw[h2]at hstep
              rw[Bool.not_eq_true]at hc
              rw[hc]at hh
              refine ch (HSpec.lend (FrzL.cons (FrzTo.all gg (by simp[ints])) (FrzL.cons (FrzTo.same _) FrzL.nil)) hh rfl) ?_
              simp(disch:=first|omega|(simp only[lenW]<;>omega)) only[wW,wV,simprocAttr]
              refine⟨k+1,by omega,by omega,?_⟩
              rw[hstep,List.length_append,QaH,QaD]
              exact⟨[(50,.blk 50 0),(75,.blk 75 1)],rfl,au0,au7,au8⟩
        · have e : k = a.al.length := by omega
          subst e
          simp(disch:=first|omega|(simp only[lenW]<;>omega)) only[hkl,wW,wV,simprocAttr]
          refine⟨(),?_⟩
          exact⟨[(50,.blk 50 0),(75,.blk 75 0)],rfl,au0,au7,au8⟩
      rintro _ _
      obtain⟨k1,⟨t,ht⟩,_⟩:=hrow a.al.length
      rw[List.take_length]at k1 ht
      have ht:fRow a.al a.es s out=out++t:=ht
      simp(disch:=first|omega|(simp only[lenW]<;>omega)) only[wW,wV,simprocAttr]
      refine⟨(i+1,fRow a.al a.es s out),by dsimp only;omega,⟨by dsimp only;rw[ht,List.length_append];omega,k1,hq'⟩,?_⟩
      exact⟨[(50,.blk 50 0),(75,.blk 75 0)],rfl,au0,au7,au8⟩
    · have hv : out[i]? = none := List.getElem?_eq_none (by omega)
      have hqf:out=found a:=by
        rw[<-hq,show a.n+1-i=(a.n-i)+1 by omega]
        simp only[fQ,hv]
      simp(disch:=first|omega|(simp only[lenW]<;>omega)) only[hlt,wW,wV,simprocAttr]
      refine⟨.inr trivial,_,rfl,?_⟩
      rw[hqf]
      exact Rn.fz0 (g:=0) rfl (by simp[ints]) (RnL.same (Qaa _))
  · rw [if_neg h0] at hfin
    have h0':¬(0:Int)<(a.n:Int):=by omega
    simp(disch:=first|omega|(simp only[lenW]<;>omega)) only[s259,h0',wW,wV,simprocAttr]
    refine Qat 100 (fun t:Nat×List Nat=>[(1,.ptr 50 0 0),(3,.sl 75 0 0 t.2.length 1),(4,.int .i64 t.1)]) (fun t=>[(50,.cells 0 [sliN a.al,.int .i64 (a.n:Int),sliN a.ms,egsN a.es]),(75,.cells 0 (ints (nz t.2)))])
      (fun t=>t.1<=t.2.length/\FI a.n t.2/\fQ a.al a.es (a.n+1-t.1) t.1 t.2=found a) (fun t=>a.n+1-t.1) (0,([]:List Nat)) ?_ ⟨Nat.zero_le _,⟨by simp,fun x hx=>by cases hx⟩,by dsimp only;exact hfin⟩ ?_
    · exact⟨[(50,.blk 64 0),(75,.nil)],rfl,au0,au7,au8⟩
    rintro⟨i,out⟩ ⟨hi,hfi,hq⟩
    dsimp only at hi hfi hq⊢
    have hfl:=hfi.len
    by_cases hlt:i<out.length
    · obtain ⟨s, hs⟩ := Qak hlt
      have hq':fQ a.al a.es (a.n+1-(i+1)) (i+1) (fRow a.al a.es s out)=found a:=by
        rw[<-hq,show a.n+1-i=(a.n+1-(i+1))+1 by omega]
        simp only[fQ,hs]
      have hrow:=fun k=>FI.row h.esn s (a.al.take k) out hfi
      simp(disch:=first|omega|(simp only[lenW]<;>omega)) only[hlt,wW,wV,simprocAttr]
      refine Qax 200 (fun k:Nat=>[(1,.ptr 50 0 0),(3,.sl 75 0 0 ((a.al.take k).foldl (fEv a.es s) out).length 1),(4,.int .i64 i),(5,.int .i64 k)]) (fun k=>[(50,.cells 0 [sliN a.al,.int .i64 (a.n:Int),sliN a.ms,egsN a.es]),(75,.cells 0 (ints (nz ((a.al.take k).foldl (fEv a.es s) out))))])
        (fun k=>k<=a.al.length) (fun k=>a.al.length-k) 0 2 300
        (fun _:Unit=>[(1,.ptr 50 0 0),(3,.sl 75 0 0 (fRow a.al a.es s out).length 1),(4,.int .i64 i)]) (fun _=>[(50,.cells 0 [sliN a.al,.int .i64 (a.n:Int),sliN a.ms,egsN a.es]),(75,.cells 0 (ints (nz (fRow a.al a.es s out))))]) (fun _=>True) ?_ (Nat.zero_le _) ?_ ?_
      · exact⟨[(50,.blk 50 0),(75,.blk 75 0)],rfl,au0,au7,au8⟩
      · rintro k hk
        by_cases hkl:k<a.al.length
        · obtain ⟨ev, hev⟩ := Qak hkl
          have hstep:=QhC (es:=a.es) (s:=s) (out:=out) hev
          obtain⟨k1,⟨t,ht⟩,_⟩:=hrow k
          have hol:=k1.len
          have hs2:((a.al.take k).foldl (fEv a.es s) out)[i]?=some s:=by rw[ht,List.getElem?_append_left hlt];exact hs
          generalize (a.al.take k).foldl (fEv a.es s) out=o at*
          have hil:i<o.length:=(List.getElem?_eq_some_iff.1 hs2).1
          simp(disch:=first|omega|(simp only[lenW]<;>omega)) only[hkl,hil,Qdo (nz_at hs2),QaL hev,wW,wV,simprocAttr]
          refine cp (step60 a s ev h.el) ?_
          cases hst:stepA a.es s ev with
          | none =>
            have h1:stepI a.es s ev= -1:=by unfold stepI;rw[hst]
            have h2:fEv a.es s o ev=o:=by unfold fEv;rw[hst]
            rw[h2]at hstep
            rw[h1]
            simp(disch:=first|omega|(simp only[lenW]<;>omega)) only[wW,wV,simprocAttr]
            refine⟨k+1,by omega,by omega,?_⟩
            rw[hstep]
            exact⟨[(50,.blk 50 0),(75,.blk 75 0)],rfl,au0,au7,au8⟩
          | some to =>
            have h1:stepI a.es s ev=to:=by unfold stepI;rw[hst]
            have hto:=QfR h.esn hst
            rw[h1]
            simp(disch:=first|omega|(simp only[lenW]<;>omega)) only[wW,wV,simprocAttr]
            have hh:=has36 (nz o) to (by simp;omega)
            rw[QiW,QbU]at hh
            by_cases hc:o.contains to=true
            · have h2 : fEv a.es s o ev = o := by unfold fEv; rw [hst]; exact if_pos hc
              rw[h2]at hstep
              rw[hc]at hh
              refine ch (HSpec.lend (FrzL.cons (FrzTo.all gg (by simp[ints])) (FrzL.cons (FrzTo.same _) FrzL.nil)) hh rfl) ?_
              simp(disch:=first|omega|(simp only[lenW]<;>omega)) only[wW,wV,simprocAttr]
              refine⟨k+1,by omega,by omega,?_⟩
              rw[hstep]
              exact⟨[(50,.blk 50 0),(75,.blk 75 0)],rfl,au0,au7,au8⟩
            · have h2 : fEv a.es s o ev = o ++ [to] := by unfold fEv; rw [hst]; exact if_neg hc
              rw[h2]at hstep
              rw[Bool.not_eq_true]at hc
              rw[hc]at hh
              refine ch (HSpec.lend (FrzL.cons (FrzTo.all gg (by simp[ints])) (FrzL.cons (FrzTo.same _) FrzL.nil)) hh rfl) ?_
              simp(disch:=first|omega|(simp only[lenW]<;>omega)) only[wW,wV,simprocAttr]
              refine⟨k+1,by omega,by omega,?_⟩
              rw[hstep,List.length_append,QaH,QaD]
              exact⟨[(50,.blk 50 0),(75,.blk 75 1)],rfl,au0,au7,au8⟩
        · have e : k = a.al.length := by omega
          subst e
          simp(disch:=first|omega|(simp only[lenW]<;>omega)) only[hkl,wW,wV,simprocAttr]
          refine⟨(),?_⟩
          exact⟨[(50,.blk 50 0),(75,.blk 75 0)],rfl,au0,au7,au8⟩
      rintro _ _
      obtain⟨k1,⟨t,ht⟩,_⟩:=hrow a.al.length
      rw[List.take_length]at k1 ht
      have ht:fRow a.al a.es s out=out++t:=ht
      simp(disch:=first|omega|(simp only[lenW]<;>omega)) only[wW,wV,simprocAttr]
      refine⟨(i+1,fRow a.al a.es s out),by dsimp only;omega,⟨by dsimp only;rw[ht,List.length_append];omega,k1,hq'⟩,?_⟩
      exact⟨[(50,.blk 50 0),(75,.blk 75 0)],rfl,au0,au7,au8⟩
    · have hv : out[i]? = none := List.getElem?_eq_none (by omega)
      have hqf:out=found a:=by
        rw[<-hq,show a.n+1-i=(a.n-i)+1 by omega]
        simp only[fQ,hv]
      simp(disch:=first|omega|(simp only[lenW]<;>omega)) only[hlt,wW,wV,simprocAttr]
      refine⟨.inr trivial,_,rfl,?_⟩
      rw[hqf]
      exact Rn.fz0 (g:=0) rfl (by simp[ints]) (RnL.same (Qaa _))
end Go.AM.SE
namespace Go.AM.SE
open Go.Proofs Go.AM.SD
theorem Qm2 (l:List Int):(ints l).all AV.one=true:=by
 induction l with
 |nil=>rfl
 |cons x l ih=>show(AV.one _&&(ints l).all AV.one)=true;rw[ih];rfl
theorem empty45 (l:List Nat) (hl:l.length<=1000000):PSpec Tryz.prog 224 [sliN l] (.agg [sliN l,.int .i64 0,.nilsl,.nilsl]):=by
 refine PSpec.of_rn 64 ok224 rfl (by(try simp only[noRefs,Qam,Qap,Qaa,Qaf,Qad,Qag,Qas,Qae,noRef,Bool.and_self,Bool.and_true])<;>rfl) (by simp only[noRef,noRefs,Qaa];rfl) ?_
 have hone:=Qm2 (nz l)
 simp(disch:=first|omega|(simp only[lenW]<;>omega)) only[s224,hone,wW,wV,simprocAttr]
 refine⟨.inr trivial,_,rfl,?_⟩
 exact Rn.agg (RnL.cons (Rn.fz0 (g:=1) rfl (by simp[ints]) (RnL.same (Qaa _))) (RnL.same rfl))
theorem QhD {a:Aut} {f:List Nat} {i s k ev:Nat} (h:a.al[k]?=some ev):(a.al.take (k+1)).filterMap (fun ev=>(stepA a.es s ev).map fun to=>(i,ev,idx f to))=(a.al.take k).filterMap (fun ev=>(stepA a.es s ev).map fun to=>(i,ev,idx f to))++match stepA a.es s ev with|some to=>[(i,ev,idx f to)]|none=>[]:=by
 rw[List.take_add_one,h,Option.toList,List.filterMap_append]
 congr 1
 cases e:stepA a.es s ev with
 |none=>simp[e]
 |some to=>simp[e]
def cPre (a:Aut) (f:List Nat) (i:Nat):List Ed:=(List.range i).flatMap fun i=>cRow a f i (f.getD i 0)
def cPart (a:Aut) (f:List Nat) (i s k:Nat):List Ed:=cPre a f i++(a.al.take k).filterMap (fun ev=>(stepA a.es s ev).map fun to=>(i,ev,idx f to))
theorem Qmb {a:Aut} {f:List Nat} {i s:Nat} (h:f[i]?=some s):cPre a f (i+1)=cPre a f i++cRow a f i s:=by
 unfold cPre
 rw[List.range_succ,List.flatMap_append]
 have:f.getD i 0=s:=by rw[List.getD_eq_getElem?_getD,h];rfl
 rw[List.flatMap_cons,List.flatMap_nil,List.append_nil,this]
theorem Qm3 (a:Aut) (f:List Nat) (i s:Nat):(cRow a f i s).length<=a.al.length:=by unfold cRow;exact List.length_filterMap_le _ _
theorem QfU (a:Aut) (f:List Nat):∀i,(cPre a f i).length<=i*a.al.length
 |0=>by simp[cPre]
 |i+1=>by
  have h1:=QfU a f i
  have h2:=Qm3 a f i (f.getD i 0)
  unfold cPre at h1⊢
  rw[List.range_succ,List.flatMap_append,List.length_append,Nat.succ_mul]
  simp only[List.flatMap_cons,List.flatMap_nil,List.append_nil]
  omega
theorem canon46 (a : Aut) (h : Raw a) : PSpec Tryz.prog 225 [aV a] (aV (canon a)) := by
  have hn5:=h.n5
  have hal:=h.al
  have hml:=h.ml
  obtain⟨f1,_,f3⟩:=Qd5 h.esn
  have hfl:=f1.len
  refine PSpec.of_rn 64 ok225 rfl (by(try simp only[noRefs,Qam,Qap,Qaa,Qaf,Qad,Qag,Qas,Qae,noRef,Bool.and_self,Bool.and_true])<;>rfl) (Qcy _) ?_
  have hF:=found59 a h
  have hcan:canon a=⟨a.al,(found a).length,mks a (found a).length (found a),cPre a (found a) (found a).length⟩:=rfl
  rw[hcan]
  generalize found a=f at*
  simp(disch:=first|omega|(simp only[lenW]<;>omega)) only[s225,wW,wV,simprocAttr]
  refine cp hF ?_
  simp(disch:=first|omega|(simp only[lenW]<;>omega)) only[wW,wV,simprocAttr]
  refine cp (empty45 a.al (by omega)) ?_
  simp(disch:=first|omega|(simp only[lenW]<;>omega)) only[wW,wV,simprocAttr]
  refine Qax 100 (fun i:Nat=>[(1,.ptr 50 0 0),(2,.ptr 51 0 0),(3,sliN f),(4,.ptr 52 0 0),(5,.int .i64 i)])
    (fun i=>[(50,.cells 0 [sliN a.al,.int .i64 (a.n:Int),sliN a.ms,egsN a.es]),(51,.cells 0 [.nilsl,.int .i64 0,.nilsl,.nilsl]),(52,.cells 0 [sliN a.al,.int .i64 f.length,.sl 77 0 0 (mks a i f).length 1,.sl 76 0 0 (cPre a f i).length 3]),(76,.cells 0 ((cPre a f i).flatMap edC)),(77,.cells 0 (ints (nz (mks a i f))))])
    (fun i=>i<=f.length) (fun i=>f.length-i) 0 0 160
    (fun _:Unit=>[(2,.ptr 51 0 0),(4,.ptr 52 0 0)])
    (fun _=>[(51,.cells 0 [.nilsl,.int .i64 0,.nilsl,.nilsl]),(52,.cells 0 [sliN a.al,.int .i64 f.length,.sl 77 0 0 (mks a f.length f).length 1,.sl 76 0 0 (cPre a f f.length).length 3]),(76,.cells 0 ((cPre a f f.length).flatMap edC)),(77,.cells 0 (ints (nz (mks a f.length f))))]) (fun _=>True) ?_ (Nat.zero_le _) ?_ ?_
  · exact⟨[(50,.blk 64 0),(51,.blk 65 0),(52,.blk 72 0),(76,.nil),(77,.nil)],rfl,au0,au7,au8⟩
  · rintro i hi
    by_cases hlt:i<f.length
    · obtain ⟨s, hs⟩ := Qak hlt
      have hsf:=List.mem_of_getElem? hs
      have hmn:=Qi2 (a:=a) hs
      have hmsl:=@Qkr a i f
      have hcl:=QfU a f i
      have hcl2:(cPre a f i).length<=1000:=Nat.le_trans hcl (Nat.le_trans (Nat.mul_le_mul (show i<=5 by omega) hal) (by decide))
      have hcs:=Qmb (a:=a) hs
      have hed0:=QbN (cPre a f i)
      have hh:=has36 (nz a.ms) s (by simp;omega)
      rw[QiW,QbU]at hh
      have hpart0:cPart a f i s 0=cPre a f i:=by simp[cPart]
      have hpartn:cPart a f i s a.al.length=cPre a f (i+1):=by rw[hcs];unfold cPart cRow;rw[List.take_length]
      generalize hM1:mks a (i+1) f=M1 at*
      generalize hM:mks a i f=M at*
      by_cases hmv:a.ms.contains s=true
      · rw [if_pos hmv] at hmn
        rw[hmv]at hh
        simp(disch:=first|omega|(simp only[lenW]<;>omega)) only[hlt,QaL hs,wW,wV,simprocAttr]
        refine ch (HSpec.lend (FrzL.same _) hh rfl) ?_
        simp(disch:=first|omega|(simp only[lenW]<;>omega)) only[wW,wV,simprocAttr]
        refine Qax 300 (fun k:Nat=>[(1,.ptr 50 0 0),(2,.ptr 51 0 0),(3,sliN f),(4,.ptr 52 0 0),(5,.int .i64 i),(6,.int .i64 k)])
          (fun k=>[(50,.cells 0 [sliN a.al,.int .i64 (a.n:Int),sliN a.ms,egsN a.es]),(51,.cells 0 [.nilsl,.int .i64 0,.nilsl,.nilsl]),(52,.cells 0 [sliN a.al,.int .i64 f.length,.sl 77 0 0 M1.length 1,.sl 76 0 0 (cPart a f i s k).length 3]),(76,.cells 0 ((cPart a f i s k).flatMap edC)),(77,.cells 0 (ints (nz M1)))])
          (fun k=>k<=a.al.length) (fun k=>a.al.length-k) 0 2 400
          (fun _:Unit=>[(1,.ptr 50 0 0),(2,.ptr 51 0 0),(3,sliN f),(4,.ptr 52 0 0),(5,.int .i64 i)])
          (fun _=>[(50,.cells 0 [sliN a.al,.int .i64 (a.n:Int),sliN a.ms,egsN a.es]),(51,.cells 0 [.nilsl,.int .i64 0,.nilsl,.nilsl]),(52,.cells 0 [sliN a.al,.int .i64 f.length,.sl 77 0 0 M1.length 1,.sl 76 0 0 (cPre a f (i+1)).length 3]),(76,.cells 0 ((cPre a f (i+1)).flatMap edC)),(77,.cells 0 (ints (nz M1)))]) (fun _=>True) ?_ (Nat.zero_le _) ?_ ?_
        · rw [hpart0, hmn, List.length_append, QaH, QaD]
          exact⟨[(50,.blk 50 0),(51,.blk 51 0),(52,.blk 52 0),(76,.blk 76 0),(77,.blk 77 1)],rfl,au0,au7,au8⟩
        · rintro k hk
          by_cases hkl:k<a.al.length
          · obtain ⟨ev, hev⟩ := Qak hkl
            have hevm:=List.mem_of_getElem? hev
            have hst:=QhD (a:=a) (f:=f) (i:=i) (s:=s) hev
            have hpl:(cPart a f i s k).length<=2000:=by
              unfold cPart
              rw[List.length_append]
              have h1:=List.length_filterMap_le (fun ev=>(stepA a.es s ev).map fun to=>(i,ev,idx f to)) (a.al.take k)
              rw[List.length_take]at h1
              omega
            have hpe:=QbN (cPart a f i s k)
            have hps:cPart a f i s (k+1)=cPart a f i s k++match stepA a.es s ev with|some to=>[(i,ev,idx f to)]|none=>[]:=by
              unfold cPart;rw[hst,List.append_assoc]
            generalize cPart a f i s k=R at*
            simp(disch:=first|omega|(simp only[lenW]<;>omega)) only[hkl,hlt,QaL hs,QaL hev,wW,wV,simprocAttr]
            refine cp (step60 a s ev h.el) ?_
            cases hsa:stepA a.es s ev with
            | none =>
              have h1:stepI a.es s ev= -1:=by unfold stepI;rw[hsa]
              rw[hsa,List.append_nil]at hps
              rw[h1]
              simp(disch:=first|omega|(simp only[lenW]<;>omega)) only[wW,wV,simprocAttr]
              refine⟨k+1,by omega,by omega,?_⟩
              rw[hps]
              exact⟨[(50,.blk 50 0),(51,.blk 51 0),(52,.blk 52 0),(76,.blk 76 0),(77,.blk 77 0)],rfl,au0,au7,au8⟩
            | some to =>
              have h1:stepI a.es s ev=to:=by unfold stepI;rw[hsa]
              rw[hsa]at hps
              have hidx:=index61 (nz f) to (by simp;omega)
              rw[QbU,Qi3 (f3 s hsf ev hevm to hsa)]at hidx
              rw[h1]
              simp(disch:=first|omega|(simp only[lenW]<;>omega)) only[hkl,QaL hev,wW,wV,simprocAttr]
              refine cp hidx ?_
              simp(disch:=first|omega|(simp only[lenW]<;>omega)) only[hpe,wW,wV,simprocAttr]
              refine⟨k+1,by omega,by omega,?_⟩
              rw[hps,List.flatMap_append,List.length_append]
              exact⟨[(50,.blk 50 0),(51,.blk 51 0),(52,.blk 52 0),(76,.blk 76 1),(77,.blk 77 0)],rfl,au0,au7,au8⟩
          · have e : k = a.al.length := by omega
            subst e
            simp(disch:=first|omega|(simp only[lenW]<;>omega)) only[hkl,wW,wV,simprocAttr]
            refine⟨(),?_⟩
            rw[hpartn]
            exact⟨[(50,.blk 50 0),(51,.blk 51 0),(52,.blk 52 0),(76,.blk 76 0),(77,.blk 77 0)],rfl,au0,au7,au8⟩
        rintro _ _
        simp(disch:=first|omega|(simp only[lenW]<;>omega)) only[wW,wV,simprocAttr]
        refine⟨i+1,by omega,by omega,?_⟩
        rw[hM1]
        exact⟨[(50,.blk 50 0),(51,.blk 51 0),(52,.blk 52 0),(76,.blk 76 0),(77,.blk 77 0)],rfl,au0,au7,au8⟩
      · rw [if_neg hmv, List.append_nil] at hmn
        rw[Bool.not_eq_true]at hmv
        rw[hmv]at hh
        simp(disch:=first|omega|(simp only[lenW]<;>omega)) only[hlt,QaL hs,wW,wV,simprocAttr]
        refine ch (HSpec.lend (FrzL.same _) hh rfl) ?_
        simp(disch:=first|omega|(simp only[lenW]<;>omega)) only[wW,wV,simprocAttr]
        refine Qax 300 (fun k:Nat=>[(1,.ptr 50 0 0),(2,.ptr 51 0 0),(3,sliN f),(4,.ptr 52 0 0),(5,.int .i64 i),(6,.int .i64 k)])
          (fun k=>[(50,.cells 0 [sliN a.al,.int .i64 (a.n:Int),sliN a.ms,egsN a.es]),(51,.cells 0 [.nilsl,.int .i64 0,.nilsl,.nilsl]),(52,.cells 0 [sliN a.al,.int .i64 f.length,.sl 77 0 0 M1.length 1,.sl 76 0 0 (cPart a f i s k).length 3]),(76,.cells 0 ((cPart a f i s k).flatMap edC)),(77,.cells 0 (ints (nz M1)))])
          (fun k=>k<=a.al.length) (fun k=>a.al.length-k) 0 2 400
          (fun _:Unit=>[(1,.ptr 50 0 0),(2,.ptr 51 0 0),(3,sliN f),(4,.ptr 52 0 0),(5,.int .i64 i)])
          (fun _=>[(50,.cells 0 [sliN a.al,.int .i64 (a.n:Int),sliN a.ms,egsN a.es]),(51,.cells 0 [.nilsl,.int .i64 0,.nilsl,.nilsl]),(52,.cells 0 [sliN a.al,.int .i64 f.length,.sl 77 0 0 M1.length 1,.sl 76 0 0 (cPre a f (i+1)).length 3]),(76,.cells 0 ((cPre a f (i+1)).flatMap edC)),(77,.cells 0 (ints (nz M1)))]) (fun _=>True) ?_ (Nat.zero_le _) ?_ ?_
        · rw [hpart0, hmn]
          exact⟨[(50,.blk 50 0),(51,.blk 51 0),(52,.blk 52 0),(76,.blk 76 0),(77,.blk 77 0)],rfl,au0,au7,au8⟩
        · rintro k hk
          by_cases hkl:k<a.al.length
          · obtain ⟨ev, hev⟩ := Qak hkl
            have hevm:=List.mem_of_getElem? hev
            have hst:=QhD (a:=a) (f:=f) (i:=i) (s:=s) hev
            have hpl:(cPart a f i s k).length<=2000:=by
              unfold cPart
              rw[List.length_append]
              have h1:=List.length_filterMap_le (fun ev=>(stepA a.es s ev).map fun to=>(i,ev,idx f to)) (a.al.take k)
              rw[List.length_take]at h1
              omega
            have hpe:=QbN (cPart a f i s k)
            have hps:cPart a f i s (k+1)=cPart a f i s k++match stepA a.es s ev with|some to=>[(i,ev,idx f to)]|none=>[]:=by
              unfold cPart;rw[hst,List.append_assoc]
            generalize cPart a f i s k=R at*
            simp(disch:=first|omega|(simp only[lenW]<;>omega)) only[hkl,hlt,QaL hs,QaL hev,wW,wV,simprocAttr]
            refine cp (step60 a s ev h.el) ?_
            cases hsa:stepA a.es s ev with
            | none =>
              have h1:stepI a.es s ev= -1:=by unfold stepI;rw[hsa]
              rw[hsa,List.append_nil]at hps
              rw[h1]
              simp(disch:=first|omega|(simp only[lenW]<;>omega)) only[wW,wV,simprocAttr]
              refine⟨k+1,by omega,by omega,?_⟩
              rw[hps]
              exact⟨[(50,.blk 50 0),(51,.blk 51 0),(52,.blk 52 0),(76,.blk 76 0),(77,.blk 77 0)],rfl,au0,au7,au8⟩
            | some to =>
              have h1:stepI a.es s ev=to:=by unfold stepI;rw[hsa]
              rw[hsa]at hps
              have hidx:=index61 (nz f) to (by simp;omega)
              rw[QbU,Qi3 (f3 s hsf ev hevm to hsa)]at hidx
              rw[h1]
              simp(disch:=first|omega|(simp only[lenW]<;>omega)) only[hkl,QaL hev,wW,wV,simprocAttr]
              refine cp hidx ?_
              simp(disch:=first|omega|(simp only[lenW]<;>omega)) only[hpe,wW,wV,simprocAttr]
              refine⟨k+1,by omega,by omega,?_⟩
              rw[hps,List.flatMap_append,List.length_append]
              exact⟨[(50,.blk 50 0),(51,.blk 51 0),(52,.blk 52 0),(76,.blk 76 1),(77,.blk 77 0)],rfl,au0,au7,au8⟩
          · have e : k = a.al.length := by omega
            subst e
            simp(disch:=first|omega|(simp only[lenW]<;>omega)) only[hkl,wW,wV,simprocAttr]
            refine⟨(),?_⟩
            rw[hpartn]
            exact⟨[(50,.blk 50 0),(51,.blk 51 0),(52,.blk 52 0),(76,.blk 76 0),(77,.blk 77 0)],rfl,au0,au7,au8⟩
        rintro _ _
        simp(disch:=first|omega|(simp only[lenW]<;>omega)) only[wW,wV,simprocAttr]
        refine⟨i+1,by omega,by omega,?_⟩
        rw[hM1]
        exact⟨[(50,.blk 50 0),(51,.blk 51 0),(52,.blk 52 0),(76,.blk 76 0),(77,.blk 77 0)],rfl,au0,au7,au8⟩
    · have e : i = f.length := by omega
      subst e
      simp(disch:=first|omega|(simp only[lenW]<;>omega)) only[hlt,wW,wV,simprocAttr]
      refine⟨(),?_⟩
      exact⟨[(51,.blk 51 0),(52,.blk 52 0),(76,.blk 76 0),(77,.blk 77 0)],rfl,au0,au7,au8⟩
  rintro _ _
  simp(disch:=first|omega|(simp only[lenW]<;>omega)) only[wW,wV,simprocAttr]
  refine⟨.inr trivial,_,rfl,?_⟩
  exact Rn.agg (RnL.cons (Rn.same (Qac _)) (RnL.cons (Rn.same rfl) (RnL.cons (Rn.fz0 (g:=0) rfl (by simp[ints]) (RnL.same (Qaa _))) (RnL.cons (Rn.fz0 (g:=0) rfl (QbN _) (RnL.same (Qad _))) RnL.nil))))
end Go.AM.SE
