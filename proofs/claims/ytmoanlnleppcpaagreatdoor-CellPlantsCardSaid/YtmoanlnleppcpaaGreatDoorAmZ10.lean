/- A part of the proof of CellPlantsCardSaid: lemmas on the way (AmU, AmUa, AmDj, AmBx, AmBa, AmBb, AmBc, AmBd, AmBe, AmBf, AmBg, AmDk, AmBh, AmBi, AmBj, AmBk, AmBl, AmBm, AmBn, AmBo, AmCa, AmCb, AmFa, AmBFb, AmBw, AmBFd, AmBy, AmBFe, AmCc, AmR, AmLr). Conditions: none of ours. -/
import Derived.OpenShut
import Derived.Test.YtmoanlnleppcpaaGreatDoorProg
import Derived.KernelRfl
import Derived.Test.YtmoanlnleppcpaaGreatDoorAmZ9
set_option linter.unusedSectionVars false
set_option maxHeartbeats 32000000
set_option maxRecDepth 100000
set_option linter.unusedVariables false
set_option linter.unusedSimpArgs false
namespace Go.AM
variable {ok:Okc}
open Go.ChangeShapes Go.WideShapes
def inF (w:World) (k:Nat):Prop:=k<w.heap.size
end Go.AM
namespace Go.AM
open Go.ChangeShapes Go.WideShapes
inductive Ty where
 |int (k:IntKind)
 |bool
 |str
 |arr (n:Nat) (t:Ty)
 |sl (t:Ty)
 |st (fs:Ty)
 |unit
 |pair (a b:Ty)
def Ty.sz:Ty->Nat
 | .int _| .bool| .str| .sl _=>1
 | .arr n t=>n*t.sz
 | .st fs=>fs.sz
 | .unit=>0
 | .pair a b=>a.sz+b.sz
abbrev Ty.D:Ty->Type
 | .int _=>Int
 | .bool=>Bool
 | .str=>List UInt8
 | .arr _ t| .sl t=>List t.D
 | .st fs=>fs.D
 | .unit=>Unit
 | .pair a b=>a.D×b.D
def Ty.cells:(t:Ty)->t.D->List AV
 | .int k,n=>[.int k n]
 | .bool,b=>[.bool b]
 | .str,s=>[.str s]
 | .arr _ t,l=>List.flatMap (Ty.cells t) l
 | .sl t,l=>[.fsl (List.flatMap (Ty.cells t) l) (List.length l) t.sz]
 | .st fs,d=>Ty.cells fs d
 | .unit,_=>[]
 | .pair a b,d=>Ty.cells a d.1++Ty.cells b d.2
def Ty.wf:(t:Ty)->t.D->Prop
 | .int k,n=>(Lit.int k n).wf=true
 | .bool,_=>True
 | .str,s=>List.length s<=9223372036854775807
 | .arr n t,l=>List.length l=n/\∀x∈(show List t.D from l),Ty.wf t x
 | .sl t,l=>List.length l<=9223372036854775807/\∀x∈(show List t.D from l),Ty.wf t x
 | .st fs,d=>Ty.wf fs d
 | .unit,_=>True
 | .pair a b,d=>Ty.wf a d.1/\Ty.wf b d.2
mutual
def okTy (P:Program):Ty->TypeId->Bool
 | .int k,t=>match P.underlying t with|some (.int k')=>k'==k|_=>false
 | .bool,t=>match P.underlying t with|some .bool=>true|_=>false
 | .str,t=>match P.underlying t with|some .string=>true|_=>false
 | .arr n e,t=>match P.underlying t with|some (.array m u)=>n==m&&okTy P e u&&P.cellsOf u==e.sz&&P.cellsOf t==n*e.sz|_=>false
 | .sl e,t=>match P.underlying t with|some (.slice u)=>okTy P e u&&P.cellsOf u==e.sz&&Nat.blt 0 e.sz|_=>false
 | .st fs,t=>match P.underlying t with|some (.struct l)=>okFs P fs l.toList 0&&P.cellsOf t==fs.sz|_=>false
 |_,_=>false
termination_by structural ty=>ty
def okFs (P:Program):Ty->List Field->Nat->Bool
 | .unit,l,_=>match l with|[]=>true|_=>false
 | .pair a b,l,off=>match l with|f::l=>f.offset==off&&okTy P a f.type&&P.cellsOf f.type==a.sz&&okFs P b l (off+a.sz)|_=>false
 |_,_,_=>false
termination_by structural ty=>ty
end
section
variable {ok:Okc} {H:Type} {enc:TypeId×Value->H} {P:Program} {W:World} {spare:Nat->Bool}
theorem QcP:∀(t:Ty) (d:t.D),t.wf d->(t.cells d).length=t.sz
 | .int _,_,_=>rfl
 | .bool,_,_=>rfl
 | .str,_,_=>rfl
 | .sl _,_,_=>rfl
 | .unit,_,_=>rfl
 | .st fs,d,h=>QcP fs d h
 | .pair a b,d,h=>by
  simp only[Ty.cells,Ty.sz,List.length_append,QcP a d.1 h.1,QcP b d.2 h.2]
 | .arr n t, l, h => by
  obtain⟨h1,h2⟩:=h
  simp only[Ty.cells,Ty.sz,<-h1]
  have:∀(l:List t.D),(∀x∈l,t.wf x)->(l.flatMap t.cells).length=l.length*t.sz:=by
   intro l
   induction l with
   |nil=>intro _;simp
   |cons x l ih=>intro hl;simp[List.flatMap_cons,QcP t x (hl x (by simp)),ih fun y hy=>hl y (by simp[hy]),Nat.succ_mul];omega
  exact this l h2
theorem QfM {α β:Type} {f:α->Option β}:∀{l:List α} {r:List β},l.mapM f=some r->r.length=l.length/\∀(i:Nat) (x:α),l[i]?=some x->∃y,f x=some y/\r[i]?=some y
 |[],r,h=>by simp at h;subst h;simp
 |a::l,r,h=>by
  simp only[List.mapM_cons,Option.bind_eq_bind,Option.bind_eq_some_iff]at h
  obtain⟨y,hy,ys,hys,e⟩:=h
  simp at e;subst e
  obtain⟨h1,h2⟩:=QfM hys
  refine⟨by simp[h1],fun i x hx=>?_⟩
  cases i with
  |zero=>simp at hx;subst hx;exact⟨y,hy,rfl⟩
  |succ i=>simpa using h2 i x (by simpa using hx)
theorem many {ok:Okc} {t:Ty} {c:Ctx ok} {n:Nat}:∀{cs:List Value},(∀i,i<n->∃x:t.D,t.wf x/\VRels c W (t.cells x) ((cs.drop (i*t.sz)).take t.sz))->n*t.sz<=cs.length->
  ∃l:List t.D,l.length=n/\(∀x∈l,t.wf x)/\VRels c W (l.flatMap t.cells) (cs.take (n*t.sz)):=by
 induction n with
 |zero=>intro cs _ _;exact⟨[],rfl,by simp,by simp[VRels]⟩
 | succ n ih =>
  intro cs hx hl
  obtain⟨x,h1,h2⟩:=hx 0 (by omega)
  rw[Nat.succ_mul]at hl
  obtain⟨l,h3,h4,h5⟩:=ih (cs:=cs.drop t.sz) (fun i hi=>by
   obtain⟨y,g1,g2⟩:=hx (i+1) (by omega)
   refine⟨y,g1,?_⟩
   rw[List.drop_drop,show t.sz+i*t.sz=(i+1)*t.sz by rw[Nat.succ_mul];omega]
   exact g2) (by simp;omega)
  refine⟨x::l,by simp[h3],by simpa using⟨h1,h4⟩,?_⟩
  rw[List.flatMap_cons,Nat.succ_mul,Nat.add_comm,List.take_add]
  refine QaS ?_ h5
  simpa using h2
mutual
theorem QeZ : ∀ (ty : Ty) (t : TypeId) (fuel : Nat) (cs : List Value) (x : DataW H × List MemPlace), (∀ b, spare b = true) -> okTy P ty t = true -> DataW.trod enc P W 0 spare true fuel t cs = some x ->
    ∃d:ty.D,ty.wf d/\VRels (only (ok:=ok) (inF W)) W (ty.cells d) cs:=by
  intro ty t fuel cs x hs ho h
  match ty with
  | .int k =>
    simp only[okTy]at ho
    split at ho<;>try (cases ho;done)
    rename_i k' hu
    simp only[beq_iff_eq]at ho
    subst ho
    obtain⟨n,rfl,_,hw⟩:=DataW.trod_int hu h
    exact⟨n,hw,by simp[Ty.cells,VRels,VRel]⟩
  | .bool =>
    simp only[okTy]at ho
    split at ho<;>try (cases ho;done)
    rename_i hu
    obtain⟨b,rfl,_⟩:=DataW.trod_bool hu h
    exact⟨b,trivial,by simp[Ty.cells,VRels,VRel]⟩
  | .str =>
    simp only[okTy]at ho
    split at ho<;>try (cases ho;done)
    rename_i hu
    obtain⟨s,rfl,_,hl⟩:=DataW.trod_string hu h
    refine⟨s.data.toList,?_,?_⟩
    · simp only [ByteArray.size, maxLen] at hl
      simp only[Ty.wf,Array.length_toList]
      omega
    · simp[Ty.cells,VRels,VRel]
  | .unit=>simp[okTy]at ho
  | .pair a b=>simp[okTy]at ho
  | .st fs =>
    simp only[okTy]at ho
    split at ho<;>try (cases ho;done)
    rename_i l hu
    simp only[Bool.and_eq_true,beq_iff_eq]at ho
    obtain⟨ho,hsz⟩:=ho
    cases fuel with
    |zero=>simp[DataW.trod]at h
    | succ n =>
      unfold DataW.trod at h
      rw[hu]at h
      split at h<;>first|(simp_all;done)|skip
      rename_i fs' he
      injection he with he;injection he with he;subst he
      split at h
      · rename_i hl
        simp only[Option.map_eq_some_iff]at h
        obtain⟨xs,hm,_⟩:=h
        obtain⟨d,h1,h2⟩:=QkC fs l.toList 0 n _ xs hs ho hm (by omega)
        refine⟨d,h1,?_⟩
        simpa[Ty.cells,<-hsz,<-hl]using h2
      · cases h
  | .arr m e =>
    simp only[okTy]at ho
    split at ho<;>try (cases ho;done)
    rename_i m' u hu
    simp only[Bool.and_eq_true,beq_iff_eq]at ho
    obtain⟨⟨⟨rfl,ho⟩,hsz⟩,hst⟩:=ho
    cases fuel with
    |zero=>simp[DataW.trod]at h
    | succ n =>
      unfold DataW.trod at h
      rw[hu]at h
      split at h<;>first|(simp_all;done)|skip
      rename_i m' u' he
      injection he with he;injection he with he1 he2;subst he1;subst he2
      split at h
      · rename_i hl
        simp only[Option.map_eq_some_iff]at h
        obtain⟨xs,hm,_⟩:=h
        obtain⟨g1,g2⟩:=QfM hm
        rw[hst]at hl
        obtain⟨l,k1,k2,k3⟩:=many (t:=e) (c:=only (inF W)) (n:=m) (fun i hi=>by
          obtain⟨y,hy,_⟩:=g2 i i (by simp[hi])
          rw[hsz]at hy
          exact QeZ e u n _ y hs ho hy) (by omega)
        refine⟨l,⟨k1,k2⟩,?_⟩
        rw[<-hl,List.take_length]at k3
        exact k3
      · cases h
  | .sl e =>
    simp only[okTy]at ho
    split at ho<;>try (cases ho;done)
    rename_i u hu
    simp only[Bool.and_eq_true,beq_iff_eq,Nat.blt_eq]at ho
    obtain⟨⟨ho,hsz⟩,hpos⟩:=ho
    rcases DataW.trod_slice hu h with⟨rfl,_⟩|⟨a,len,cap,elems,rest,n,_,rfl,_,_,hl,hm,hlen,hel,hsp,hns⟩
    · exact⟨[],⟨by simp,by simp⟩,by simp[Ty.cells,VRels,VRel]⟩
    obtain⟨hrl,hr⟩:=hsp (hs _)
    have each:∀i,i<cap->∃cs,(w':W.cells? 0 (a.add (i*e.sz)) e.sz=some cs)->True:=fun _ _=>⟨[],fun _=>trivial⟩
    have each:∀i,i<cap->∃cs y,W.cells? 0 (a.add (i*e.sz)) e.sz=some cs/\DataW.trod enc P W 0 spare true n u cs=some y:=by
      intro i hi
      by_cases hil:i<len
      · have h1 := hel i hil
        rw[List.getElem?_eq_getElem (by omega),hsz,Option.bind_eq_some_iff]at h1
        obtain⟨cs,hcs,hy⟩:=h1
        exact⟨cs,_,hcs,hy⟩
      · have h1 := hr (i - len) (by omega)
        rw[show len+(i-len)=i by omega,List.getElem?_eq_getElem (by omega),hsz,Option.bind_eq_some_iff]at h1
        obtain⟨cs,hcs,hy⟩:=h1
        exact⟨cs,_,hcs,hy⟩
    by_cases h0:cap=0
    · have : len = 0 := by omega
      subst h0;subst this
      exact⟨[],⟨by simp,by simp⟩,by simp[Ty.cells,VRels,VRel]⟩
    have cellsAt:∀i cs,W.cells? 0 (a.add (i*e.sz)) e.sz=some cs->cs.length=e.sz/\∀j,j<e.sz->W.cell? ((a.add (i*e.sz)).add j)=cs[j]?:=by
      intro i cs hcs
      unfold World.cells? at hcs
      rw[if_pos (Nat.zero_le _)]at hcs
      obtain⟨g1,g2⟩:=QfM hcs
      refine⟨by simpa using g1,fun j hj=>?_⟩
      obtain⟨y,k1,k2⟩:=g2 j j (by simp[hj])
      rw[k1,k2]
    obtain⟨cs0,y0,hc0,_⟩:=each 0 (by omega)
    obtain⟨q1,q2⟩:=cellsAt 0 cs0 hc0
    have hcell0:=q2 0 hpos
    rw[List.getElem?_eq_getElem (by omega)]at hcell0
    obtain⟨b,off,spot⟩:=a
    have hspot:spot=none:=by simpa[Addr.add]using World.cell?_spot hcell0
    subst hspot
    have hb:∃C e fr,W.heap[b]?=some (.cells C e fr):=by
      unfold World.cell? at hcell0
      split at hcell0
      · rename_i C e fr hh;exact⟨C,e,fr,by simpa[Addr.add]using hh⟩
      · cases hcell0
    obtain⟨C,et,fr,hb⟩:=hb
    have hcell:∀i cs,W.cells? 0 ((⟨b,off,none⟩:Addr).add (i*e.sz)) e.sz=some cs->i<cap->(C.toList.drop (off+i*e.sz)).take e.sz=cs:=by
      intro i cs hcs hi
      obtain⟨k1,k2⟩:=cellsAt i cs hcs
      refine List.ext_getElem? fun j=>?_
      by_cases hj:j<e.sz
      · rw [List.getElem?_take_of_lt hj, List.getElem?_drop, <- k2 j hj]
        rw[Go.WideShapes.add_plain,Go.WideShapes.add_plain]
        unfold World.cell?
        simp only[hb,Option.isSome_none,Bool.false_eq_true,if_false]
        rw[Array.getElem?_toList]
      · rw[List.getElem?_eq_none (by simp;omega),List.getElem?_eq_none (by omega)]
    have hCs:len*e.sz<=(C.toList.drop off).length:=by
      by_cases hl0:len=0
      · subst hl0;simp
      obtain⟨cs,y,hcs,_⟩:=each (len-1) (by omega)
      have h1:=hcell (len-1) cs hcs (by omega)
      obtain⟨k1,_⟩:=cellsAt (len-1) cs hcs
      have h2:=congrArg List.length h1
      rw[k1,List.length_take,List.length_drop]at h2
      rw[List.length_drop]
      have h3:len*e.sz=(len-1)*e.sz+e.sz:=by
        rw[<-Nat.succ_mul];congr 1;omega
      omega
    obtain⟨l,k1,k2,k3⟩:=many (t:=e) (c:=only (inF W)) (n:=len) (cs:=C.toList.drop off) (fun i hi=>by
      obtain⟨cs,y,hcs,hy⟩:=each i (by omega)
      rw[List.drop_drop,hcell i cs hcs (by omega)]
      exact QeZ e u n cs y hs ho hy) hCs
    refine⟨l,⟨by simp[maxLen]at hm;omega,k2⟩,?_⟩
    simp only[Ty.cells,VRels,VRel]
    have hll:(l.flatMap e.cells).length=l.length*e.sz:=QcP (.arr l.length e) l ⟨rfl,k2⟩
    refine⟨_,[],rfl,.inr ⟨b,off,cap,C,et,fr,by rw[k1],by omega,hll,QaE hb,hb,?_⟩,rfl⟩
    have:=Qfy (vs:=(C.toList.drop off).drop (len*e.sz)) k3
    rwa [List.take_append_drop]at this
termination_by structural ty=>ty
theorem QkC:∀(ty:Ty) (fs:List Field) (off fuel:Nat) (cs:List Value) (xs:List (DataW H×List MemPlace)),(∀b,spare b=true)->okFs P ty fs off=true->
    (fs.mapM fun f=>DataW.trod enc P W 0 spare true fuel f.type ((cs.drop f.offset).take (P.cellsOf f.type)))=some xs->off+ty.sz<=cs.length->
    ∃d:ty.D,ty.wf d/\VRels (only (ok:=ok) (inF W)) W (ty.cells d) ((cs.drop off).take ty.sz):=by
  intro ty fs off fuel cs xs hs ho h hl
  match ty with
  | .unit=>exact⟨(),trivial,by simp[Ty.cells,VRels,Ty.sz]⟩
  | .pair a b =>
    cases fs with
    |nil=>simp[okFs]at ho
    | cons f fs =>
      simp only[okFs,Bool.and_eq_true,beq_iff_eq]at ho
      obtain⟨⟨⟨rfl,h1⟩,h2⟩,h3⟩:=ho
      simp only[List.mapM_cons,Option.bind_eq_bind,Option.bind_eq_some_iff]at h
      obtain⟨y,hy,ys,hys,_⟩:=h
      rw[h2]at hy
      simp only[Ty.sz]at hl
      obtain⟨d1,g1,g2⟩:=QeZ a f.type fuel _ y hs h1 hy
      obtain⟨d2,g3,g4⟩:=QkC b fs (f.offset+a.sz) fuel cs ys hs h3 hys (by omega)
      refine⟨(d1,d2),⟨g1,g3⟩,?_⟩
      simp only[Ty.cells,Ty.sz]
      rw[List.take_add]
      refine QaS g2 ?_
      rw[List.drop_drop]
      exact g4
  | .int _=>simp[okFs]at ho
  | .bool=>simp[okFs]at ho
  | .str=>simp[okFs]at ho
  | .arr _ _=>simp[okFs]at ho
  | .sl _=>simp[okFs]at ho
  | .st _=>simp[okFs]at ho
termination_by structural ty=>ty
end
def Ty.val:(t:Ty)->t.D->AV
 | .arr n t,d=> .agg (Ty.cells (.arr n t) d)
 | .st fs,d=> .agg (Ty.cells (.st fs) d)
 | .int k,n=> .int k n
 | .bool,b=> .bool b
 | .str,s=> .str s
 | .sl t,l=> .fsl (List.flatMap (Ty.cells t) l) (List.length l) t.sz
 | .unit,_=> .any
 | .pair _ _,_=> .any
theorem arg_in (ty:Ty) {t:TypeId} {base:Nat} {v:Value} {d:DataW H} {ps:List MemPlace} (ho:okTy P ty t=true) (hv:Value.okWide P W .any base t v) (h:DataW.Trod enc P W 0 (fun _=>true) true t v d ps):
  ∃d:ty.D,ty.wf d/\VRel (only (ok:=ok) (inF W)) W (ty.val d) v:=by
 obtain⟨fuel,h⟩:=h
 obtain⟨d,h1,h2⟩:=QeZ (spare:=fun _=>true) ty t fuel _ _ (fun _=>rfl) ho h
 refine⟨d,h1,?_⟩
 have one:∀(u:AV),VRels (only (ok:=ok) (inF W)) W [u] v.cells.toList->(∀cs,v≠ .agg cs)->VRel (only (ok:=ok) (inF W)) W u v:=by
  intro u hu hn
  have:v.cells= #[v]:=by cases v<;>first|rfl|exact absurd rfl (hn _)
  rw[this]at hu
  simp only[VRels]at hu
  obtain⟨v',vs',e,h3,_⟩:=hu
  cases e;exact h3
 cases ty with
 |unit=>simp[okTy]at ho
 |pair a b=>simp[okTy]at ho
 |arr n e=>
  simp only[okTy]at ho
  split at ho<;>try (cases ho;done)
  rename_i hu
  simp only[Value.okWide,hu]at hv
  obtain⟨cs,rfl,_⟩:=hv
  simp only[Ty.val,VRel]
  exact⟨_,rfl,h2⟩
 |st fs=>
  simp only[okTy]at ho
  split at ho<;>try (cases ho;done)
  rename_i hu
  simp only[Value.okWide,hu]at hv
  obtain⟨cs,rfl,_⟩:=hv
  simp only[Ty.val,VRel]
  exact⟨_,rfl,h2⟩
 |int k=>
  refine one _ h2 ?_
  rintro cs rfl
  simp only[okTy]at ho
  split at ho<;>try (cases ho;done)
  rename_i hu
  simp[Value.okWide,hu,Cell.okWide,Cell.ok]at hv
 |bool=>
  refine one _ h2 ?_
  rintro cs rfl
  simp only[okTy]at ho
  split at ho<;>try (cases ho;done)
  rename_i hu
  simp[Value.okWide,hu,Cell.okWide,Cell.ok]at hv
 |str=>
  refine one _ h2 ?_
  rintro cs rfl
  simp only[okTy]at ho
  split at ho<;>try (cases ho;done)
  rename_i hu
  simp[Value.okWide,hu,Cell.okWide,Cell.ok]at hv
 |sl e=>
  refine one _ h2 ?_
  rintro cs rfl
  simp only[okTy]at ho
  split at ho<;>try (cases ho;done)
  rename_i hu
  simp[Value.okWide,hu,Cell.okWide,Cell.ok]at hv
end
end Go.AM
namespace Go.AM
theorem Qi8 {b:Bool}:(AV.bool b).cells=[.bool b]:=rfl
theorem Qmj {b:Bool}:(AV.bool b).one=true:=rfl
theorem Qmk {b:Bool}:(AV.bool b).boxable=true:=rfl
theorem Qi9 {b g o:Nat}:aNil (.ptr b g o)=some (.ptr b g o):=rfl
theorem QhO {cs:List AV}:aNil (.fptr cs)=some (.fptr cs):=rfl
end Go.AM
namespace Go.AM.SD
open Go.AM
def ints (l:List Int):List AV:=l.map (.int .i64)
abbrev sli (l:List Int):AV:= .fsl (ints l) l.length 1
theorem Qaa (l:List Int):noRefs (ints l)=true:=by
 induction l with
 |nil=>rfl
 |cons x l ih=>simp only[ints,List.map_cons,noRefs,noRef,Bool.true_and];exact ih
theorem Qed {l:List Int}:(ints l).length=l.length:=by simp[ints]
theorem lenW:type_of% @List.length_map.{0,0}/\type_of% @List.length_append.{0}/\type_of% @List.length_cons.{0}/\type_of% @List.length_nil.{0}/\type_of% @Qed:=⟨@List.length_map.{0,0},@List.length_append.{0},@List.length_cons.{0},@List.length_nil.{0},@Qed⟩
theorem Qa0 {l:List Int} {i:Nat} {x:Int} (h:l[i]?=some x):((ints l).drop i).head?=some (.int .i64 x):=by
 rw[List.head?_drop];simp[ints,h]
abbrev nz (l:List Nat):List Int:=l.map fun x:Nat=>(x:Int)
theorem nz_at {l:List Nat} {i x:Nat} (h:l[i]?=some x):(nz l)[i]?=some (x:Int):=by simp[nz,h]
theorem Qak {α:Type} {l:List α} {i:Nat} (h:i<l.length):∃x,l[i]?=some x:=⟨l[i],List.getElem?_eq_getElem h⟩
theorem Qai {a b:List AV}:noRefs (a++b)=(noRefs a&&noRefs b):=by
 induction a with
 |nil=>simp[noRefs]
 |cons x a ih=>simp only[List.cons_append,noRefs,ih,Bool.and_assoc]
theorem QaW {α:Type} {f:α->List AV} (h:∀x,noRefs (f x)=true) (l:List α):noRefs (l.flatMap f)=true:=by
 induction l with
 |nil=>rfl
 |cons x l ih=>rw[List.flatMap_cons,Qai,h,ih];rfl
theorem Qbr {α:Type} {f:α->List AV} {k:Nat} (h:∀x,(f x).length=k) (l:List α):(l.flatMap f).length=l.length*k:=by
 induction l with
 |nil=>simp
 |cons x l ih=>rw[List.flatMap_cons,List.length_append,h,ih,List.length_cons,Nat.succ_mul];omega
theorem Qbm {α:Type} {f:α->List AV} {k:Nat} (h:∀x,(f x).length=k):∀{l:List α} {i:Nat} {x:α},l[i]?=some x->(l.flatMap f).drop (i*k)=f x++(l.drop (i+1)).flatMap f
 |[],_,_,hx=>by simp at hx
 |y::l,0,x,hx=>by
  simp at hx;subst hx;simp
 |y::l,i+1,x,hx=>by
  simp at hx
  rw[List.flatMap_cons,List.drop_append,h,List.drop_of_length_le (by rw[h,Nat.succ_mul];omega),List.nil_append]
  have:(i+1)*k-k=i*k:=by rw[Nat.succ_mul];omega
  rw[this,Qbm h hx,List.drop_succ_cons]
structure Eg where
 fr:Int
 ev:Int
 to:Int
deriving DecidableEq
def egC (e:Eg):List AV:=[.int .i64 e.fr,.int .i64 e.ev,.int .i64 e.to]
abbrev egs (l:List Eg):AV:= .fsl (l.flatMap egC) l.length 3
theorem Qaj (l:List Eg):noRefs (l.flatMap egC)=true:=QaW (fun x=>rfl) l
theorem Qa7 (l:List Eg):noRef (egs l)=true:=by simp only[noRef];exact Qaj l
theorem QcA {l:List Eg} {i:Nat} {e:Eg} (h:l[i]?=some e):(l.flatMap egC).drop (i*3)= .int .i64 e.fr:: .int .i64 e.ev:: .int .i64 e.to::(l.drop (i+1)).flatMap egC:=Qbm (f:=egC) (k:=3) (fun _=>rfl) h
theorem Qay (l:List Int):noRef (sli l)=true:=by simp only[noRef];exact Qaa l
structure Au where
 al:List Int
 n:Int
 ms:List Int
 es:List Eg
abbrev auV (a:Au):AV:= .agg [sli a.al,.int .i64 a.n,sli a.ms,egs a.es]
def eg (e:Ed):Eg:=⟨e.1,e.2.1,e.2.2⟩
def au (a:Aut):Au:=⟨nz a.al,a.n,nz a.ms,a.es.map eg⟩
def rmC (r:Rm):List AV:=[.int .i64 r.st,.int .i64 r.rank,.int .i64 r.reason,.int .i64 r.ev]
theorem Qal (l:List Rm):noRefs (l.flatMap rmC)=true:=QaW (fun x=>rfl) l
end Go.AM.SD
namespace Go.AM.SD
def edC (e:Ed):List AV:=[.int .i64 (e.1:Int),.int .i64 (e.2.1:Int),.int .i64 (e.2.2:Int)]
abbrev egsN (l:List Ed):AV:= .fsl (l.flatMap edC) l.length 3
theorem Qag (l:List Ed):noRefs (l.flatMap edC)=true:=QaW (fun x=>rfl) l
theorem Qax (l:List Ed):noRef (egsN l)=true:=by simp only[noRef];exact Qag l
theorem QaR {l:List Ed} {i:Nat} {e:Ed} (h:l[i]?=some e):(l.flatMap edC).drop (i*3)= .int .i64 (e.1:Int):: .int .i64 (e.2.1:Int):: .int .i64 (e.2.2:Int)::(l.drop (i+1)).flatMap edC:=Qbm (f:=edC) (k:=3) (fun _=>rfl) h
theorem Qn0 (l:List Ed):egs (l.map eg)=egsN l:=by
 unfold egs egsN
 rw[List.length_map,List.flatMap_map];rfl
abbrev sliN (l:List Nat):AV:= .fsl (ints (nz l)) l.length 1
theorem QbY (l:List Nat):sli (nz l)=sliN l:=by unfold sli sliN;rw[List.length_map]
theorem Qab (l:List Nat):noRef (sliN l)=true:=by simp only[noRef];exact Qaa _
theorem QaI {l:List Nat} {i x:Nat} (h:l[i]?=some x):((ints (nz l)).drop i).head?=some (.int .i64 (x:Int)):=Qa0 (nz_at h)
abbrev aV (a:Aut):AV:= .agg [sliN a.al,.int .i64 (a.n:Int),sliN a.ms,egsN a.es]
theorem QoO (a:Aut):auV (au a)=aV a:=by
 show AV.agg [sli (nz a.al),.int .i64 (a.n:Int),sli (nz a.ms),egs (a.es.map eg)]=_
 rw[QbY,QbY,Qn0]
theorem QcB (a:Aut):noRef (aV a)=true:=by rw[aV,noRef,noRefs,noRefs,noRefs,noRefs,Qab,Qab,Qax];rfl
def bls (l:List Bool):List AV:=l.map .bool
theorem Qah (l:List Bool):noRefs (bls l)=true:=by
 induction l with
 |nil=>rfl
 |cons x l ih=>simp only[bls,List.map_cons,noRefs,noRef,Bool.true_and];exact ih
theorem QkD {l:List Bool}:(bls l).length=l.length:=by simp[bls]
theorem QaD {a b:List Int}:ints (a++b)=ints a++ints b:=by simp[ints]
theorem QaL {a b:List Nat}:nz (a++b)=nz a++nz b:=by simp
theorem Qdq {α:Type} {l:List α} {x:α} (h:x∈l):∃j:Nat,l[j]?=some x/\j<l.length:=by
 obtain⟨j,hj⟩:=List.mem_iff_getElem?.1 h
 exact⟨j,hj,(List.getElem?_eq_some_iff.1 hj).1⟩
theorem Qja {l:List Nat} {x:Nat}:decide ((x:Int)∈nz l)=l.contains x:=by
 have:(x:Int)∈nz l↔x∈l:=⟨fun h=>by
  obtain⟨y,hy,e⟩:=List.mem_map.1 h
  have e:y=x:=by omega
  exact e▸hy,fun h=>List.mem_map.2 ⟨x,h,rfl⟩⟩
 by_cases h:x∈l
 ·rw[decide_eq_true (this.2 h)];simp[h]
 ·rw[decide_eq_false fun h2=>h (this.1 h2)];simp[h]
end Go.AM.SD
namespace Go.AM
theorem Qjb {s:List UInt8}:(AV.str s).cells=[.str s]:=rfl
theorem Qml {s:List UInt8}:(AV.str s).one=true:=rfl
theorem Qmm {s:List UInt8}:(AV.str s).boxable=true:=rfl
theorem QhP {a b:List UInt8}:aBin .add (.str a) (.str b)=if a.length+b.length<=1099511627776 then some (.str (a++b))else none:=rfl
open SD
theorem wW:type_of% @QeN/\type_of% @wordsM/\type_of% @Qi9/\type_of% @QhO/\type_of% @Int.one_mul/\type_of% @QkD/\type_of% @Qed/\type_of% @Qi8/\type_of% @Qmj/\type_of% @Qmk/\type_of% @List.length_replicate.{0}/\type_of% @Qjb/\type_of% @Qml/\type_of% @Qmm/\type_of% @QiD/\type_of% @Ql2/\type_of% @Qdh/\type_of% @QhP:=
 ⟨@QeN,@wordsM,@Qi9,@QhO,@Int.one_mul,@QkD,@Qed,@Qi8,@Qmj,@Qmk,@List.length_replicate,@Qjb,@Qml,@Qmm,@QiD,@Ql2,@Qdh,@QhP⟩
end Go.AM
namespace Go.AM.SE
open Go.Proofs
def s31:SFn:=⟨26,[.tmp 4],
 (.seq (.region [Zz 4 (.mov (.c (.bool false))) []] [] [4])
 (.seq (.seq (.region [Zm 6 0 [],
 Zv 7 6 [0],
 Zm 8 1 [],
 Zv 9 8 [2],
 Zb 10 .neq 7 9 [1,3]] [] [6,7,8,9])
 (.cond (.t 10)
 (.seq (.region [Zz 4 (.mov (.c (.bool false))) []] [] [0,1,10])
 .ret)
 .skip))
 (.seq (.seq (.region [Zm 11 0 [],
 Zv 12 11 [0],
 Zz 13 (.mov (.c (.int .i64 0))) []] [] [4,10,11])
 (.block 0 (.loop (.seq (.region [Zb 14 .lss 13 12 []] [] [])
 (.seq (.cond (.t 14)
 .skip
 (.exit 0))
 (.seq (.block 1 (.seq (.region [Zm 15 13 [],
 Zm 5 15 [0,0]] [] [14,15])
 (.seq (.region [Zm 16 0 [],
 Zm 17 5 [],
 Zi 18 1 16 17 [0,1],
 Zl 19 18 [2],
 Zm 20 1 [],
 Zm 21 5 [],
 Zi 22 1 20 21 [4,5],
 Zl 23 22 [6],
 Zb 24 .neq 19 23 [3,7]] [] [5,16,17,18,19,20,21,22,23])
 (.cond (.t 24)
 (.seq (.region [Zz 4 (.mov (.c (.bool false))) []] [] [0,1,12,13,24])
 .ret)
 .skip))))
 (.region [Zz 25 (.bin .add (.t 13) (.c (.int .i64 1))) [],
 Zm 13 25 [0]] [] [4,24,25])))))))
 (.seq (.region [Zz 4 (.mov (.c (.bool true))) []] [] [0,1,12,13])
 .ret))))⟩
def s33:SFn:=⟨31,[.tmp 4],
 (.seq (.region [Zz 2 (.box .dyn (.t 0)) [],
 Zz 3 (.box .dyn (.t 1)) [],
 Zz 4 (.mov (.c (.bool false))) []] [] [0,1,4])
 (.seq (.region [Zf 5 1 2 [],
 Zl 6 5 [0],
 Zf 7 1 3 [],
 Zl 8 7 [2],
 Zb 9 .eql 6 8 [1,3],
 Zm 10 9 [4],
 Zx 11 (.faddr 0 (.t 2)) [5] 10 true,
 Zx 12 (.load none (.t 11)) [6,5] 10 true,
 Zx 13 (.faddr 0 (.t 3)) [5] 10 true,
 Zx 14 (.load none (.t 13)) [8,5] 10 true,
 Zx 15 (.call .pure (.f 31) [(.t 12),(.t 14)]) [7,9,5,5] 10 true,
 Zz 16 (.pick (.t 10) (.t 15) (.c (.bool false))) [5,10],
 Zm 17 16 [11,10],
 Zx 18 (.faddr 2 (.t 2)) [12] 17 true,
 Zx 19 (.load none (.t 18)) [13,12] 17 true,
 Zx 20 (.faddr 2 (.t 3)) [12] 17 true,
 Zx 21 (.load none (.t 20)) [15,12] 17 true,
 Zx 22 (.call .pure (.f 31) [(.t 19),(.t 21)]) [14,16,12,12] 17 true,
 Zz 23 (.pick (.t 17) (.t 22) (.c (.bool false))) [12,17],
 Zm 24 23 [18,17],
 Zx 25 (.faddr 3 (.t 2)) [19] 24 true,
 Zx 26 (.load none (.t 25)) [20,19] 24 true,
 Zx 27 (.faddr 3 (.t 3)) [19] 24 true,
 Zx 28 (.load none (.t 27)) [22,19] 24 true,
 Zx 29 (.call .pure (.f 106) [(.t 26),(.t 28)]) [21,23,19,19] 24 true,
 Zz 30 (.pick (.t 24) (.t 29) (.c (.bool false))) [19,24],
 Zm 4 30 (Za [25,24] 26)] [] [2,3,5,6,7,8,9,10,11,12,13,14,15,16,17,18,19,20,21,22,23,24,25,26,27,28,29,30])
 .ret))⟩
def s38:SFn:=⟨9,[.tmp 4],
 (.seq (.region [Zz 4 (.mov (.c (.bool false))) []] [] [4])
 (.seq (.region [Zm 5 0 [],
 Zm 6 1 [],
 Zz 7 (.call .pure (.f 111) [(.t 5),(.t 6)]) [0,1],
 Zz 8 (.bin .geq (.t 7) (.c (.int .i64 0))) [2],
 Zm 4 8 [3,2,0,1,2,3]] [] [0,1,5,6,7,8])
 .ret))⟩
def s41:SFn:=⟨8,[.tmp 2],
 (.seq (.region [Zz 2 (.mov (.c .nilsl)) []] [] [2])
 (.seq (.seq (.region [Zm 3 0 [],
 Zz 4 (.eq (.nil 2) false (.t 3) (.c .nilsl)) [0]] [] [3])
 (.cond (.t 4)
 (.seq (.region [Zz 2 (.mov (.c .nilsl)) []] [] [0,4])
 .ret)
 .skip))
 (.seq (.region [Zz 5 (.bslice false .dyn 1 0 [] []) [],
 Zm 6 0 [],
 Zz 7 (.append .dyn 1 8 (.t 5) (.t 6)) [0,1],
 Zm 2 7 [2,2,0,1,2]] [] [0,4,5,6,7])
 .ret)))⟩
def s62:SFn:=⟨39,[.tmp 6],
 (.seq (.region [Zz 3 (.box .dyn (.t 0)) [],
 Zz 6 (.mov (.c (.int .i64 0))) []] [] [0,6])
 (.seq (.seq (.region [Zz 7 (.mov (.c (.int .i64 0))) []] [] [])
 (.block 0 (.loop (.seq (.seq (.region [Zm 8 7 [],
 Zf 9 3 3 [],
 Zl 10 9 [1],
 Zv 11 10 [2],
 Zb 12 .lss 8 11 [0,3]] [] [8,9,10,11])
 (.cond (.t 12)
 .skip
 (.exit 0)))
 (.seq (.block 1 (.seq (.region [Zf 15 3 3 [],
 Zl 16 15 [0],
 Zm 17 7 [],
 Zi 18 3 16 17 [1,2],
 Zf 19 0 18 [3],
 Zl 20 19 [4],
 Zm 21 1 [],
 Zb 22 .eql 20 21 [5,6],
 Zm 23 22 [7],
 Zx 24 (.faddr 3 (.t 3)) [8] 23 true,
 Zx 25 (.load none (.t 24)) [9,8] 23 true,
 Zx 26 (.mov (.t 7)) [8] 23 true,
 Zx 27 (.iaddr none 3 (.t 25) (.t 26)) [10,11,8] 23 true,
 Zx 28 (.faddr 1 (.t 27)) [12,8] 23 true,
 Zx 29 (.load none (.t 28)) [13,8] 23 true,
 Zx 30 (.mov (.t 2)) [8] 23 true,
 Zx 31 (.bin .eql (.t 29) (.t 30)) [14,15,8] 23 true,
 Zz 32 (.pick (.t 23) (.t 31) (.c (.bool false))) [8,16]] [] [12,15,16,17,18,19,20,21,22,23])
 (.cond (.t 32)
 (.seq (.region [Zf 33 3 3 [],
 Zl 34 33 [0],
 Zm 35 7 [],
 Zi 36 3 34 35 [1,2],
 Zf 37 2 36 [3],
 Zl 38 37 [4],
 Zm 6 38 (Za [5] 6)] [] [1,2,3,7,31,29,30,28,27,25,26,24,32,33,34,35,36,37,38])
 .ret)
 .skip)))
 (.region [Zm 13 7 [],
 Zz 14 (.bin .add (.t 13) (.c (.int .i64 1))) [0],
 Zm 7 14 [1,0,1]] [] [6,32,13,14]))))))
 (.seq (.region [Zz 6 (.mov (.c (.int .i64 (-1)))) []] [] [1,2,3,7,31,29,30,28,27,25,26,24])
 .ret)))⟩
def s89:SFn:=⟨19,[.tmp 2],
 (.seq (.region [Zz 2 (.mov (.c .nilsl)) []] [] [2])
 (.seq (.region [Zz 3 (.mov (.c .nilsl)) []] [] [])
 (.seq (.seq (.region [Zz 4 (.mov (.c (.int .i64 0))) []] [] [])
 (.block 0 (.loop (.seq (.seq (.region [Zm 5 4 [],
 Zz 6 (.bin .lss (.t 5) (.c (.int .i64 5))) [0]] [] [5])
 (.cond (.t 6)
 .skip
 (.exit 0)))
 (.seq (.block 1 (.seq (.region [Zm 9 0 [],
 Zm 10 4 [],
 Zb 11 .shr 9 10 [0,1],
 Zz 12 (.bin .and (.t 11) (.c (.int .u8 1))) [2],
 Zz 13 (.bin .eql (.t 12) (.c (.int .u8 1))) [3]] [] [6,9,10,11,12])
 (.cond (.t 13)
 (.region [Zm 14 3 [],
 Zm 15 4 [],
 Zz 16 (.bslice false .dyn 1 1 [(.int .i64 0)] [(0,1,(.t 15))]) [1],
 Zz 17 (.append .dyn 1 8 (.t 14) (.t 16)) [0,2],
 Zm 3 17 [3,3,0,1,2,3]] [] [13,14,15,16,17])
 .skip)))
 (.region [Zm 7 4 [],
 Zz 8 (.bin .add (.t 7) (.c (.int .i64 1))) [0],
 Zm 4 8 [1,0,1]] [] [13,7,8]))))))
 (.seq (.region [Zm 18 3 [],
 Zm 2 18 [0,0]] [] [0,3,4,18])
 .ret))))⟩
def s106:SFn:=⟨26,[.tmp 4],
 (.seq (.region [Zz 4 (.mov (.c (.bool false))) []] [] [4])
 (.seq (.seq (.region [Zm 6 0 [],
 Zv 7 6 [0],
 Zm 8 1 [],
 Zv 9 8 [2],
 Zb 10 .neq 7 9 [1,3]] [] [6,7,8,9])
 (.cond (.t 10)
 (.seq (.region [Zz 4 (.mov (.c (.bool false))) []] [] [0,1,10])
 .ret)
 .skip))
 (.seq (.seq (.region [Zm 11 0 [],
 Zv 12 11 [0],
 Zz 13 (.mov (.c (.int .i64 0))) []] [] [4,10,11])
 (.block 0 (.loop (.seq (.region [Zb 14 .lss 13 12 []] [] [])
 (.seq (.cond (.t 14)
 .skip
 (.exit 0))
 (.seq (.block 1 (.seq (.region [Zm 15 13 [],
 Zm 5 15 [0,0]] [] [14,15])
 (.seq (.region [Zm 16 0 [],
 Zm 17 5 [],
 Zi 18 3 16 17 [0,1],
 Zw 19 3 18 [2],
 Zm 20 1 [],
 Zm 21 5 [],
 Zi 22 3 20 21 [4,5],
 Zw 23 3 22 [6],
 Zz 24 (.eq (.flat true [.i,.i,.i]) true (.t 19) (.t 23)) [3,7]] [] [5,16,17,18,19,20,21,22,23])
 (.cond (.t 24)
 (.seq (.region [Zz 4 (.mov (.c (.bool false))) []] [] [0,1,12,13,24])
 .ret)
 .skip))))
 (.region [Zz 25 (.bin .add (.t 13) (.c (.int .i64 1))) [],
 Zm 13 25 [0]] [] [4,24,25])))))))
 (.seq (.region [Zz 4 (.mov (.c (.bool true))) []] [] [0,1,12,13])
 .ret))))⟩
def s111:SFn:=⟨19,[.tmp 4],
 (.seq (.region [Zz 4 (.mov (.c (.int .i64 0))) []] [] [4])
 (.seq (.seq (.region [Zm 6 0 [],
 Zv 7 6 [0],
 Zz 8 (.mov (.c (.int .i64 0))) []] [] [6])
 (.block 0 (.loop (.seq (.region [Zb 9 .lss 8 7 []] [] [])
 (.seq (.cond (.t 9)
 .skip
 (.exit 0))
 (.seq (.block 1 (.seq (.region [Zm 10 8 [],
 Zm 5 10 [0,0]] [] [9,10])
 (.seq (.region [Zm 11 1 [],
 Zm 12 0 [],
 Zm 13 5 [],
 Zi 14 1 12 13 [1,2],
 Zl 15 14 [3],
 Zb 16 .eql 11 15 [0,4]] [] [11,12,13,14,15])
 (.cond (.t 16)
 (.seq (.region [Zm 17 5 [],
 Zm 4 17 [0,0]] [] [0,1,7,8,5,16,17])
 .ret)
 .skip))))
 (.region [Zz 18 (.bin .add (.t 8) (.c (.int .i64 1))) [],
 Zm 8 18 [0]] [] [4,5,16,18])))))))
 (.seq (.region [Zz 4 (.mov (.c (.int .i64 (-1)))) []] [] [0,1,7,8])
 .ret)))⟩
def s112:SFn:=⟨29,[.tmp 2],
 (.seq (.region [Zz 1 (.box .dyn (.t 0)) [],
 Zz 2 (.mov (.c (.int .i64 0))) []] [] [0,2])
 (.seq (.seq (.region [Zf 5 0 1 [],
 Zl 6 5 [0],
 Zz 7 (.call .pure (.f 192) [(.t 6),(.c (.int .i64 32))]) [1],
 Zm 3 7 [2,2,0,1,2]] [] [5,6,7])
 (.seq (.region [Zm 8 3 [],
 Zz 9 (.bin .neq (.t 8) (.c (.int .i64 0))) [0]] [] [8])
 (.cond (.t 9)
 (.seq (.region [Zm 10 3 [],
 Zm 2 10 [0,0]] [] [1,3,9,10])
 .ret)
 .skip)))
 (.seq (.block 0 (.seq (.region [Zf 12 1 1 [],
 Zl 13 12 [0],
 Zz 14 (.bin .lss (.t 13) (.c (.int .i64 0))) [1],
 Zm 11 14 [2]] [] [2,3,9,12,13,14])
 (.cond (.t 11)
 (.seq (.region [Zz 2 (.mov (.c (.int .i64 2))) []] [] [1,11])
 .ret)
 (.seq (.region [Zf 16 1 1 [],
 Zl 17 16 [0],
 Zz 18 (.bin .gtr (.t 17) (.c (.int .i64 4096))) [1],
 Zm 15 18 [2]] [] [11,16,17,18])
 (.cond (.t 15)
 (.seq (.region [Zz 2 (.mov (.c (.int .i64 3))) []] [] [1,15])
 .ret)
 .skip)))))
 (.seq (.seq (.region [Zf 19 2 1 [],
 Zl 20 19 [0],
 Zf 21 1 1 [],
 Zl 22 21 [2],
 Zz 23 (.call .pure (.f 192) [(.t 20),(.t 22)]) [1,3],
 Zm 4 23 (Za [4,4] 5)] [] [2,15,19,20,21,22,23])
 (.seq (.region [Zm 24 4 [],
 Zz 25 (.bin .neq (.t 24) (.c (.int .i64 0))) [0]] [] [24])
 (.cond (.t 25)
 (.seq (.region [Zm 26 4 [],
 Zm 2 26 [0,0]] [] [1,4,25,26])
 .ret)
 .skip)))
 (.seq (.region [Zw 27 4 1 [],
 Zz 28 (.call .pure (.f 193) [(.t 27)]) [0],
 Zm 2 28 [1,1,0,1]] [] [1,4,25,27,28])
 .ret)))))⟩
def s144:SFn:=⟨54,[.tmp 4,.tmp 5],
 (.seq (.region [Zz 4 (.mov (.c (.int .i64 0))) [],
 Zz 5 (.mov (.c (.bool false))) [0]] [] [4,5])
 (.seq (.region [Zm 10 0 [],
 Zv 11 10 [0],
 Zm 6 11 [1,0,1]] [] [10,11])
 (.seq (.region [Zm 12 6 [],
 Zz 7 (.mov (.c (.int .i64 0))) [],
 Zm 8 12 [0,1,0,1]] [] [12])
 (.seq (.block 0 (.loop (.seq (.seq (.region [Zm 13 7 [],
 Zm 14 8 [],
 Zb 15 .lss 13 14 [0,1]] [] [13,14])
 (.cond (.t 15)
 .skip
 (.exit 0)))
 (.block 1 (.seq (.region [Zm 16 7 [],
 Zm 17 8 [],
 Zb 18 .add 16 17 [0,1],
 Zz 19 (.conv .u64 (.t 18)) [2],
 Zz 20 (.bin .shr (.t 19) (.c (.int .u64 1))) [3],
 Zz 21 (.conv .i64 (.t 20)) [4],
 Zm 9 21 (Za [5] 6)] [] [15,16,17,18,19,20,21])
 (.seq (.region [Zm 22 0 [],
 Zm 23 9 [],
 Zi 24 1 22 23 [0,1],
 Zl 25 24 [2],
 Zm 26 1 [],
 Zz 27 (.call .pure (.f 197) [(.t 25),(.t 26)]) [3,4]] [] [22,23,24,25,26])
 (.cond (.t 27)
 (.region [Zm 28 9 [],
 Zz 29 (.bin .add (.t 28) (.c (.int .i64 1))) [0],
 Zm 7 29 [1,0,1]] [] [9,27,28,29])
 (.region [Zm 30 9 [],
 Zm 8 30 [0,0]] [] [9,27,30]))))))))
 (.seq (.region [Zm 31 7 [],
 Zm 32 7 [],
 Zm 33 6 [],
 Zb 34 .lss 32 33 [1,2],
 Zm 35 34 [3],
 Zx 36 (.mov (.t 0)) [4] 35 true,
 Zx 37 (.mov (.t 7)) [4] 35 true,
 Zx 38 (.iaddr none 1 (.t 36) (.t 37)) [5,6,4] 35 true,
 Zx 39 (.load none (.t 38)) [7,4] 35 true,
 Zx 40 (.mov (.t 1)) [4] 35 true,
 Zx 41 (.bin .eql (.t 39) (.t 40)) [8,9,4] 35 true,
 Zx 42 (.mov (.t 41)) [10,4,4] 35 true,
 Zx 43 (.mov (.t 0)) [11] 42 false,
 Zx 44 (.mov (.t 7)) [11] 42 false,
 Zx 45 (.iaddr none 1 (.t 43) (.t 44)) [12,13,11] 42 false,
 Zx 46 (.load none (.t 45)) [14,11] 42 false,
 Zx 47 (.call .pure (.f 198) [(.t 46)]) [15,11,11] 42 false,
 Zx 48 (.mov (.t 47)) [16,16,11] 42 false,
 Zx 49 (.mov (.t 1)) [17] 48 true,
 Zx 50 (.call .pure (.f 198) [(.t 49)]) [18,17,17] 48 true,
 Zx 51 (.pick (.t 48) (.t 50) (.c (.bool false))) [17,19,11] 42 false,
 Zx 52 (.pick (.t 42) (.c (.bool true)) (.t 51)) [11,20,4] 35 true,
 Zz 53 (.pick (.t 35) (.t 52) (.c (.bool false))) [4,21],
 Zm 4 31 [0,19,0],
 Zm 5 53 (Za [22,23] 24)] [] [0,1,6,7,8,52,42,51,48,50,49,47,46,45,43,44,41,39,40,38,36,37,31,32,33,34,35,53])
 .ret)))))⟩
def s150:SFn:=⟨105,[.cell 2 (some 4)],
 (.seq (.region [Zz 1 (.box .dyn (.t 0)) [],
 Zz 2 (.alloc .dyn (.agg [.nilsl,(.int .i64 0),.nilsl,.nilsl])) []] [] [0])
 (.seq (.region [Zf 12 0 1 [],
 Zl 13 12 [0],
 Zz 14 (.call .heap (.f 41) [(.t 13)]) [1],
 Zz 15 (.build [.nilsl,(.int .i64 0),.nilsl,.nilsl] [(0,1,(.t 14))]) [2],
 Zz 3 (.alloc .dyn (.agg [.nilsl,(.int .i64 0),.nilsl,.nilsl])) [],
 Zs 4 3 15 (Za [4,3,2] 5)] [] [12,13,14,15])
 (.seq (.seq (.region [Zf 16 1 1 [],
 Zl 17 16 [0],
 Zz 18 (.bin .eql (.t 17) (.c (.int .i64 0))) [1]] [] [16,17])
 (.cond (.t 18)
 (.seq (.region [Zw 19 4 3 [],
 Zs 4 2 19 [0,0]] [] [1,3,18,19])
 .ret)
 .skip))
 (.seq (.region [Zf 20 1 1 [],
 Zl 21 20 [0],
 Zz 22 (.mkslice .dyn 1 8 [(.int .i64 0)] (.t 21) (.t 21)) [1,1],
 Zm 4 22 [2,0,1,2]] [] [18,20,21,22])
 (.seq (.seq (.region [Zm 23 4 [],
 Zv 24 23 [0],
 Zz 25 (.mov (.c (.int .i64 0))) []] [] [23])
 (.block 0 (.loop (.seq (.region [Zb 26 .lss 25 24 []] [] [])
 (.seq (.cond (.t 26)
 .skip
 (.exit 0))
 (.seq (.block 1 (.seq (.region [Zm 27 25 [],
 Zm 5 27 [0,0]] [] [26,27])
 (.region [Zm 28 4 [],
 Zm 29 5 [],
 Zi 30 1 28 29 [0,1,0,1],
 Zy (.store 1 (.t 30) (.c (.int .i64 (-1)))) [2,0,1]] [] [5,28,29,30])))
 (.region [Zz 31 (.bin .add (.t 25) (.c (.int .i64 1))) [],
 Zm 25 31 [0]] [] [31])))))))
 (.seq (.region [Zm 32 4 [],
 Zz 33 (.iaddr none 1 (.t 32) (.c (.int .i64 0))) [0,0],
 Zy (.store 1 (.t 33) (.c (.int .i64 0))) [1,0]] [] [24,25,32,33])
 (.seq (.region [Zz 34 (.bslice false .dyn 1 1 [(.int .i64 0)] [(0,1,(.c (.int .i64 0)))]) [],
 Zm 6 34 [0,0]] [] [34])
 (.seq (.seq (.region [Zz 7 (.mov (.c (.int .i64 0))) []] [] [])
 (.block 2 (.loop (.seq (.seq (.region [Zm 35 7 [],
 Zm 36 6 [],
 Zv 37 36 [1],
 Zb 38 .lss 35 37 [0,2]] [] [35,36,37])
 (.cond (.t 38)
 .skip
 (.exit 2)))
 (.seq (.block 3 (.seq (.seq (.region [Zf 42 2 1 [],
 Zl 43 42 [0],
 Zm 44 6 [],
 Zm 45 7 [],
 Zi 46 1 44 45 [2,3],
 Zl 47 46 [4],
 Zz 48 (.call .pure (.f 144) [(.t 43),(.t 47)]) [1,5],
 Zm 41 48 [6],
 Zz 49 (.extract 0 (.t 41)) [7],
 Zz 50 (.extract 1 (.t 41)) [7],
 Zm 8 49 (Za [8,6] 9),
 Zm 9 50 (Za [9,10] 11)] [] [38,42,43,44,45,46,47,48,41,49,50,8])
 (.seq (.region [Zm 51 9 []] [] [9])
 (.cond (.t 51)
 (.region [Zf 52 2 3 [],
 Zl 53 52 [0],
 Zm 54 7 [],
 Zz 55 (.bslice false .dyn 1 1 [(.int .i64 0)] [(0,1,(.t 54))]) [2],
 Zz 56 (.append .dyn 1 8 (.t 53) (.t 55)) [1,3],
 Zf 57 2 3 (Za [] 5),
 Zs 1 57 56 (Za [5,4,4] 5)] [] [51,52,53,54,55,56,57])
 .skip)))
 (.seq (.region [Zw 58 4 1 [],
 Zm 59 6 [],
 Zm 60 7 [],
 Zi 61 1 59 60 [1,2],
 Zl 62 61 [3],
 Zz 63 (.call .pure (.f 199) [(.t 58),(.t 62)]) [0,4],
 Zv 64 63 [5],
 Zz 65 (.mov (.c (.int .i64 0))) []] [] [51,58,59,60,61,62])
 (.block 4 (.loop (.seq (.region [Zb 66 .lss 65 64 []] [] [])
 (.seq (.cond (.t 66)
 .skip
 (.exit 4))
 (.seq (.block 5 (.seq (.region [Zi 67 3 63 65 [],
 Zw 68 3 67 [0],
 Zz 11 (.alloc .dyn (.agg [(.int .i64 0),(.int .i64 0),(.int .i64 0)])) [],
 Zs 3 11 68 [2,1,0,1,2]] [] [66,67,68])
 (.seq (.seq (.region [Zm 69 4 [],
 Zf 70 2 11 [],
 Zl 71 70 [1],
 Zi 72 1 69 71 [0,2],
 Zl 73 72 [3],
 Zz 74 (.bin .lss (.t 73) (.c (.int .i64 0))) [4]] [] [69,70,71,72,73])
 (.cond (.t 74)
 (.seq (.region [Zm 75 4 [],
 Zf 76 2 11 [],
 Zl 77 76 [1],
 Zm 78 6 [],
 Zv 79 78 [3],
 Zi 80 1 75 77 (Za [0,2] 5),
 Zs 1 80 79 (Za [5,4] 5)] [] [74,75,76,77,78,79,80])
 (.region [Zm 81 6 [],
 Zf 82 2 11 [],
 Zl 83 82 [1],
 Zz 84 (.bslice false .dyn 1 1 [(.int .i64 0)] [(0,1,(.t 83))]) [2],
 Zz 85 (.append .dyn 1 8 (.t 81) (.t 84)) [0,3],
 Zm 6 85 (Za [4,4] 5)] [] [81,82,83,84,85]))
 .skip))
 (.region [Zf 86 3 3 [],
 Zl 87 86 [0],
 Zm 88 7 [],
 Zf 89 1 11 [],
 Zl 90 89 [3],
 Zm 91 4 [],
 Zf 92 2 11 [],
 Zl 93 92 [6],
 Zi 94 1 91 93 [5,7],
 Zl 95 94 [8],
 Zz 96 (.build [(.int .i64 0),(.int .i64 0),(.int .i64 0)] [(0,1,(.t 88)),(1,1,(.t 90)),(2,1,(.t 95))]) [2,4,9],
 Zz 97 (.bslice false .dyn 3 1 [(.int .i64 0),(.int .i64 0),(.int .i64 0)] [(0,3,(.t 96))]) [10],
 Zz 98 (.append .dyn 3 24 (.t 87) (.t 97)) [1,11],
 Zf 99 3 3 (Za [] 13),
 Zs 1 99 98 (Za [13,12,12] 13)] [] [11,74,86,87,88,89,90,91,92,93,94,95,96,97,98,99]))))
 (.region [Zz 100 (.bin .add (.t 65) (.c (.int .i64 1))) [],
 Zm 65 100 [0]] [] [100])))))))))
 (.region [Zm 39 7 [],
 Zz 40 (.bin .add (.t 39) (.c (.int .i64 1))) [0],
 Zm 7 40 [1,0,1]] [] [63,64,65,39,40]))))))
 (.seq (.region [Zm 101 6 [],
 Zv 102 101 [0],
 Zf 103 1 3 [0,1],
 Zs 1 103 102 [2,1,0,1]] [] [1,4,6,7,101,102,103])
 (.seq (.region [Zw 104 4 3 [],
 Zs 4 2 104 [0,0]] [] [3,104])
 .ret))))))))))⟩
def s185:SFn:=⟨79,[.cell 4 (some 4)],
 (.seq (.region [Zz 3 (.box .dyn (.t 1)) [],
 Zz 4 (.alloc .dyn (.agg [.nilsl,(.int .i64 0),.nilsl,.nilsl])) []] [] [1])
 (.seq (.seq (.region [Zf 9 0 3 [],
 Zl 10 9 [0],
 Zz 11 (.bin .geq (.t 10) (.c (.int .u8 250))) [1]] [] [9,10])
 (.cond (.t 11)
 (.seq (.region [Zm 12 0 [],
 Zz 13 (.call .pure (.f 224) [(.t 12)]) [0],
 Zs 4 4 13 [1,1,0,1]] [] [0,3,11,12,13])
 .ret)
 .skip))
 (.seq (.region [Zm 14 0 [],
 Zz 15 (.call .pure (.f 224) [(.t 14)]) [0],
 Zz 5 (.alloc .dyn (.agg [.nilsl,(.int .i64 0),.nilsl,.nilsl])) [],
 Zs 4 5 15 [2,1,1,0,1,2]] [] [11,14,15])
 (.seq (.region [Zf 16 0 3 [],
 Zl 17 16 [0],
 Zz 18 (.bin .rem (.t 17) (.c (.int .u8 5))) [1],
 Zz 19 (.conv .i64 (.t 18)) [2],
 Zz 20 (.bin .add (.c (.int .i64 1)) (.t 19)) [3],
 Zf 21 1 5 (Za [] 5),
 Zs 1 21 20 (Za [5,4] 5)] [] [16,17,18,19,20,21])
 (.seq (.seq (.region [Zz 6 (.mov (.c (.int .i64 0))) []] [] [])
 (.block 0 (.loop (.seq (.seq (.region [Zm 22 6 [],
 Zf 23 1 5 [],
 Zl 24 23 [1],
 Zb 25 .lss 22 24 [0,2]] [] [22,23,24])
 (.cond (.t 25)
 .skip
 (.exit 0)))
 (.seq (.block 1 (.seq (.seq (.region [Zf 28 1 3 [],
 Zl 29 28 [0],
 Zm 30 6 [],
 Zb 31 .shr 29 30 [1,2],
 Zz 32 (.bin .and (.t 31) (.c (.int .u8 1))) [3],
 Zz 33 (.bin .eql (.t 32) (.c (.int .u8 1))) [4]] [] [25,28,29,30,31,32])
 (.cond (.t 33)
 (.region [Zf 34 2 5 [],
 Zl 35 34 [0],
 Zm 36 6 [],
 Zz 37 (.bslice false .dyn 1 1 [(.int .i64 0)] [(0,1,(.t 36))]) [2],
 Zz 38 (.append .dyn 1 8 (.t 35) (.t 37)) [1,3],
 Zf 39 2 5 (Za [] 5),
 Zs 1 39 38 (Za [5,4,4] 5)] [] [33,34,35,36,37,38,39])
 .skip))
 (.seq (.region [Zz 7 (.mov (.c (.int .i64 0))) []] [] [33])
 (.block 2 (.loop (.seq (.seq (.region [Zm 40 7 [],
 Zm 41 0 [],
 Zv 42 41 [1],
 Zb 43 .lss 40 42 [0,2],
 Zm 44 43 [3],
 Zx 45 (.mov (.t 7)) [4] 44 true,
 Zx 46 (.bin .lss (.t 45) (.c (.int .i64 5))) [5,4] 44 true,
 Zz 47 (.pick (.t 44) (.t 46) (.c (.bool false))) [4,6]] [] [40,41,42,43,44])
 (.cond (.t 47)
 .skip
 (.exit 2)))
 (.seq (.block 3 (.seq (.region [Zm 50 6 [],
 Zm 51 7 [],
 Zf 52 2 3 [],
 Zz 53 (.iaddr (some 5) 5 (.t 52) (.t 50)) [2,0],
 Zz 54 (.iaddr (some 5) 1 (.t 53) (.t 51)) [3,1],
 Zl 55 54 [4],
 Zz 56 (.conv .i64 (.t 55)) [5],
 Zf 57 1 5 [],
 Zl 58 57 [7],
 Zz 59 (.bin .add (.t 58) (.c (.int .i64 2))) [8],
 Zb 60 .rem 56 59 [6,9],
 Zm 8 60 (Za [10] 11)] [] [47,50,51,52,53,54,55,56,57,58,59,60])
 (.seq (.region [Zm 61 8 [],
 Zf 62 1 5 [],
 Zl 63 62 [1],
 Zb 64 .lss 61 63 [0,2]] [] [61,62,63])
 (.cond (.t 64)
 (.region [Zf 65 3 5 [],
 Zl 66 65 [0],
 Zm 67 6 [],
 Zm 68 0 [],
 Zm 69 7 [],
 Zi 70 1 68 69 [3,4],
 Zl 71 70 [5],
 Zm 72 8 [],
 Zz 73 (.build [(.int .i64 0),(.int .i64 0),(.int .i64 0)] [(0,1,(.t 67)),(1,1,(.t 71)),(2,1,(.t 72))]) [2,6,7],
 Zz 74 (.bslice false .dyn 3 1 [(.int .i64 0),(.int .i64 0),(.int .i64 0)] [(0,3,(.t 73))]) [8],
 Zz 75 (.append .dyn 3 24 (.t 66) (.t 74)) [1,9],
 Zf 76 3 5 (Za [] 11),
 Zs 1 76 75 (Za [11,10,10] 11)] [] [8,64,65,66,67,68,69,70,71,72,73,74,75,76])
 .skip))))
 (.region [Zm 48 7 [],
 Zz 49 (.bin .add (.t 48) (.c (.int .i64 1))) [0],
 Zm 7 49 [1,0,1]] [] [8,64,48,49]))))))))
 (.region [Zm 26 6 [],
 Zz 27 (.bin .add (.t 26) (.c (.int .i64 1))) [0],
 Zm 6 27 [1,0,1]] [] [7,26,27]))))))
 (.seq (.region [Zw 77 4 5 [],
 Zz 78 (.call .pure (.f 225) [(.t 77)]) [0],
 Zs 4 4 78 [1,1,0,1]] [] [0,3,5,6,46,45,77,78])
 .ret))))))⟩
def s192:SFn:=⟨35,[.tmp 4],
 (.seq (.region [Zz 4 (.mov (.c (.int .i64 0))) []] [] [4])
 (.seq (.seq (.region [Zm 7 0 [],
 Zv 8 7 [0],
 Zz 9 (.mov (.c (.int .i64 0))) []] [] [])
 (.block 0 (.loop (.seq (.region [Zb 10 .lss 9 8 []] [] [])
 (.seq (.cond (.t 10)
 .skip
 (.exit 0))
 (.seq (.block 1 (.seq (.region [Zm 11 9 [],
 Zi 12 1 7 9 [],
 Zl 13 12 [1],
 Zm 5 11 [0,0,1,2],
 Zm 6 13 [2,3,0,1,2,3]] [] [10,11,12,13])
 (.block 2 (.seq (.region [Zm 15 6 [],
 Zz 16 (.bin .lss (.t 15) (.c (.int .i64 0))) [0],
 Zm 17 16 [1],
 Zx 18 (.mov (.t 6)) [2] 17 false,
 Zx 19 (.mov (.t 1)) [2] 17 false,
 Zx 20 (.bin .geq (.t 18) (.t 19)) [3,4,2] 17 false,
 Zz 21 (.pick (.t 17) (.c (.bool true)) (.t 20)) [2,5],
 Zm 14 21 [6,2]] [] [15,16,17,21])
 (.cond (.t 14)
 (.seq (.region [Zz 4 (.mov (.c (.int .i64 2))) []] [] [0,1,7,8,9,32,26,31,30,27,29,28,20,18,19,5,6,14])
 .ret)
 (.seq (.region [Zm 23 5 [],
 Zz 24 (.bin .gtr (.t 23) (.c (.int .i64 0))) [0],
 Zm 25 24 [1],
 Zx 26 (.mov (.t 6)) [2] 25 true,
 Zx 27 (.mov (.t 0)) [2] 25 true,
 Zx 28 (.mov (.t 5)) [2] 25 true,
 Zx 29 (.bin .sub (.t 28) (.c (.int .i64 1))) [5,2] 25 true,
 Zx 30 (.iaddr none 1 (.t 27) (.t 29)) [4,6,2] 25 true,
 Zx 31 (.load none (.t 30)) [7,2] 25 true,
 Zx 32 (.bin .leq (.t 26) (.t 31)) [3,8,2] 25 true,
 Zz 33 (.pick (.t 25) (.t 32) (.c (.bool false))) [2,9],
 Zm 22 33 [10,2]] [] [5,6,14,23,24,25,33])
 (.cond (.t 22)
 (.seq (.region [Zz 4 (.mov (.c (.int .i64 5))) []] [] [0,1,7,8,9,32,26,31,30,27,29,28,20,18,19,22])
 .ret)
 .skip)))))))
 (.region [Zz 34 (.bin .add (.t 9) (.c (.int .i64 1))) [],
 Zm 9 34 [0]] [] [4,22,34])))))))
 (.seq (.region [Zz 4 (.mov (.c (.int .i64 0))) []] [] [0,1,7,8,9,32,26,31,30,27,29,28,20,18,19])
 .ret)))⟩
def s193:SFn:=⟨72,[.tmp 2],
 (.seq (.region [Zz 1 (.box .dyn (.t 0)) [],
 Zz 2 (.mov (.c (.int .i64 0))) []] [] [0,2])
 (.seq (.seq (.region [Zf 6 3 1 [],
 Zl 7 6 [0],
 Zv 8 7 [1],
 Zz 9 (.mov (.c (.int .i64 0))) []] [] [6])
 (.block 0 (.loop (.seq (.region [Zb 10 .lss 9 8 []] [] [])
 (.seq (.cond (.t 10)
 .skip
 (.exit 0))
 (.seq (.block 1 (.seq (.region [Zm 11 9 [],
 Zi 12 3 7 9 [],
 Zw 13 3 12 [1],
 Zz 4 (.alloc .dyn (.agg [(.int .i64 0),(.int .i64 0),(.int .i64 0)])) [],
 Zm 3 11 [0,0,1,2,3],
 Zs 3 4 13 (Za [3,2,4] 5)] [] [10,11,12,13])
 (.seq (.block 2 (.seq (.region [Zf 15 0 4 [],
 Zl 16 15 [0],
 Zz 17 (.bin .lss (.t 16) (.c (.int .i64 0))) [1],
 Zm 18 17 [2],
 Zx 19 (.faddr 0 (.t 4)) [3] 18 false,
 Zx 20 (.load none (.t 19)) [4,3] 18 false,
 Zx 21 (.faddr 1 (.t 1)) [3] 18 false,
 Zx 22 (.load none (.t 21)) [6,3] 18 false,
 Zx 23 (.bin .geq (.t 20) (.t 22)) [5,7,3] 18 false,
 Zz 24 (.pick (.t 18) (.c (.bool true)) (.t 23)) [3,8],
 Zm 25 24 [9,3],
 Zx 26 (.faddr 2 (.t 4)) [10] 25 false,
 Zx 27 (.load none (.t 26)) [11,10] 25 false,
 Zx 28 (.bin .lss (.t 27) (.c (.int .i64 0))) [12,10] 25 false,
 Zz 29 (.pick (.t 25) (.c (.bool true)) (.t 28)) [10,13],
 Zm 30 29 [14,10],
 Zx 31 (.faddr 2 (.t 4)) [15] 30 false,
 Zx 32 (.load none (.t 31)) [16,15] 30 false,
 Zx 33 (.faddr 1 (.t 1)) [15] 30 false,
 Zx 34 (.load none (.t 33)) [18,15] 30 false,
 Zx 35 (.bin .geq (.t 32) (.t 34)) [17,19,15] 30 false,
 Zz 36 (.pick (.t 30) (.c (.bool true)) (.t 35)) [15,20],
 Zm 14 36 [21,15]] [] [15,16,17,18,24,25,29,30,36])
 (.cond (.t 14)
 (.seq (.region [Zz 2 (.mov (.c (.int .i64 2))) []] [] [1,7,8,9,69,63,68,65,67,66,64,62,59,61,60,58,35,32,34,33,31,28,27,26,23,20,22,21,19,4,3,14])
 .ret)
 (.seq (.region [Zf 38 0 1 [],
 Zl 39 38 [0],
 Zf 40 1 4 [],
 Zl 41 40 [2],
 Zz 42 (.call .pure (.f 38) [(.t 39),(.t 41)]) [1,3],
 Zz 43 (.un .not (.t 42)) [4],
 Zm 37 43 [5,4]] [] [14,38,39,40,41,42,43])
 (.cond (.t 37)
 (.seq (.region [Zz 2 (.mov (.c (.int .i64 9))) []] [] [1,7,8,9,69,63,68,65,67,66,64,62,59,61,60,58,35,32,34,33,31,28,27,26,23,20,22,21,19,4,3,37])
 .ret)
 .skip)))))
 (.seq (.seq (.region [Zm 44 3 [],
 Zz 45 (.bin .eql (.t 44) (.c (.int .i64 0))) [0]] [] [2,37,44])
 (.cond (.t 45)
 (.exit 1)
 .skip))
 (.seq (.region [Zf 46 3 1 [],
 Zl 47 46 [0],
 Zm 48 3 [],
 Zz 49 (.bin .sub (.t 48) (.c (.int .i64 1))) [2],
 Zi 50 3 47 49 [1,3],
 Zw 51 3 50 [4],
 Zz 5 (.alloc .dyn (.agg [(.int .i64 0),(.int .i64 0),(.int .i64 0)])) [],
 Zs 3 5 51 (Za [6,5] 7)] [] [3,45,46,47,48,49,50,51])
 (.seq (.region [Zf 52 0 4 [],
 Zl 53 52 [0],
 Zf 54 0 5 [],
 Zl 55 54 [2],
 Zb 56 .lss 53 55 [1,3],
 Zm 57 56 [4],
 Zx 58 (.faddr 0 (.t 4)) [5] 57 false,
 Zx 59 (.load none (.t 58)) [6,5] 57 false,
 Zx 60 (.faddr 0 (.t 5)) [5] 57 false,
 Zx 61 (.load none (.t 60)) [8,5] 57 false,
 Zx 62 (.bin .eql (.t 59) (.t 61)) [7,9,5] 57 false,
 Zx 63 (.mov (.t 62)) [10,5,5] 57 false,
 Zx 64 (.faddr 1 (.t 4)) [11] 63 true,
 Zx 65 (.load none (.t 64)) [12,11] 63 true,
 Zx 66 (.faddr 1 (.t 5)) [11] 63 true,
 Zx 67 (.load none (.t 66)) [14,11] 63 true,
 Zx 68 (.bin .leq (.t 65) (.t 67)) [13,15,11] 63 true,
 Zx 69 (.pick (.t 63) (.t 68) (.c (.bool false))) [11,16,5] 57 false,
 Zz 70 (.pick (.t 57) (.c (.bool true)) (.t 69)) [5,17]] [] [4,5,52,53,54,55,56,57])
 (.cond (.t 70)
 (.seq (.region [Zz 2 (.mov (.c (.int .i64 5))) []] [] [1,7,8,9,69,63,68,65,67,66,64,62,59,61,60,58,35,32,34,33,31,28,27,26,23,20,22,21,19,70])
 .ret)
 .skip)))))))
 (.region [Zz 71 (.bin .add (.t 9) (.c (.int .i64 1))) [],
 Zm 9 71 [0]] [] [2,70,71])))))))
 (.seq (.region [Zz 2 (.mov (.c (.int .i64 0))) []] [] [1,7,8,9,69,63,68,65,67,66,64,62,59,61,60,58,35,32,34,33,31,28,27,26,23,20,22,21,19])
 .ret)))⟩
def s197:SFn:=⟨17,[.tmp 4],
 (.seq (.region [Zz 4 (.mov (.c (.bool false))) []] [] [4])
 (.seq (.region [Zm 5 0 [],
 Zz 6 (.call .pure (.f 227) [(.t 5)]) [0],
 Zm 7 6 [1,1],
 Zx 8 (.mov (.t 1)) [2] 7 true,
 Zx 9 (.call .pure (.f 227) [(.t 8)]) [3,2,2] 7 true,
 Zx 10 (.un .not (.t 9)) [4,2] 7 true,
 Zz 11 (.pick (.t 7) (.t 10) (.c (.bool false))) [2,5],
 Zm 12 11 [6,4],
 Zx 13 (.mov (.t 0)) [7] 12 false,
 Zx 14 (.mov (.t 1)) [7] 12 false,
 Zx 15 (.bin .lss (.t 13) (.t 14)) [8,9,7] 12 false,
 Zz 16 (.pick (.t 12) (.c (.bool true)) (.t 15)) [7,10],
 Zm 4 16 (Za [11,7] 12)] [] [0,1,5,6,7,8,9,10,11,12,13,14,15,16])
 .ret))⟩
def s198:SFn:=⟨6,[.tmp 2],
 (.seq (.region [Zz 2 (.mov (.c (.bool false))) []] [] [2])
 (.seq (.region [Zm 3 0 [],
 Zm 4 0 [],
 Zb 5 .neq 3 4 [0,1],
 Zm 2 5 [2,0,1,2]] [] [0,3,4,5])
 .ret))⟩
def s199:SFn:=⟨29,[.tmp 4],
 (.seq (.region [Zz 2 (.box .dyn (.t 0)) [],
 Zz 4 (.mov (.c .nilsl)) []] [] [0,4])
 (.seq (.region [Zf 10 3 2 [],
 Zl 11 10 [0],
 Zm 12 1 [],
 Zz 13 (.call .pure (.f 228) [(.t 11),(.t 12),(.f 229)]) [1,2],
 Zm 9 13 [3],
 Zz 14 (.extract 0 (.t 9)) [4],
 Zz 15 (.extract 1 (.t 9)) [4],
 Zm 5 14 (Za [5,3] 6),
 Zm 6 15 (Za [6,7] 8)] [] [10,11,12,13,9,14,15,6])
 (.seq (.region [Zf 17 3 2 [],
 Zl 18 17 [0],
 Zm 19 1 [],
 Zz 20 (.bin .add (.t 19) (.c (.int .i64 1))) [2],
 Zz 21 (.call .pure (.f 228) [(.t 18),(.t 20),(.f 230)]) [1,3],
 Zm 16 21 [4],
 Zz 22 (.extract 0 (.t 16)) [5],
 Zz 23 (.extract 1 (.t 16)) [5],
 Zm 7 22 (Za [6,4] 7),
 Zm 8 23 (Za [7,8] 9)] [] [1,17,18,19,20,21,16,22,23,8])
 (.seq (.region [Zf 24 3 2 [],
 Zl 25 24 [0],
 Zm 26 5 [],
 Zm 27 7 [],
 Zz 28 (.slice (some 3) (.t 25) (some (.t 26)) (some (.t 27)) none) [1,2,3],
 Zm 4 28 (Za [4] 5)] [] [2,5,7,24,25,26,27,28])
 .ret))))⟩
def s224:SFn:=⟨7,[.cell 2 (some 4)],
 (.seq (.region [Zz 2 (.alloc .dyn (.agg [.nilsl,(.int .i64 0),.nilsl,.nilsl])) []] [] [])
 (.seq (.region [Zz 3 (.bslice false .dyn 1 0 [] []) [],
 Zm 4 0 [],
 Zz 5 (.append .dyn 1 8 (.t 3) (.t 4)) [0,1],
 Zz 6 (.build [.nilsl,(.int .i64 0),.nilsl,.nilsl] [(0,1,(.t 5))]) [2],
 Zs 4 2 6 [3,2,0,1,2,3]] [] [0,3,4,5,6])
 .ret))⟩
def s225:SFn:=⟨71,[.cell 2 (some 4)],
 (.seq (.region [Zz 1 (.box .dyn (.t 0)) [],
 Zz 2 (.alloc .dyn (.agg [.nilsl,(.int .i64 0),.nilsl,.nilsl])) []] [] [0])
 (.seq (.region [Zw 8 4 1 [],
 Zz 9 (.call .pure (.f 259) [(.t 8)]) [0],
 Zm 3 9 [1,1,0,1]] [] [8,9])
 (.seq (.region [Zf 10 0 1 [],
 Zl 11 10 [0],
 Zz 12 (.call .pure (.f 224) [(.t 11)]) [1],
 Zz 4 (.alloc .dyn (.agg [.nilsl,(.int .i64 0),.nilsl,.nilsl])) [],
 Zs 4 4 12 [3,2,2,0,1,2,3]] [] [10,11,12])
 (.seq (.region [Zm 13 3 [],
 Zv 14 13 [0],
 Zf 15 1 4 [0,1],
 Zs 1 15 14 [2,1,0,1]] [] [13,14,15])
 (.seq (.seq (.region [Zz 5 (.mov (.c (.int .i64 0))) []] [] [])
 (.block 0 (.loop (.seq (.seq (.region [Zm 16 5 [],
 Zm 17 3 [],
 Zv 18 17 [1],
 Zb 19 .lss 16 18 [0,2]] [] [16,17,18])
 (.cond (.t 19)
 .skip
 (.exit 0)))
 (.seq (.block 1 (.seq (.seq (.region [Zf 22 2 1 [],
 Zl 23 22 [0],
 Zm 24 3 [],
 Zm 25 5 [],
 Zi 26 1 24 25 [2,3],
 Zl 27 26 [4],
 Zz 28 (.call .heap (.f 260) [(.t 23),(.t 27)]) [1,5]] [] [19,22,23,24,25,26,27])
 (.cond (.t 28)
 (.region [Zf 29 2 4 [],
 Zl 30 29 [0],
 Zm 31 5 [],
 Zz 32 (.bslice false .dyn 1 1 [(.int .i64 0)] [(0,1,(.t 31))]) [2],
 Zz 33 (.append .dyn 1 8 (.t 30) (.t 32)) [1,3],
 Zf 34 2 4 (Za [] 5),
 Zs 1 34 33 (Za [5,4,4] 5)] [] [28,29,30,31,32,33,34])
 .skip))
 (.seq (.region [Zz 6 (.mov (.c (.int .i64 0))) []] [] [28])
 (.block 2 (.loop (.seq (.seq (.region [Zm 35 6 [],
 Zf 36 0 1 [],
 Zl 37 36 [1],
 Zv 38 37 [2],
 Zb 39 .lss 35 38 [0,3]] [] [35,36,37,38])
 (.cond (.t 39)
 .skip
 (.exit 2)))
 (.seq (.block 3 (.seq (.region [Zw 42 4 1 [],
 Zm 43 3 [],
 Zm 44 5 [],
 Zi 45 1 43 44 [1,2],
 Zl 46 45 [3],
 Zf 47 0 1 [],
 Zl 48 47 [5],
 Zm 49 6 [],
 Zi 50 1 48 49 [6,7],
 Zl 51 50 [8],
 Zz 52 (.call .pure (.f 62) [(.t 42),(.t 46),(.t 51)]) [0,4,9],
 Zm 7 52 (Za [10,10] 11)] [] [39,42,43,44,45,46,47,48,49,50,51,52])
 (.seq (.region [Zm 53 7 [],
 Zz 54 (.bin .geq (.t 53) (.c (.int .i64 0))) [0]] [] [53])
 (.cond (.t 54)
 (.region [Zf 55 3 4 [],
 Zl 56 55 [0],
 Zm 57 5 [],
 Zf 58 0 1 [],
 Zl 59 58 [3],
 Zm 60 6 [],
 Zi 61 1 59 60 [4,5],
 Zl 62 61 [6],
 Zm 63 3 [],
 Zm 64 7 [],
 Zz 65 (.call .pure (.f 261) [(.t 63),(.t 64)]) [8,9],
 Zz 66 (.build [(.int .i64 0),(.int .i64 0),(.int .i64 0)] [(0,1,(.t 57)),(1,1,(.t 62)),(2,1,(.t 65))]) [2,7,10],
 Zz 67 (.bslice false .dyn 3 1 [(.int .i64 0),(.int .i64 0),(.int .i64 0)] [(0,3,(.t 66))]) [11],
 Zz 68 (.append .dyn 3 24 (.t 56) (.t 67)) [1,12,10],
 Zf 69 3 4 (Za [] 14),
 Zs 1 69 68 (Za [14,13,13] 14)] [] [7,54,55,56,57,58,59,60,61,62,63,64,65,66,67,68,69])
 .skip))))
 (.region [Zm 40 6 [],
 Zz 41 (.bin .add (.t 40) (.c (.int .i64 1))) [0],
 Zm 6 41 [1,0,1]] [] [7,54,40,41]))))))))
 (.region [Zm 20 5 [],
 Zz 21 (.bin .add (.t 20) (.c (.int .i64 1))) [0],
 Zm 5 21 [1,0,1]] [] [6,20,21]))))))
 (.seq (.region [Zw 70 4 4 [],
 Zs 4 2 70 [0,0]] [] [1,3,4,5,70])
 .ret))))))⟩
def s227:SFn:=⟨6,[.tmp 2],
 (.seq (.region [Zz 2 (.mov (.c (.bool false))) []] [] [2])
 (.seq (.region [Zm 3 0 [],
 Zm 4 0 [],
 Zb 5 .neq 3 4 [0,1],
 Zm 2 5 [2,0,1,2]] [] [0,3,4,5])
 .ret))⟩
def s228:SFn:=⟨49,[.tmp 6,.tmp 7],
 (.seq (.region [Zz 6 (.mov (.c (.int .i64 0))) [],
 Zz 7 (.mov (.c (.bool false))) [0]] [] [6,7])
 (.seq (.region [Zm 12 0 [],
 Zv 13 12 [0],
 Zm 8 13 [1,0,1]] [] [12,13])
 (.seq (.region [Zm 14 8 [],
 Zz 9 (.mov (.c (.int .i64 0))) [],
 Zm 10 14 [0,1,0,1]] [] [14])
 (.seq (.block 0 (.loop (.seq (.seq (.region [Zm 15 9 [],
 Zm 16 10 [],
 Zb 17 .lss 15 16 [0,1]] [] [15,16])
 (.cond (.t 17)
 .skip
 (.exit 0)))
 (.block 1 (.seq (.region [Zm 18 9 [],
 Zm 19 10 [],
 Zb 20 .add 18 19 [0,1],
 Zz 21 (.conv .u64 (.t 20)) [2],
 Zz 22 (.bin .shr (.t 21) (.c (.int .u64 1))) [3],
 Zz 23 (.conv .i64 (.t 22)) [4],
 Zm 11 23 (Za [5] 6)] [] [17,18,19,20,21,22,23])
 (.seq (.region [Zm 24 2 [],
 Zm 25 0 [],
 Zm 26 11 [],
 Zi 27 3 25 26 [1,2],
 Zw 28 3 27 [3],
 Zm 29 1 [],
 Zz 30 (.call .pure (.t 24) [(.t 28),(.t 29)]) [0,4,5],
 Zz 31 (.bin .lss (.t 30) (.c (.int .i64 0))) [6]] [] [24,25,26,27,28,29,30])
 (.cond (.t 31)
 (.region [Zm 32 11 [],
 Zz 33 (.bin .add (.t 32) (.c (.int .i64 1))) [0],
 Zm 9 33 [1,0,1]] [] [11,31,32,33])
 (.region [Zm 34 11 [],
 Zm 10 34 [0,0]] [] [11,31,34]))))))))
 (.seq (.region [Zm 35 9 [],
 Zm 36 9 [],
 Zm 37 8 [],
 Zb 38 .lss 36 37 [1,2],
 Zm 39 38 [3],
 Zx 40 (.mov (.t 2)) [4] 39 true,
 Zx 41 (.mov (.t 0)) [4] 39 true,
 Zx 42 (.mov (.t 9)) [4] 39 true,
 Zx 43 (.iaddr none 3 (.t 41) (.t 42)) [6,7,4] 39 true,
 Zx 44 (.load (some 3) (.t 43)) [8,4] 39 true,
 Zx 45 (.mov (.t 1)) [4] 39 true,
 Zx 46 (.call .pure (.t 40) [(.t 44),(.t 45)]) [5,9,10,4,4] 39 true,
 Zx 47 (.bin .eql (.t 46) (.c (.int .i64 0))) [11,4] 39 true,
 Zz 48 (.pick (.t 39) (.t 47) (.c (.bool false))) [4,12],
 Zm 6 35 [0,11,0],
 Zm 7 48 (Za [13,14] 15)] [] [0,1,2,8,9,10,47,46,40,44,45,43,41,42,35,36,37,38,39,48])
 .ret)))))⟩
def s229:SFn:=⟨9,[.tmp 4],
 (.seq (.region [Zz 2 (.box .dyn (.t 0)) [],
 Zz 4 (.mov (.c (.int .i64 0))) []] [] [0,4])
 (.seq (.region [Zf 5 0 2 [],
 Zl 6 5 [0],
 Zm 7 1 [],
 Zb 8 .sub 6 7 [1,2],
 Zm 4 8 [3,0,1,2,3]] [] [1,2,5,6,7,8])
 .ret))⟩
def s230:SFn:=⟨9,[.tmp 4],
 (.seq (.region [Zz 2 (.box .dyn (.t 0)) [],
 Zz 4 (.mov (.c (.int .i64 0))) []] [] [0,4])
 (.seq (.region [Zf 5 0 2 [],
 Zl 6 5 [0],
 Zm 7 1 [],
 Zb 8 .sub 6 7 [1,2],
 Zm 4 8 [3,0,1,2,3]] [] [1,2,5,6,7,8])
 .ret))⟩
def s259:SFn:=⟨50,[.tmp 2],
 (.seq (.region [Zz 1 (.box .dyn (.t 0)) [],
 Zz 2 (.mov (.c .nilsl)) []] [] [0,2])
 (.seq (.region [Zz 3 (.mov (.c .nilsl)) []] [] [])
 (.seq (.seq (.region [Zf 7 1 1 [],
 Zl 8 7 [0],
 Zz 9 (.bin .gtr (.t 8) (.c (.int .i64 0))) [1]] [] [7,8])
 (.cond (.t 9)
 (.region [Zm 10 3 [],
 Zz 11 (.bslice false .dyn 1 1 [(.int .i64 0)] [(0,1,(.c (.int .i64 0)))]) [],
 Zz 12 (.append .dyn 1 8 (.t 10) (.t 11)) [0,1],
 Zm 3 12 [2,2,0,1,2]] [] [9,10,11,12])
 .skip))
 (.seq (.seq (.region [Zz 4 (.mov (.c (.int .i64 0))) []] [] [9])
 (.block 0 (.loop (.seq (.seq (.region [Zm 13 4 [],
 Zm 14 3 [],
 Zv 15 14 [1],
 Zb 16 .lss 13 15 [0,2]] [] [13,14,15])
 (.cond (.t 16)
 .skip
 (.exit 0)))
 (.seq (.block 1 (.seq (.region [Zz 5 (.mov (.c (.int .i64 0))) []] [] [16])
 (.block 2 (.loop (.seq (.seq (.region [Zm 19 5 [],
 Zf 20 0 1 [],
 Zl 21 20 [1],
 Zv 22 21 [2],
 Zb 23 .lss 19 22 [0,3]] [] [19,20,21,22])
 (.cond (.t 23)
 .skip
 (.exit 2)))
 (.seq (.block 3 (.seq (.region [Zw 26 4 1 [],
 Zm 27 3 [],
 Zm 28 4 [],
 Zi 29 1 27 28 [1,2],
 Zl 30 29 [3],
 Zf 31 0 1 [],
 Zl 32 31 [5],
 Zm 33 5 [],
 Zi 34 1 32 33 [6,7],
 Zl 35 34 [8],
 Zz 36 (.call .pure (.f 62) [(.t 26),(.t 30),(.t 35)]) [0,4,9],
 Zm 6 36 (Za [10,10] 11)] [] [23,26,27,28,29,30,31,32,33,34,35,36])
 (.seq (.region [Zm 37 6 [],
 Zz 38 (.bin .geq (.t 37) (.c (.int .i64 0))) [0],
 Zm 39 38 [1],
 Zx 40 (.mov (.t 3)) [2] 39 true,
 Zx 41 (.mov (.t 6)) [2] 39 true,
 Zx 42 (.call .heap (.f 260) [(.t 40),(.t 41)]) [3,4,2,2] 39 true,
 Zx 43 (.un .not (.t 42)) [5,2] 39 true,
 Zz 44 (.pick (.t 39) (.t 43) (.c (.bool false))) [2,6]] [] [37,38,39])
 (.cond (.t 44)
 (.region [Zm 45 3 [],
 Zm 46 6 [],
 Zz 47 (.bslice false .dyn 1 1 [(.int .i64 0)] [(0,1,(.t 46))]) [1],
 Zz 48 (.append .dyn 1 8 (.t 45) (.t 47)) [0,2],
 Zm 3 48 [3,3,0,1,2,3]] [] [6,44,45,46,47,48])
 .skip))))
 (.region [Zm 24 5 [],
 Zz 25 (.bin .add (.t 24) (.c (.int .i64 1))) [0],
 Zm 5 25 [1,0,1]] [] [6,44,24,25])))))))
 (.region [Zm 17 4 [],
 Zz 18 (.bin .add (.t 17) (.c (.int .i64 1))) [0],
 Zm 4 18 [1,0,1]] [] [5,17,18]))))))
 (.seq (.region [Zm 49 3 [],
 Zm 2 49 [0,0]] [] [1,3,4,43,42,40,41,49])
 .ret)))))⟩
def s260:SFn:=⟨18,[.tmp 4],
 (.seq (.region [Zz 4 (.mov (.c (.bool false))) []] [] [4])
 (.seq (.seq (.region [Zz 5 (.mov (.c (.int .i64 0))) []] [] [])
 (.block 0 (.loop (.seq (.seq (.region [Zm 6 5 [],
 Zm 7 0 [],
 Zv 8 7 [1],
 Zb 9 .lss 6 8 [0,2]] [] [6,7,8])
 (.cond (.t 9)
 .skip
 (.exit 0)))
 (.seq (.block 1 (.seq (.region [Zm 12 0 [],
 Zm 13 5 [],
 Zi 14 1 12 13 [0,1],
 Zl 15 14 [2],
 Zm 16 1 [],
 Zb 17 .eql 15 16 [3,4]] [] [9,12,13,14,15,16])
 (.cond (.t 17)
 (.seq (.region [Zz 4 (.mov (.c (.bool true))) []] [] [0,1,5,17])
 .ret)
 .skip)))
 (.region [Zm 10 5 [],
 Zz 11 (.bin .add (.t 10) (.c (.int .i64 1))) [0],
 Zm 5 11 [1,0,1]] [] [4,17,10,11]))))))
 (.seq (.region [Zz 4 (.mov (.c (.bool false))) []] [] [0,1,5])
 .ret)))⟩
def s261:SFn:=⟨19,[.tmp 4],
 (.seq (.region [Zz 4 (.mov (.c (.int .i64 0))) []] [] [4])
 (.seq (.seq (.region [Zz 5 (.mov (.c (.int .i64 0))) []] [] [])
 (.block 0 (.loop (.seq (.seq (.region [Zm 6 5 [],
 Zm 7 0 [],
 Zv 8 7 [1],
 Zb 9 .lss 6 8 [0,2]] [] [6,7,8])
 (.cond (.t 9)
 .skip
 (.exit 0)))
 (.seq (.block 1 (.seq (.region [Zm 12 0 [],
 Zm 13 5 [],
 Zi 14 1 12 13 [0,1],
 Zl 15 14 [2],
 Zm 16 1 [],
 Zb 17 .eql 15 16 [3,4]] [] [9,12,13,14,15,16])
 (.cond (.t 17)
 (.seq (.region [Zm 18 5 [],
 Zm 4 18 [0,0]] [] [0,1,5,17,18])
 .ret)
 .skip)))
 (.region [Zm 10 5 [],
 Zz 11 (.bin .add (.t 10) (.c (.int .i64 1))) [0],
 Zm 5 11 [1,0,1]] [] [4,17,10,11]))))))
 (.seq (.region [Zz 4 (.mov (.c (.int .i64 (-1)))) []] [] [0,1,5])
 .ret)))⟩
theorem ok31:okFn Tryz.prog 31 s31=true:=by kernel_rfl
theorem ok33:okFn Tryz.prog 33 s33=true:=by kernel_rfl
theorem ok38:okFn Tryz.prog 38 s38=true:=by kernel_rfl
theorem ok41:okFn Tryz.prog 41 s41=true:=by kernel_rfl
theorem ok62:okFn Tryz.prog 62 s62=true:=by kernel_rfl
theorem ok89:okFn Tryz.prog 89 s89=true:=by kernel_rfl
theorem ok106:okFn Tryz.prog 106 s106=true:=by kernel_rfl
theorem ok111:okFn Tryz.prog 111 s111=true:=by kernel_rfl
theorem ok112:okFn Tryz.prog 112 s112=true:=by kernel_rfl
theorem ok144:okFn Tryz.prog 144 s144=true:=by kernel_rfl
theorem ok150:okFn Tryz.prog 150 s150=true:=by kernel_rfl
theorem ok185:okFn Tryz.prog 185 s185=true:=by kernel_rfl
theorem ok192:okFn Tryz.prog 192 s192=true:=by kernel_rfl
theorem ok193:okFn Tryz.prog 193 s193=true:=by kernel_rfl
theorem ok197:okFn Tryz.prog 197 s197=true:=by kernel_rfl
theorem ok198:okFn Tryz.prog 198 s198=true:=by kernel_rfl
theorem ok199:okFn Tryz.prog 199 s199=true:=by kernel_rfl
theorem ok224:okFn Tryz.prog 224 s224=true:=by kernel_rfl
theorem ok225:okFn Tryz.prog 225 s225=true:=by kernel_rfl
theorem ok227:okFn Tryz.prog 227 s227=true:=by kernel_rfl
theorem ok228:okFn Tryz.prog 228 s228=true:=by kernel_rfl
theorem ok229:okFn Tryz.prog 229 s229=true:=by kernel_rfl
theorem ok230:okFn Tryz.prog 230 s230=true:=by kernel_rfl
theorem ok259:okFn Tryz.prog 259 s259=true:=by kernel_rfl
theorem ok260:okFn Tryz.prog 260 s260=true:=by kernel_rfl
theorem ok261:okFn Tryz.prog 261 s261=true:=by kernel_rfl
end Go.AM.SE
namespace Go.AM.SE
open Go.Proofs Go.AM.SD
theorem PSpec.weak {P:Program} {f:Nat} {args bs:List AV} {v:AV} (hL:∀(ok:Okc) (c:Ctx ok) (w:World) (vs:List Value),HRel c .e w->VRels c w args vs->VRels c w bs vs) (hn:noRefs args=true) (hp:PSpec P f bs v):PSpec P f args v:=by
 obtain⟨n1,n2,h',hc,hs⟩:=hp
 exact⟨hn,n2,h',hc,fun c w cargs H ha=>hs c w cargs H (hL _ c w _ H ha)⟩
theorem _root_.Go.AM.au0 {p:Prop} (h:p:=by repeat (first|exact RO.zero|exact RO.e|refine RO.set rfl ?_)):p:=h
theorem _root_.Go.AM.au1 {p:Prop} (h:p:=by repeat' (first|exact RB.nil|(refine RnL.same ?_;first|rfl|(simp only[noRef,noRefs,Qai,Bool.and_self,Bool.and_true,Bool.true_and,Qaa,Qaj,Qag,Qal,Qah,Qay,Qab,Qa7,Qax];done))|exact RnM.keyM rfl|exact RnL.nil|exact(True.intro:RnM _ _ _ [] [])|refine RnL.cons ?_ ?_|(refine Rn.same ?_;first|rfl|(simp only[noRef,noRefs,Qai,Bool.and_self,Bool.and_true,Bool.true_and,Qaa,Qaj,Qag,Qal,Qah,Qay,Qab,Qa7,Qax];done))|exact Rn.x1 rfl rfl|exact Rn.x2 rfl rfl|exact Rn.x3 rfl rfl|exact Rn.x4 rfl rfl|exact Rn.x5 rfl|exact Rn.x6 rfl|exact Rn.x7 rfl|refine RB.newnil rfl rfl ?_|refine RB.cells rfl rfl rfl ?_ ?_|refine RB.map rfl rfl rfl ?_ ?_|refine RB.cellsB rfl rfl ?_ ?_|refine RB.mapB rfl rfl ?_ ?_)):p:=h
theorem _root_.Go.AM.au2 {p:Prop} (h:p:=by repeat (first|exact RT.nil|(refine RT.cons ?_ ?_; · (first|exact Rn.any|exact Rn.x1 rfl rfl|exact Rn.x2 rfl rfl|exact Rn.x3 rfl rfl|exact Rn.x4 rfl rfl|exact Rn.x5 rfl|exact Rn.x6 rfl|exact Rn.x7 rfl|(refine Rn.slot ?_ ?_;(first|rfl|(rw[Int.natCast_add];rfl));(first|rfl|(simp only[noRef,noRefs,Qai,Bool.and_self,Bool.and_true,Bool.true_and,Qaa,Qaj,Qag,Qal,Qah,Qay,Qab,Qa7,Qax];done)))|(refine Rn.fn ?_ ?_<;>(repeat' (first|exact RnL.nil|refine RnL.cons ?_ ?_|exact Rn.same rfl|exact Rn.x6 rfl|exact Rn.x2 rfl rfl|exact Rn.x5 rfl|exact Rn.x1 rfl rfl))))))):p:=h
theorem has36 (l:List Int) (n:Int) (hl:l.length<=1099511627776):PSpec Tryz.prog 260 [sli l,.int .i64 n] (.bool (decide (n∈l))):=by
  refine PSpec.Qau 64 ok260 rfl (by(try simp only[noRefs,Qaa,Qaj,Qag,Qal,Qah,noRef,Bool.and_self,Bool.and_true])<;>rfl) rfl ?_
  simp(disch:=first|omega|(simp only[lenW]<;>omega)) only[s260,wV,simprocAttr]
  refine QaJ 100 (fun i:Nat=>[(0,sli l),(1,.int .i64 n),(5,.int .i64 i)]) (fun _=>[]) (fun i=>i<=l.length/\∀(j:Nat) y,j<i->l[j]?=some y->y≠n) (fun i=>l.length-i) 0 ⟨[],rfl,au0,au1,au2⟩ ⟨Nat.zero_le _,fun j y hj=>absurd hj (Nat.not_lt_zero _)⟩ ?_
  rintro i ⟨hi,hb⟩
  by_cases hlt:i<l.length
  · obtain ⟨x, hx⟩ := Qak hlt
    by_cases h0:x=n
    · simp (disch := first | omega | (simp only [lenW] <;> omega)) only [hlt, Qa0 hx, h0, wV, simprocAttr]
      refine⟨.inr trivial,_,rfl,?_⟩
      have:n∈l:=h0▸List.mem_of_getElem? hx
      simp[resOf,QaM,this]
    · simp (disch := first | omega | (simp only [lenW] <;> omega)) only [hlt, Qa0 hx, h0, wV, simprocAttr]
      refine⟨i+1,by omega,⟨by omega,fun j y hj hy=>?_⟩,⟨[],rfl,au0,au1,au2⟩⟩
      by_cases e:j=i
      · subst e;rw[hx]at hy;cases hy;exact h0
      · exact hb j y (by omega) hy
  · have : n ∉ l := fun h => by
      obtain⟨j,hj,hjl⟩:=Qdq h
      exact hb j n (by omega) hj rfl
    simp(disch:=first|omega|(simp only[lenW]<;>omega)) only[hlt,wV,simprocAttr]
    exact⟨.inr trivial,_,rfl,by simp[resOf,QaM,this]⟩
def indexR (l:List Int) (n:Int):Int:=if n∈l then(l.findIdx (· ==n):Int)else-1
theorem index70 (l : List Int) (n : Int) (hl : l.length <= 1099511627776) : PSpec Tryz.prog 111 [sli l, .int .i64 n] (.int .i64 (indexR l n)) := by
  refine PSpec.Qau 64 ok111 rfl (by(try simp only[noRefs,Qaa,Qaj,Qag,Qal,Qah,noRef,Bool.and_self,Bool.and_true])<;>rfl) rfl ?_
  simp(disch:=first|omega|(simp only[lenW]<;>omega)) only[s111,wV,simprocAttr]
  refine QaJ 100 (fun i:Nat=>[(0,sli l),(1,.int .i64 n),(7,.int .i64 l.length),(8,.int .i64 i)]) (fun _=>[]) (fun i=>i<=l.length/\∀(j:Nat) y,j<i->l[j]?=some y->y≠n) (fun i=>l.length-i) 0 ⟨[],rfl,au0,au1,au2⟩ ⟨Nat.zero_le _,fun j y hj=>absurd hj (Nat.not_lt_zero _)⟩ ?_
  rintro i ⟨hi,hb⟩
  by_cases hlt:i<l.length
  · obtain ⟨x, hx⟩ := Qak hlt
    by_cases h0:n=x
    · simp (disch := first | omega | (simp only [lenW] <;> omega)) only [hlt, Qa0 hx, h0, wV, simprocAttr]
      refine⟨.inr trivial,_,rfl,?_⟩
      have h1:n∈l:=h0▸List.mem_of_getElem? hx
      have h2:l.findIdx (· ==n)=i:=by
        rw[List.findIdx_eq hlt]
        refine⟨by rw[List.getElem?_eq_getElem hlt]at hx;cases hx;simp[h0],fun j hj=>?_⟩
        have:=hb j l[j] hj (List.getElem?_eq_getElem (by omega))
        simpa using this
      subst h0
      simp only[indexR,if_pos h1,h2];rfl
    · simp (disch := first | omega | (simp only [lenW] <;> omega)) only [hlt, Qa0 hx, h0, wV, simprocAttr]
      refine⟨i+1,by omega,⟨by omega,fun j y hj hy=>?_⟩,⟨[],rfl,au0,au1,au2⟩⟩
      by_cases e:j=i
      · subst e;rw[hx]at hy;cases hy;exact fun e=>h0 e.symm
      · exact hb j y (by omega) hy
  · have : n ∉ l := fun h => by
      obtain⟨j,hj,hjl⟩:=Qdq h
      exact hb j n (by omega) hj rfl
    simp(disch:=first|omega|(simp only[lenW]<;>omega)) only[hlt,wV,simprocAttr]
    exact⟨.inr trivial,_,rfl,by simp only[indexR,if_neg this];rfl⟩
theorem contains62 (l:List Int) (n:Int) (hl:l.length<=1099511627776):PSpec Tryz.prog 38 [sli l,.int .i64 n] (.bool (decide (n∈l))):=by
  refine PSpec.Qau 64 ok38 rfl (by(try simp only[noRefs,Qaa,Qaj,Qag,Qal,Qah,noRef,Bool.and_self,Bool.and_true])<;>rfl) rfl ?_
  simp(disch:=first|omega|(simp only[lenW]<;>omega)) only[s38,wV,simprocAttr]
  refine cp (index70 l n hl) ?_
  have e:decide (0<=indexR l n)=decide (n∈l):=by
    unfold indexR
    by_cases h:n∈l
    · rw[if_pos h];simp[h]
    · rw[if_neg h];simp[h]
  by_cases h:n∈l
  · have e2 : 0 <= indexR l n := by rw [decide_eq_decide] at e; exact e.2 h
    simp(disch:=first|omega|(simp only[lenW]<;>omega)) only[e2,wV,simprocAttr]
    exact⟨.inr trivial,_,rfl,by simp[resOf,QaM,h]⟩
  · have e2 : ¬ 0 <= indexR l n := by rw [decide_eq_decide] at e; exact fun h2 => h (e.1 h2)
    simp(disch:=first|omega|(simp only[lenW]<;>omega)) only[e2,wV,simprocAttr]
    exact⟨.inr trivial,_,rfl,by simp[resOf,QaM,h]⟩
end Go.AM.SE
namespace Go.AM.SE
open Go.Proofs Go.AM.SD
theorem Qcb {k:IntKind} {a i:Nat} (hi:i<=k.bits):aBin .shr (.int k (a:Int)) (.int .i64 (i:Int))=some (.int k ((a/2^i:Nat):Int)):=by
 have h1:¬(i:Int)<0:=by omega
 simp only[aBin,if_neg h1]
 have h2:min (i:Int).toNat k.bits=i:=by simp;omega
 rw[h2]
 have:(2:Int)^i=((2^i:Nat):Int):=by norm_cast
 rw[this,Int.fdiv_eq_ediv_of_nonneg _ (Int.natCast_nonneg _)]
 norm_cast
theorem and1 (n a:Nat) (hn:0<n):(BitVec.ofInt n (a:Int)&&&BitVec.ofInt n 1).toNat=a % 2:=by
 rw[BitVec.toNat_and,BitVec.toNat_ofInt,BitVec.toNat_ofInt]
 have h1:((a:Int) % ((2^n:Nat):Int)).toNat=a % 2^n:=by norm_cast
 have h2:((1:Int) % ((2^n:Nat):Int)).toNat=1:=by
  have:1 % 2^n=1:=Nat.mod_eq_of_lt (Nat.one_lt_two_pow (by omega))
  have h3:((1:Int) % ((2^n:Nat):Int))=((1 % 2^n:Nat):Int):=by norm_cast
  rw[h3,this];rfl
 rw[h1,h2,Nat.and_one_is_mod,Nat.mod_mod_of_dvd _ ⟨2^(n-1),by rw[<-Nat.pow_succ'];congr 1;omega⟩]
theorem Qcc {a:Nat}:aBin .and (.int .u8 (a:Int)) (.int .u8 1)=some (.int .u8 ((a % 2:Nat):Int)):=by
 simp only[aBin,if_true]
 rw[show IntKind.u8.bits=8 from rfl,and1 8 a (by omega),wr_u8 (by omega) (by omega)]
theorem Qc5 {s i:Nat}:(((s/2^i % 2:Nat):Int)=1)↔s.testBit i=true:=by
 rw[Nat.testBit_eq_decide_div_mod_eq,decide_eq_true_eq];omega
theorem QcQ {n b i:Nat}:SD.part (i+1) b=SD.part i b++if b.testBit i=true then[i]else[]:=by
 unfold SD.part
 rw[List.range_succ,List.filter_append]
 congr 1
 by_cases h:b.testBit i=true<;>simp[h]
theorem QcC {i b:Nat}:(SD.part i b).length<=i:=by
 unfold SD.part
 exact Nat.le_trans (List.length_filter_le _ _) (by simp)
theorem events16 (s:Nat) (hs:s<256):PSpec Tryz.prog 89 [.int .u8 s] (sliN (SD.part 5 s)):=by
  refine PSpec.of_rn 64 ok89 rfl (by(try simp only[noRefs,Qaa,Qaj,Qag,Qal,Qah,noRef,Bool.and_self,Bool.and_true])<;>rfl) (Qab _) ?_
  simp(disch:=first|omega|(simp only[lenW]<;>omega)) only[s89,wV,simprocAttr]
  refine QaJ 100 (fun i:Nat=>[(0,.int .u8 s),(3,.sl 50 0 0 (SD.part i s).length 1),(4,.int .i64 i)]) (fun i=>[(50,.cells 0 (ints (nz (SD.part i s))))]) (fun i=>i<=5) (fun i=>5-i) 0 ⟨[(50,.nil)],rfl,au0,au1,au2⟩ (Nat.zero_le _) ?_
  rintro i hi
  have hpl:=@QcC i s
  by_cases hlt:i<5
  · have hlt2 : (i : Int) < 5 := by omega
    by_cases h0:s.testBit i=true
    · have hb := Qc5.2 h0
      have hp:=QcQ (n:=5) (b:=s) (i:=i)
      rw[if_pos h0]at hp
      simp(disch:=first|omega|(simp only[lenW]<;>omega)) only[hlt2,Qcb (k:= .u8) (show i<=8 by omega),Qcc,hb,wV,simprocAttr]
      refine⟨i+1,by omega,by omega,?_⟩
      rw[hp,QaL,QaD,List.length_append]
      exact⟨[(50,.blk 50 1)],rfl,au0,au1,au2⟩
    · have hb : ¬ ((s / 2 ^ i % 2 : Nat) : Int) = 1 := fun e => h0 (Qc5.1 e)
      have hp:=QcQ (n:=5) (b:=s) (i:=i)
      rw[if_neg h0,List.append_nil]at hp
      simp(disch:=first|omega|(simp only[lenW]<;>omega)) only[hlt2,Qcb (k:= .u8) (show i<=8 by omega),Qcc,hb,wV,simprocAttr]
      refine⟨i+1,by omega,by omega,?_⟩
      rw[hp]
      exact⟨[(50,.blk 50 0)],rfl,au0,au1,au2⟩
  · have hlt2 : ¬ (i : Int) < 5 := by omega
    have e:i=5:=by omega
    subst e
    simp(disch:=first|omega|(simp only[lenW]<;>omega)) only[hlt2,wV,simprocAttr]
    refine⟨.inr trivial,_,rfl,?_⟩
    exact Rn.fz0 rfl (by simp[ints]) (RnL.same (Qaa _))
def SetOk (l:List Int) (n:Int):Prop:=(∀x∈l,0<=x/\x<n)/\l.Pairwise (· < ·)
theorem SetOk.up {l:List Int} {n:Int} (h:SetOk l n) {i:Nat} {x y:Int} (hx:l[i]?=some x) (hy:l[i+1]?=some y):x<y:=by
 obtain⟨h1,e1⟩:=List.getElem?_eq_some_iff.1 hx
 obtain⟨h2,e2⟩:=List.getElem?_eq_some_iff.1 hy
 have:=List.pairwise_iff_getElem.1 h.2 i (i+1) h1 h2 (by omega)
 rw[e1,e2]at this;exact this
theorem SetOk.nz {l:List Nat} {n:Nat} (h1:∀x∈l,x<n) (h2:l.Pairwise (· < ·)):SetOk (nz l) n:=by
 refine⟨fun x hx=>?_,?_⟩
 ·obtain ⟨a, ha, rfl⟩ := List.mem_map.1 hx
  have:=h1 a ha;omega
 ·rw[List.pairwise_map];exact h2.imp fun h=>by omega
theorem set49 (l:List Int) (n:Int) (hl:l.length<=1099511627776) (h:SetOk l n):PSpec Tryz.prog 192 [sli l,.int .i64 n] (.int .i64 0):=by
  refine PSpec.Qau 64 ok192 rfl (by(try simp only[noRefs,Qaa,Qaj,Qag,Qal,Qah,noRef,Bool.and_self,Bool.and_true])<;>rfl) rfl ?_
  simp(disch:=first|omega|(simp only[lenW]<;>omega)) only[s192,wV,simprocAttr]
  refine QaJ 100 (fun i:Nat=>[(0,sli l),(1,.int .i64 n),(7,sli l),(8,.int .i64 l.length),(9,.int .i64 i)]) (fun _=>[]) (fun i=>i<=l.length) (fun i=>l.length-i) 0 ⟨[],rfl,au0,au1,au2⟩ (Nat.zero_le _) ?_
  rintro i hi
  by_cases hlt:i<l.length
  · obtain ⟨x, hx⟩ := Qak hlt
    obtain⟨h1,h2⟩:=h.1 x (List.mem_of_getElem? hx)
    have h1':¬x<0:=by omega
    have h2':¬n<=x:=by omega
    by_cases h0:i=0
    · have h4 : ¬ (0 : Int) < (i : Int) := by omega
      simp(disch:=first|omega|(simp only[lenW]<;>omega)) only[hlt,Qa0 hx,h1',h2',h4,wV,simprocAttr]
      exact⟨i+1,by omega,by omega,⟨[],rfl,au0,au1,au2⟩⟩
    · obtain ⟨y, hy⟩ := Qak (l := l) (i := i - 1) (by omega)
      have h3:=h.up hy (by rw[show i-1+1=i by omega];exact hx)
      have h3':¬x<=y:=by omega
      have h4:(0:Int)<(i:Int):=by omega
      have h5:(i:Int)-1=((i-1:Nat):Int):=by omega
      have h6:((i-1:Nat):Int)<l.length:=by omega
      simp(disch:=first|omega|(simp only[lenW]<;>omega)) only[hlt,Qa0 hx,h1',h2',h4,h5,h6,Qa0 hy,h3',wV,simprocAttr]
      exact⟨i+1,by omega,by omega,⟨[],rfl,au0,au1,au2⟩⟩
  · simp (disch := first | omega | (simp only [lenW] <;> omega)) only [hlt, wV, simprocAttr]
    exact⟨.inr trivial,_,rfl,rfl⟩
end Go.AM.SE
namespace Go.AM.SE
open Go.Proofs Go.AM.SD
structure EgsOk (a:Au):Prop where
 len:a.es.length<=1099511627776
 all:a.al.length<=1099511627776
 fr:∀e∈a.es,0<=e.fr/\e.fr<a.n
 to:∀e∈a.es,0<=e.to/\e.to<a.n
 ev:∀e∈a.es,e.ev∈a.al
 up:a.es.Pairwise fun x y=>x.fr<y.fr\/(x.fr=y.fr/\x.ev<y.ev)
theorem EgsOk.step {a:Au} (h:EgsOk a) {i:Nat} {x y:Eg} (hx:a.es[i]?=some x) (hy:a.es[i+1]?=some y):x.fr<y.fr\/(x.fr=y.fr/\x.ev<y.ev):=by
 obtain⟨h1,e1⟩:=List.getElem?_eq_some_iff.1 hx
 obtain⟨h2,e2⟩:=List.getElem?_eq_some_iff.1 hy
 have:=List.pairwise_iff_getElem.1 h.up i (i+1) h1 h2 (by omega)
 rw[e1,e2]at this;exact this
theorem edges50 (a : Au) (h : EgsOk a) : PSpec Tryz.prog 193 [auV a] (.int .i64 0) := by
  refine PSpec.Qau 64 ok193 rfl (by(try simp only[noRefs,Qaa,Qaj,Qag,Qal,Qah,noRef,Bool.and_self,Bool.and_true])<;>rfl) rfl ?_
  have hl:=h.len
  simp(disch:=first|omega|(simp only[lenW]<;>omega)) only[s193,wV,simprocAttr]
  refine QaJ 100 (fun i:Nat=>[(1,.ptr 50 0 0),(7,egs a.es),(8,.int .i64 a.es.length),(9,.int .i64 i)]) (fun _=>[(50,.cells 0 [sli a.al,.int .i64 a.n,sli a.ms,egs a.es])]) (fun i=>i<=a.es.length) (fun i=>a.es.length-i) 0 ⟨[(50,.blk 64 0)],rfl,au0,au1,au2⟩ (Nat.zero_le _) ?_
  rintro i hi
  by_cases hlt:i<a.es.length
  · obtain ⟨x, hx⟩ := Qak hlt
    have hm:=List.mem_of_getElem? hx
    obtain⟨f1,f2⟩:=h.fr x hm
    obtain⟨t1,t2⟩:=h.to x hm
    have f1':¬x.fr<0:=by omega
    have f2':¬a.n<=x.fr:=by omega
    have t1':¬x.to<0:=by omega
    have t2':¬a.n<=x.to:=by omega
    have hev:decide (x.ev∈a.al)=true:=decide_eq_true (h.ev x hm)
    simp(disch:=first|omega|(simp only[lenW]<;>omega)) only[hlt,QcA hx,f1',f2',t1',t2',wV,simprocAttr]
    refine cp (contains62 a.al x.ev h.all) ?_
    rw[hev]
    by_cases h0:i=0
    · have h4 : (i : Int) = 0 := by omega
      simp(disch:=first|omega|(simp only[lenW]<;>omega)) only[hlt,QcA hx,h4,wV,simprocAttr]
      exact⟨1,by omega,by omega,⟨[(50,.blk 50 0)],rfl,au0,au1,au2⟩⟩
    · obtain ⟨y, hy⟩ := Qak (l := a.es) (i := i - 1) (by omega)
      have h4:¬(i:Int)=0:=by omega
      have h5:(i:Int)-1=((i-1:Nat):Int):=by omega
      have h6:((i-1:Nat):Int)<a.es.length:=by omega
      rcases h.step hy (by rw[show i-1+1=i by omega];exact hx)with h3|⟨h3,h3b⟩
      · have g1 : ¬ x.fr < y.fr := by omega
        have g2:¬x.fr=y.fr:=by omega
        simp(disch:=first|omega|(simp only[lenW]<;>omega)) only[hlt,QcA hx,h4,h5,h6,QcA hy,g1,g2,wV,simprocAttr]
        exact⟨i+1,by omega,by omega,⟨[(50,.blk 50 0)],rfl,au0,au1,au2⟩⟩
      · have g1 : ¬ x.fr < y.fr := by omega
        have g2:x.fr=y.fr:=by omega
        have g3:¬x.ev<=y.ev:=by omega
        simp(disch:=first|omega|(simp only[lenW]<;>omega)) only[hlt,QcA hx,h4,h5,h6,QcA hy,g1,g2,g3,wV,simprocAttr]
        exact⟨i+1,by omega,by omega,⟨[(50,.blk 50 0)],rfl,au0,au1,au2⟩⟩
  · simp (disch := first | omega | (simp only [lenW] <;> omega)) only [hlt, wV, simprocAttr]
    exact⟨.inr trivial,_,rfl,rfl⟩
structure AuOk (a:Au):Prop extends EgsOk a where
 alS:SetOk a.al 32
 msS:SetOk a.ms a.n
 mslen:a.ms.length<=1099511627776
 n0:0<=a.n
 nm:a.n<=4096
theorem check37 (a:Au) (h:AuOk a):PSpec Tryz.prog 112 [auV a] (.int .i64 0):=by
 refine PSpec.Qau 64 ok112 rfl (by(try simp only[noRefs,Qaa,Qaj,Qag,Qal,Qah,noRef,Bool.and_self,Bool.and_true])<;>rfl) rfl ?_
 have h1:¬a.n<0:=by have:=h.n0;omega
 have h2:¬4096<a.n:=by have:=h.nm;omega
 simp(disch:=first|omega|(simp only[lenW]<;>omega)) only[s112,wV,simprocAttr]
 refine cp (set49 a.al 32 h.all h.alS) ?_
 simp(disch:=first|omega|(simp only[lenW]<;>omega)) only[h1,h2,wV,simprocAttr]
 refine cp (set49 a.ms a.n h.mslen h.msS) ?_
 simp(disch:=first|omega|(simp only[lenW]<;>omega)) only[wV,simprocAttr]
 refine cp (edges50 a h.toEgsOk) ?_
 simp(disch:=first|omega|(simp only[lenW]<;>omega)) only[wV,simprocAttr]
 exact⟨.inr trivial,_,rfl,rfl⟩
end Go.AM.SE
namespace Go.AM.SE
open Go.Proofs Go.AM.SD
abbrev backF (es:List Ed):Nat->AV:=fun k=>sliN (preds es k)
end Go.AM.SE
namespace Go.AM.SE
open Go.Proofs Go.AM.SD
theorem QcL {f:Nat->AV} (h:∀x,noRef (f x)=true) (l:List Nat):noRefs (l.map f)=true:=by
 induction l with
 |nil=>rfl
 |cons x l ih=>simp only[List.map_cons,noRefs,h,ih];rfl
theorem Qao (k:IntKind) (l:List Nat):noRefs (l.map fun x:Nat=>AV.int k (x:Int))=true:=QcL (fun _=>rfl) l
theorem Qat (es:List Ed) (l:List Nat):noRefs (l.map (backF es))=true:=QcL (fun x=>Qab _) l
theorem Qnq (n:Nat) (x:Int):(List.replicate n [AV.int .i64 x]).flatten=ints (List.replicate n x):=by
 induction n with
 |zero=>rfl
 |succ n ih=>rw[List.replicate_succ,List.flatten_cons,ih];rfl
theorem Qmn {n i:Nat} (h:i<n):(List.replicate i (-1:Int)++List.replicate (n-i) 0).set i (-1)=List.replicate (i+1) (-1)++List.replicate (n-(i+1)) 0:=by
 rw[List.set_append_right _ _ (by simp),List.length_replicate,Nat.sub_self,show n-i=(n-(i+1))+1 by omega,List.replicate_succ,List.set_cons_zero,List.replicate_succ',List.append_assoc];rfl
theorem Qee {l:List Int} {i:Nat} {x:Int}:(ints l).set i (.int .i64 x)=ints (l.set i x):=by simp[ints,List.map_set]
theorem Qdr {l:List Int} {i:Nat} {x:Int} (h:l[i]?=some x):(ints l)[i]?=some (.int .i64 x):=by simp[ints,h]
theorem Qcd {l:List Int} {i:Nat} (h:i<l.length):(ints l)[i]?=some (.int .i64 (l.getD i 0)):=by simp[ints,h]
end Go.AM.SE
namespace Go.AM.SE
open Go.Proofs Go.AM.SD
def bkC (rank:Int) (x:Nat):List AV:=[.int .i64 (x:Int),.int .i64 rank,.int .i64 3,.int .i64 (-1)]
theorem Qbn (rank:Int) (l:List Nat):noRefs (l.flatMap (bkC rank))=true:=QaW (fun x=>rfl) l
def lsC (rank:Int) (p:Nat×Nat):List AV:=[.int .i64 (p.1:Int),.int .i64 rank,.int .i64 2,.int .i64 (p.2:Int)]
theorem Qaz (rank:Int) (l:List (Nat×Nat)):noRefs (l.flatMap (lsC rank))=true:=QaW (fun x=>rfl) l
end Go.AM.SE
namespace Go.AM.SE
open Go.Proofs Go.AM.SD
theorem Qmo (l:List Int):flatVs (ints l)=true:=by
 induction l with
 |nil=>rfl
 |cons x l ih=>simp only[ints,List.map_cons,flatVs,flatV,Bool.true_and];exact ih
theorem FrzTo.all {h:Heap} {b g len sz:Nat} {cs:List AV} (hb:h.get b=some (.cells g cs)) (hl:cs.length=len*sz):FrzTo h (.sl b g 0 len sz) (.fsl cs len sz):=by
 refine FrzTo.sl hb (by omega) ?_
 rw[List.drop_zero,<-hl,List.take_length]
 exact FrzL.same _
theorem WfA.auOk {a:Aut} (h:WfA a) (hel:a.es.length<=1000000):AuOk (au a):=by
 have hal:a.al.length<=5:=by
  have:=QaQ 5 a.al (by rw[List.nodup_iff_pairwise_ne];exact h.al.imp fun h=>by omega) h.al5
  exact this
 have hms:a.ms.length<=a.n:=QaQ a.n a.ms h.nd h.msn
 have hn5:=h.n5
 refine{len:=?_,all:=?_,fr:=?_,to:=?_,ev:=?_,up:=?_,alS:=SetOk.nz (n:=32) (fun x hx=>by have:=h.al5 x hx;omega) h.al,msS:=SetOk.nz h.msn h.ms,mslen:=?_,n0:=?_,nm:=?_}
 ·show(a.es.map eg).length<=_;simp;omega
 ·show(nz a.al).length<=_;simp;omega
 ·intro e he
  obtain⟨x,hx,rfl⟩:=List.mem_map.1 he
  have:=h.esn x hx
  show(0:Int)<=x.1/\(x.1:Int)<a.n
  omega
 ·intro e he
  obtain⟨x,hx,rfl⟩:=List.mem_map.1 he
  have:=h.esn x hx
  show(0:Int)<=x.2.2/\(x.2.2:Int)<a.n
  omega
 ·intro e he
  obtain⟨x,hx,rfl⟩:=List.mem_map.1 he
  exact List.mem_map.2 ⟨x.2.1,h.ev x hx,rfl⟩
 ·show (a.es.map eg).Pairwise _
  rw[List.pairwise_map]
  refine h.es.imp fun h=>?_
  show(_:Int)<_\/(_:Int)=_/\(_:Int)<_
  simp only[eg]
  omega
 ·show(nz a.ms).length<=_;simp;omega
 ·show(0:Int)<=(a.n:Int);omega
 ·show(a.n:Int)<=4096;omega
structure QOk (a:Aut) (f u:List Nat):Prop where
 fS:f.Pairwise (· < ·)
 fn:∀x∈f,x<a.n
 uS:u.Pairwise (· < ·)
 un:∀x∈u,x<32
theorem Qcn {l:List Nat} {n:Nat} (h:l.Pairwise (· < ·)) (hn:∀x∈l,x<n):l.length<=n:=QaQ n l (by rw[List.nodup_iff_pairwise_ne];exact h.imp fun h=>by omega) hn
end Go.AM.SE
namespace Go.AM.SD
end Go.AM.SD
namespace Go.AM.SE
open Go.Proofs Go.AM.SD
end Go.AM.SE
namespace Go.AM.SE
open Go.Proofs Go.AM.SD
theorem Qll:aEq (.nil 2) false .nilsl .nilsl=some (.bool true):=rfl
theorem Qlm:aEq (.nil 2) false .nsl .nilsl=some (.bool false):=rfl
theorem QjW {P:Program} {N:NM} {n:Nat} {d:Option Nat} {dead:List Nat} {r:List SOper} {T:Tmps} {h:Heap} {Q:QC} {fs:List Fr} {sz bytes b2 g2 off2 len2:Nat}:wM P N (aAppend .dyn n sz bytes (.sl b2 g2 off2 len2 sz) .nsl) d r dead fs n T h Q=
  wA P N (srcB (h.get b2) g2 off2 len2 sz) (some []) g2 len2 0 sz bytes b2 d r dead fs n T h Q:=QdH
theorem _root_.Go.AM.au3 {p:Prop} (h:p:=by repeat' (first|exact RB.nil|(refine RnL.same ?_;first|rfl|(simp only[noRef,noRefs,Qai,Bool.and_self,Bool.and_true,Bool.true_and,Qaa,Qaj,Qag,Qal,Qaz,Qbn,Qah,Qay,Qab,Qa7,Qax,Qao,Qat];done))|exact RnM.keyM rfl|exact RnL.nil|exact(True.intro:RnM _ _ _ [] [])|refine RnL.cons ?_ ?_|(refine Rn.same ?_;first|rfl|(simp only[noRef,noRefs,Qai,Bool.and_self,Bool.and_true,Bool.true_and,Qaa,Qaj,Qag,Qal,Qaz,Qbn,Qah,Qay,Qab,Qa7,Qax,Qao,Qat];done))|exact Rn.x1 rfl rfl|exact Rn.x2 rfl rfl|exact Rn.x3 rfl rfl|exact Rn.x4 rfl rfl|exact Rn.x5 rfl|exact Rn.x6 rfl|exact Rn.x7 rfl|refine RB.newnil rfl rfl ?_|refine RB.cells rfl rfl rfl ?_ ?_|refine RB.map rfl rfl rfl ?_ ?_|refine RB.cellsB rfl rfl ?_ ?_|refine RB.mapB rfl rfl ?_ ?_)):p:=h
theorem _root_.Go.AM.au4 {p:Prop} (h:p:=by repeat (first|exact RT.nil|(refine RT.cons ?_ ?_; · (first|exact Rn.any|exact Rn.x1 rfl rfl|exact Rn.x2 rfl rfl|exact Rn.x3 rfl rfl|exact Rn.x4 rfl rfl|exact Rn.x5 rfl|exact Rn.x6 rfl|exact Rn.x7 rfl|(refine Rn.slot ?_ ?_;(first|rfl|(rw[Int.natCast_add];rfl));(first|rfl|(simp only[noRef,noRefs,Qai,Bool.and_self,Bool.and_true,Bool.true_and,Qaa,Qaj,Qag,Qal,Qaz,Qbn,Qah,Qay,Qab,Qa7,Qax,Qao,Qat];done)))|(refine Rn.fn ?_ ?_<;>(repeat' (first|exact RnL.nil|refine RnL.cons ?_ ?_|exact Rn.same rfl|exact Rn.x6 rfl|exact Rn.x2 rfl rfl|exact Rn.x5 rfl|exact Rn.x1 rfl rfl))))))):p:=h
theorem Qmp:HSpec Tryz.prog 41 [.nilsl] .e (.sl 83 0 0 0 1) (hp [(83,.cells 0 [])]):=by
 refine HSpec.Qgs 100 ok41 rfl ?_
 simp(disch:=first|omega|(simp only[lenW]<;>omega)) only[s41,Qll,wW,wV,simprocAttr]
 exact⟨.inr trivial,_,rfl,⟨[(83,.nil)],rfl,au0,au3,au4⟩⟩
theorem Qmq:HSpec Tryz.prog 41 [.nsl] .e (.sl 83 0 0 0 1) (hp [(83,.cells 0 [])]):=by
 refine HSpec.Qgs 100 ok41 rfl ?_
 simp(disch:=first|omega|(simp only[lenW]<;>omega)) only[s41,Qlm,QjW,wW,wV,simprocAttr]
 exact⟨.inr trivial,_,rfl,⟨[(83,.blk 103 1)],rfl,au0,au3,au4⟩⟩
theorem clone56 (l:List Nat) (hl:l.length<=1000000):HSpec Tryz.prog 41 [sliN l] .e (.sl 83 0 0 l.length 1) (hp [(83,.cells 0 (ints (nz l)))]):=by
 cases l with
 |nil=>exact HSpec.empty Qmp Qmq
 |cons x l=>
  refine HSpec.Qgs 100 ok41 rfl ?_
  have hq:aEq (.nil 2) false (sliN (x::l)) .nilsl=some (.bool false):=rfl
  have hone:(ints (nz (x::l))).all AV.one=true:=by simp[ints,AV.one]
  generalize x::l=q at*
  simp(disch:=first|omega|(simp only[lenW]<;>omega)) only[s41,hq,hone,wW,wV,simprocAttr]
  exact⟨.inr trivial,_,rfl,⟨[(83,.blk 103 1)],rfl,au0,au3,au4⟩⟩
end Go.AM.SE
namespace Go.AM.SE
open Go.Proofs Go.AM.SD
abbrev frzE (es:List Ed) (left:Nat->Bool):Nat->AV:=fun k=>egsN (sOut es left k)
theorem QbH (es:List Ed) (left:Nat->Bool) (l:List Nat):noRefs (l.map (frzE es left))=true:=QcL (fun x=>Qax _) l
theorem QbQ (l:List Ed):(l.flatMap edC).length=l.length*3:=Qbr (f:=edC) (k:=3) (fun _=>rfl) l
theorem QfN (es:List Ed) (left:Nat->Bool) (v:Nat):(sOut es left v).length<=es.length:=by
 unfold sOut;exact List.length_filter_le _ _
def mks (a:Aut) (i:Nat) (o:List Nat):List Nat:=(List.range i).filter fun j=>a.ms.contains (o.getD j 0)
theorem QkE {a:Aut} {i:Nat} {o:List Nat}:(mks a i o).length<=i:=by
 unfold mks;exact Nat.le_trans (List.length_filter_le _ _) (by simp)
theorem Qn1 {a:Aut} {i:Nat} {o t:List Nat} (h:i<=o.length):mks a i (o++t)=mks a i o:=by
 unfold mks
 refine List.filter_congr fun j hj=>?_
 have:=List.mem_range.1 hj
 rw[List.getD_eq_getElem?_getD,List.getD_eq_getElem?_getD,List.getElem?_append_left (by omega)]
theorem Qjc {a:Aut} {i v:Nat} {o:List Nat} (h:o[i]?=some v):mks a (i+1) o=mks a i o++if a.ms.contains v then[i]else[]:=by
 unfold mks
 rw[List.range_succ,List.filter_append]
 congr 1
 have:o.getD i 0=v:=by rw[List.getD_eq_getElem?_getD,h];rfl
 rw[List.filter_cons,this];rfl
theorem QhQ {i:Nat} {s:OE} {es:List Ed} {j:Nat} {e:Ed} (h:es[j]?=some e):(es.take (j+1)).foldl (sEd i) s=sEd i ((es.take j).foldl (sEd i) s) e:=by
 rw[List.take_add_one,h,Option.toList,List.foldl_append];rfl
theorem Qds {i:Nat}:∀(es:List Ed) (s:OE),(es.foldl (sEd i) s).2.length=s.2.length+es.length
 |[],s=>by simp
 |e::es,s=>by
  rw[List.foldl_cons,Qds es]
  unfold sEd;split<;>simp<;>omega
end Go.AM.SE
namespace Go.AM.SE
open Go.Proofs Go.AM.SD
end Go.AM.SE
namespace Go.AM.SE
open Go.Proofs Go.AM.SD
def mach:Aut:=⟨[0,1,2,3],3,[0],[(0,0,1),(1,1,0),(1,2,2),(2,3,0)]⟩
def mach3:Aut:=⟨[0,1,2,3],3,[0],[(0,0,1),(1,1,0),(1,2,2)]⟩
theorem q1:QOk mach [2] [1,2]:=⟨by decide,by decide,by decide,by decide⟩
theorem q2:QOk mach3 [] [1,2]:=⟨by decide,by decide,by decide,by decide⟩
end Go.AM.SE
namespace Go.AM.SE
open Go.Proofs Go.AM.SD
theorem Qn2 {α:Type} {p:α->Bool} {l:List α} {i:Nat} {x:α} (hx:l[i]?=some x) (hp:p x=true) (hb:∀j y,j<i->l[j]?=some y->p y=false):l.find? p=some x:=by
 obtain⟨hi,e⟩:=List.getElem?_eq_some_iff.1 hx
 rw[List.find?_eq_some_iff_getElem]
 refine⟨hp,i,hi,e,fun j hj=>?_⟩
 have:=hb j l[j] hj (List.getElem?_eq_getElem (by omega))
 simp[this]
def stepI (es:List Ed) (s ev:Nat):Int:=match stepA es s ev with|some to=>(to:Int)|none=> -1
theorem _root_.Go.AM.au5 {p:Prop} (h:p:=by repeat' (first|exact RB.nil|(refine RnL.same ?_;first|rfl|(simp only[noRef,noRefs,Qai,Bool.and_self,Bool.and_true,Bool.true_and,Qaa,Qaj,Qag,Qal,Qaz,Qbn,Qah,Qay,Qab,Qa7,Qax,Qao,Qat,QbH];done))|exact RnM.keyM rfl|exact RnL.nil|exact(True.intro:RnM _ _ _ [] [])|refine RnL.cons ?_ ?_|(refine Rn.same ?_;first|rfl|(simp only[noRef,noRefs,Qai,Bool.and_self,Bool.and_true,Bool.true_and,Qaa,Qaj,Qag,Qal,Qaz,Qbn,Qah,Qay,Qab,Qa7,Qax,Qao,Qat,QbH];done))|exact Rn.x1 rfl rfl|exact Rn.x2 rfl rfl|exact Rn.x3 rfl rfl|exact Rn.x4 rfl rfl|exact Rn.x5 rfl|exact Rn.x6 rfl|exact Rn.x7 rfl|refine RB.newnil rfl rfl ?_|refine RB.cells rfl rfl rfl ?_ ?_|refine RB.map rfl rfl rfl ?_ ?_|refine RB.cellsB rfl rfl ?_ ?_|refine RB.mapB rfl rfl ?_ ?_)):p:=h
theorem _root_.Go.AM.au6 {p:Prop} (h:p:=by repeat (first|exact RT.nil|(refine RT.cons ?_ ?_; · (first|exact Rn.any|exact Rn.x1 rfl rfl|exact Rn.x2 rfl rfl|exact Rn.x3 rfl rfl|exact Rn.x4 rfl rfl|exact Rn.x5 rfl|exact Rn.x6 rfl|exact Rn.x7 rfl|(refine Rn.slot ?_ ?_;(first|rfl|(rw[Int.natCast_add];rfl));(first|rfl|(simp only[noRef,noRefs,Qai,Bool.and_self,Bool.and_true,Bool.true_and,Qaa,Qaj,Qag,Qal,Qaz,Qbn,Qah,Qay,Qab,Qa7,Qax,Qao,Qat,QbH];done)))|(refine Rn.fn ?_ ?_<;>(repeat' (first|exact RnL.nil|refine RnL.cons ?_ ?_|exact Rn.same rfl|exact Rn.x6 rfl|exact Rn.x2 rfl rfl|exact Rn.x5 rfl|exact Rn.x1 rfl rfl))))))):p:=h
theorem step60 (a : Aut) (s ev : Nat) (hel : a.es.length <= 1000000) : PSpec Tryz.prog 62 [aV a, .int .i64 s, .int .i64 ev] (.int .i64 (stepI a.es s ev)) := by
  refine PSpec.Qau 64 ok62 rfl (by(try simp only[noRefs,Qao,Qat,Qaa,Qaj,Qag,Qal,Qaz,Qah,noRef,Bool.and_self,Bool.and_true])<;>rfl) rfl ?_
  simp(disch:=first|omega|(simp only[lenW]<;>omega)) only[s62,wW,wV,simprocAttr]
  refine QaJ 100 (fun i:Nat=>[(1,.int .i64 s),(2,.int .i64 ev),(3,.ptr 50 0 0),(7,.int .i64 i)]) (fun _=>[(50,.cells 0 [sliN a.al,.int .i64 (a.n:Int),sliN a.ms,egsN a.es])])
    (fun i=>i<=a.es.length/\∀(j:Nat) y,j<i->a.es[j]?=some y->(y.1==s&&y.2.1==ev)=false) (fun i=>a.es.length-i) 0 ⟨[(50,.blk 64 0)],rfl,au0,au5,au6⟩ ⟨Nat.zero_le _,fun j y hj=>absurd hj (Nat.not_lt_zero _)⟩ ?_
  rintro i ⟨hi,hb⟩
  by_cases hlt:i<a.es.length
  · obtain ⟨e, he⟩ := Qak hlt
    have hno:(e.1==s&&e.2.1==ev)=false->i+1<=a.es.length/\∀(j:Nat) y,j<i+1->a.es[j]?=some y->(y.1==s&&y.2.1==ev)=false:=fun h=>⟨by omega,fun j y hj hy=>by
      by_cases e2:j=i
      · subst e2;rw[he]at hy;cases hy;exact h
      · exact hb j y (by omega) hy⟩
    by_cases h1:e.1=s
    · by_cases h2 : e.2.1 = ev
      · have hf := Qn2 (p := fun e : Ed => e.1 == s && e.2.1 == ev) he (by simp [h1, h2]) hb
        have hs:stepI a.es s ev=e.2.2:=by unfold stepI stepA;rw[hf];rfl
        have h1':(e.1:Int)=(s:Int):=by omega
        have h2':(e.2.1:Int)=(ev:Int):=by omega
        simp(disch:=first|omega|(simp only[lenW]<;>omega)) only[hlt,QaR he,h1',h2',wW,wV,simprocAttr]
        exact⟨.inr trivial,_,rfl,by rw[hs];rfl⟩
      · have h1' : (e.1 : Int) = (s : Int) := by omega
        have h2':¬(e.2.1:Int)=(ev:Int):=by omega
        simp(disch:=first|omega|(simp only[lenW]<;>omega)) only[hlt,QaR he,h1',h2',wW,wV,simprocAttr]
        exact⟨i+1,by omega,hno (by simp[h2]),⟨[(50,.blk 50 0)],rfl,au0,au5,au6⟩⟩
    · have h1' : ¬ (e.1 : Int) = (s : Int) := by omega
      simp(disch:=first|omega|(simp only[lenW]<;>omega)) only[hlt,QaR he,h1',wW,wV,simprocAttr]
      exact⟨i+1,by omega,hno (by simp[h1]),⟨[(50,.blk 50 0)],rfl,au0,au5,au6⟩⟩
  · have hf : a.es.find? (fun e => e.1 == s && e.2.1 == ev) = none := by
      rw[List.find?_eq_none]
      intro y hy
      obtain⟨j,hj,hjl⟩:=Qdq hy
      rw[hb j y (by omega) hj];decide
    have hs:stepI a.es s ev= -1:=by unfold stepI stepA;rw[hf];rfl
    simp(disch:=first|omega|(simp only[lenW]<;>omega)) only[hlt,wW,wV,simprocAttr]
    exact⟨.inr trivial,_,rfl,by rw[hs];rfl⟩
theorem index61 (l : List Int) (n : Int) (hl : l.length <= 1099511627776) : PSpec Tryz.prog 261 [sli l, .int .i64 n] (.int .i64 (indexR l n)) := by
  refine PSpec.Qau 64 ok261 rfl (by(try simp only[noRefs,Qao,Qat,Qaa,Qaj,Qag,Qal,Qaz,Qah,noRef,Bool.and_self,Bool.and_true])<;>rfl) rfl ?_
  simp(disch:=first|omega|(simp only[lenW]<;>omega)) only[s261,wW,wV,simprocAttr]
  refine QaJ 100 (fun i:Nat=>[(0,sli l),(1,.int .i64 n),(5,.int .i64 i)]) (fun _=>[]) (fun i=>i<=l.length/\∀(j:Nat) y,j<i->l[j]?=some y->y≠n) (fun i=>l.length-i) 0 ⟨[],rfl,au0,au5,au6⟩ ⟨Nat.zero_le _,fun j y hj=>absurd hj (Nat.not_lt_zero _)⟩ ?_
  rintro i ⟨hi,hb⟩
  by_cases hlt:i<l.length
  · obtain ⟨x, hx⟩ := Qak hlt
    by_cases h0:x=n
    · have h1 : n ∈ l := h0 ▸ List.mem_of_getElem? hx
      have h2:l.findIdx (· ==n)=i:=by
        rw[List.findIdx_eq hlt]
        refine⟨by rw[List.getElem?_eq_getElem hlt]at hx;cases hx;simp[h0],fun j hj=>?_⟩
        have:=hb j l[j] hj (List.getElem?_eq_getElem (by omega))
        simpa using this
      simp(disch:=first|omega|(simp only[lenW]<;>omega)) only[hlt,Qa0 hx,h0,wW,wV,simprocAttr]
      refine⟨.inr trivial,_,rfl,?_⟩
      simp only[indexR,if_pos h1,h2];rfl
    · simp (disch := first | omega | (simp only [lenW] <;> omega)) only [hlt, Qa0 hx, h0, wW, wV, simprocAttr]
      refine⟨i+1,by omega,⟨by omega,fun j y hj hy=>?_⟩,⟨[],rfl,au0,au5,au6⟩⟩
      by_cases e:j=i
      · subst e;rw[hx]at hy;cases hy;exact h0
      · exact hb j y (by omega) hy
  · have : n ∉ l := fun h => by
      obtain⟨j,hj,hjl⟩:=Qdq h
      exact hb j n (by omega) hj rfl
    simp(disch:=first|omega|(simp only[lenW]<;>omega)) only[hlt,wW,wV,simprocAttr]
    exact⟨.inr trivial,_,rfl,by simp only[indexR,if_neg this];rfl⟩
theorem Qjd {l:List Nat} {x:Nat} (h:x∈l):indexR (nz l) x=idx l x:=by
  have h1:(x:Int)∈nz l:=List.mem_map.2 ⟨x,h,rfl⟩
  unfold indexR
  rw[if_pos h1]
  unfold idx nz
  rw[List.findIdx_map]
  congr 2
  funext y
  show((y:Int)==(x:Int))=(y==x)
  by_cases e:y=x
  · subst e;simp
  · have : ¬ (y : Int) = (x : Int) := by omega
    rw[beq_eq_false_iff_ne.2 this,beq_eq_false_iff_ne.2 e]
theorem QhR {al:List Nat} {es:List Ed} {s:Nat} {out:List Nat} {k ev:Nat} (h:al[k]?=some ev):(al.take (k+1)).foldl (fEv es s) out=fEv es s ((al.take k).foldl (fEv es s) out) ev:=by
 rw[List.take_add_one,h,Option.toList,List.foldl_append];rfl
structure Raw (a:Aut):Prop where
 esn:∀e∈a.es,e.1<a.n/\e.2.2<a.n
 n5:a.n<=5
 el:a.es.length<=1000000
 al:a.al.length<=32
 ml:a.ms.length<=32
theorem found59 (a : Aut) (h : Raw a) : PSpec Tryz.prog 259 [aV a] (sliN (found a)) := by
  have hn5:=h.n5
  have hal:=h.al
  refine PSpec.of_rn 64 ok259 rfl (by(try simp only[noRefs,Qao,Qat,Qaa,Qaj,Qag,Qal,Qaz,Qah,noRef,Bool.and_self,Bool.and_true])<;>rfl) (Qab _) ?_
  have hfin:fQ a.al a.es (a.n+1) 0 (if 0<a.n then[0]else[])=found a:=rfl
  by_cases h0:0<a.n
  · rw [if_pos h0] at hfin
    have h0':(0:Int)<(a.n:Int):=by omega
    simp(disch:=first|omega|(simp only[lenW]<;>omega)) only[s259,h0',Qi3,Qnl,wW,wV,simprocAttr]
    refine QaJ 100 (fun t:Nat×List Nat=>[(1,.ptr 50 0 0),(3,.sl 75 0 0 t.2.length 1),(4,.int .i64 t.1)]) (fun t=>[(50,.cells 0 [sliN a.al,.int .i64 (a.n:Int),sliN a.ms,egsN a.es]),(75,.cells 0 (ints (nz t.2)))])
      (fun t=>t.1<=t.2.length/\FI a.n t.2/\fQ a.al a.es (a.n+1-t.1) t.1 t.2=found a) (fun t=>a.n+1-t.1) (0,[0]) ?_ ⟨Nat.zero_le _,⟨by simp,fun x hx=>by simp at hx;omega⟩,by dsimp only;exact hfin⟩ ?_
    · exact⟨[(50,.blk 64 0),(75,.blk 72 0)],rfl,au0,au5,au6⟩
    rintro⟨i,out⟩ ⟨hi,hfi,hq⟩
    dsimp only at hi hfi hq⊢
    have hfl:=hfi.len
    by_cases hlt:i<out.length
    · obtain ⟨s, hs⟩ := Qak hlt
      have hq':fQ a.al a.es (a.n+1-(i+1)) (i+1) (fRow a.al a.es s out)=found a:=by
        rw[<-hq,show a.n+1-i=(a.n+1-(i+1))+1 by omega]
        simp only[fQ,hs]
      have hrow:=fun k=>FI.row h.esn s (a.al.take k) out hfi
      simp(disch:=first|omega|(simp only[lenW]<;>omega)) only[hlt,wW,wV,simprocAttr]
      refine Qar 200 (fun k:Nat=>[(1,.ptr 50 0 0),(3,.sl 75 0 0 ((a.al.take k).foldl (fEv a.es s) out).length 1),(4,.int .i64 i),(5,.int .i64 k)]) (fun k=>[(50,.cells 0 [sliN a.al,.int .i64 (a.n:Int),sliN a.ms,egsN a.es]),(75,.cells 0 (ints (nz ((a.al.take k).foldl (fEv a.es s) out))))])
        (fun k=>k<=a.al.length) (fun k=>a.al.length-k) 0 2 300
        (fun _:Unit=>[(1,.ptr 50 0 0),(3,.sl 75 0 0 (fRow a.al a.es s out).length 1),(4,.int .i64 i)]) (fun _=>[(50,.cells 0 [sliN a.al,.int .i64 (a.n:Int),sliN a.ms,egsN a.es]),(75,.cells 0 (ints (nz (fRow a.al a.es s out))))]) (fun _=>True) ?_ (Nat.zero_le _) ?_ ?_
      · exact⟨[(50,.blk 50 0),(75,.blk 75 0)],rfl,au0,au5,au6⟩
      · rintro k hk
        by_cases hkl:k<a.al.length
        · obtain ⟨ev, hev⟩ := Qak hkl
          have hstep:=QhR (es:=a.es) (s:=s) (out:=out) hev
          obtain⟨k1,⟨t,ht⟩,_⟩:=hrow k
          have hol:=k1.len
          have hs2:((a.al.take k).foldl (fEv a.es s) out)[i]?=some s:=by rw[ht,List.getElem?_append_left hlt];exact hs
          generalize (a.al.take k).foldl (fEv a.es s) out=o at*
          have hil:i<o.length:=(List.getElem?_eq_some_iff.1 hs2).1
          simp(disch:=first|omega|(simp only[lenW]<;>omega)) only[hkl,hil,Qdr (nz_at hs2),QaI hev,wW,wV,simprocAttr]
          refine cp (step60 a s ev h.el) ?_
          cases hst:stepA a.es s ev with
          | none =>
            have h1:stepI a.es s ev= -1:=by unfold stepI;rw[hst]
            have h2:fEv a.es s o ev=o:=by unfold fEv;rw[hst]
            rw[h2]at hstep
            rw[h1]
            simp(disch:=first|omega|(simp only[lenW]<;>omega)) only[wW,wV,simprocAttr]
            refine⟨k+1,by omega,by omega,?_⟩
            rw[hstep]
            exact⟨[(50,.blk 50 0),(75,.blk 75 0)],rfl,au0,au5,au6⟩
          | some to =>
            have h1:stepI a.es s ev=to:=by unfold stepI;rw[hst]
            have hto:=Qeb h.esn hst
            rw[h1]
            simp(disch:=first|omega|(simp only[lenW]<;>omega)) only[wW,wV,simprocAttr]
            have hh:=has36 (nz o) to (by simp;omega)
            rw[Qja,QbY]at hh
            by_cases hc:o.contains to=true
            · have h2 : fEv a.es s o ev = o := by unfold fEv; rw [hst]; exact if_pos hc
              rw[h2]at hstep
              rw[hc]at hh
              refine ch (HSpec.lend (FrzL.cons (FrzTo.all gg (by simp[ints])) (FrzL.cons (FrzTo.same _) FrzL.nil)) hh rfl) ?_
              simp(disch:=first|omega|(simp only[lenW]<;>omega)) only[wW,wV,simprocAttr]
              refine⟨k+1,by omega,by omega,?_⟩
              rw[hstep]
              exact⟨[(50,.blk 50 0),(75,.blk 75 0)],rfl,au0,au5,au6⟩
            · have h2 : fEv a.es s o ev = o ++ [to] := by unfold fEv; rw [hst]; exact if_neg hc
              rw[h2]at hstep
              rw[Bool.not_eq_true]at hc
              rw[hc]at hh
              refine ch (HSpec.lend (FrzL.cons (FrzTo.all gg (by simp[ints])) (FrzL.cons (FrzTo.same _) FrzL.nil)) hh rfl) ?_
              simp(disch:=first|omega|(simp only[lenW]<;>omega)) only[wW,wV,simprocAttr]
              refine⟨k+1,by omega,by omega,?_⟩
              rw[hstep,List.length_append,QaL,QaD]
              exact⟨[(50,.blk 50 0),(75,.blk 75 1)],rfl,au0,au5,au6⟩
        · have e : k = a.al.length := by omega
          subst e
          simp(disch:=first|omega|(simp only[lenW]<;>omega)) only[hkl,wW,wV,simprocAttr]
          refine⟨(),?_⟩
          exact⟨[(50,.blk 50 0),(75,.blk 75 0)],rfl,au0,au5,au6⟩
      rintro _ _
      obtain⟨k1,⟨t,ht⟩,_⟩:=hrow a.al.length
      rw[List.take_length]at k1 ht
      have ht:fRow a.al a.es s out=out++t:=ht
      simp(disch:=first|omega|(simp only[lenW]<;>omega)) only[wW,wV,simprocAttr]
      refine⟨(i+1,fRow a.al a.es s out),by dsimp only;omega,⟨by dsimp only;rw[ht,List.length_append];omega,k1,hq'⟩,?_⟩
      exact⟨[(50,.blk 50 0),(75,.blk 75 0)],rfl,au0,au5,au6⟩
    · have hv : out[i]? = none := List.getElem?_eq_none (by omega)
      have hqf:out=found a:=by
        rw[<-hq,show a.n+1-i=(a.n-i)+1 by omega]
        simp only[fQ,hv]
      simp(disch:=first|omega|(simp only[lenW]<;>omega)) only[hlt,wW,wV,simprocAttr]
      refine⟨.inr trivial,_,rfl,?_⟩
      rw[hqf]
      exact Rn.fz0 (g:=0) rfl (by simp[ints]) (RnL.same (Qaa _))
  · rw [if_neg h0] at hfin
    have h0':¬(0:Int)<(a.n:Int):=by omega
    simp(disch:=first|omega|(simp only[lenW]<;>omega)) only[s259,h0',wW,wV,simprocAttr]
    refine QaJ 100 (fun t:Nat×List Nat=>[(1,.ptr 50 0 0),(3,.sl 75 0 0 t.2.length 1),(4,.int .i64 t.1)]) (fun t=>[(50,.cells 0 [sliN a.al,.int .i64 (a.n:Int),sliN a.ms,egsN a.es]),(75,.cells 0 (ints (nz t.2)))])
      (fun t=>t.1<=t.2.length/\FI a.n t.2/\fQ a.al a.es (a.n+1-t.1) t.1 t.2=found a) (fun t=>a.n+1-t.1) (0,([]:List Nat)) ?_ ⟨Nat.zero_le _,⟨by simp,fun x hx=>by cases hx⟩,by dsimp only;exact hfin⟩ ?_
    · exact⟨[(50,.blk 64 0),(75,.nil)],rfl,au0,au5,au6⟩
    rintro⟨i,out⟩ ⟨hi,hfi,hq⟩
    dsimp only at hi hfi hq⊢
    have hfl:=hfi.len
    by_cases hlt:i<out.length
    · obtain ⟨s, hs⟩ := Qak hlt
      have hq':fQ a.al a.es (a.n+1-(i+1)) (i+1) (fRow a.al a.es s out)=found a:=by
        rw[<-hq,show a.n+1-i=(a.n+1-(i+1))+1 by omega]
        simp only[fQ,hs]
      have hrow:=fun k=>FI.row h.esn s (a.al.take k) out hfi
      simp(disch:=first|omega|(simp only[lenW]<;>omega)) only[hlt,wW,wV,simprocAttr]
      refine Qar 200 (fun k:Nat=>[(1,.ptr 50 0 0),(3,.sl 75 0 0 ((a.al.take k).foldl (fEv a.es s) out).length 1),(4,.int .i64 i),(5,.int .i64 k)]) (fun k=>[(50,.cells 0 [sliN a.al,.int .i64 (a.n:Int),sliN a.ms,egsN a.es]),(75,.cells 0 (ints (nz ((a.al.take k).foldl (fEv a.es s) out))))])
        (fun k=>k<=a.al.length) (fun k=>a.al.length-k) 0 2 300
        (fun _:Unit=>[(1,.ptr 50 0 0),(3,.sl 75 0 0 (fRow a.al a.es s out).length 1),(4,.int .i64 i)]) (fun _=>[(50,.cells 0 [sliN a.al,.int .i64 (a.n:Int),sliN a.ms,egsN a.es]),(75,.cells 0 (ints (nz (fRow a.al a.es s out))))]) (fun _=>True) ?_ (Nat.zero_le _) ?_ ?_
      · exact⟨[(50,.blk 50 0),(75,.blk 75 0)],rfl,au0,au5,au6⟩
      · rintro k hk
        by_cases hkl:k<a.al.length
        · obtain ⟨ev, hev⟩ := Qak hkl
          have hstep:=QhR (es:=a.es) (s:=s) (out:=out) hev
          obtain⟨k1,⟨t,ht⟩,_⟩:=hrow k
          have hol:=k1.len
          have hs2:((a.al.take k).foldl (fEv a.es s) out)[i]?=some s:=by rw[ht,List.getElem?_append_left hlt];exact hs
          generalize (a.al.take k).foldl (fEv a.es s) out=o at*
          have hil:i<o.length:=(List.getElem?_eq_some_iff.1 hs2).1
          simp(disch:=first|omega|(simp only[lenW]<;>omega)) only[hkl,hil,Qdr (nz_at hs2),QaI hev,wW,wV,simprocAttr]
          refine cp (step60 a s ev h.el) ?_
          cases hst:stepA a.es s ev with
          | none =>
            have h1:stepI a.es s ev= -1:=by unfold stepI;rw[hst]
            have h2:fEv a.es s o ev=o:=by unfold fEv;rw[hst]
            rw[h2]at hstep
            rw[h1]
            simp(disch:=first|omega|(simp only[lenW]<;>omega)) only[wW,wV,simprocAttr]
            refine⟨k+1,by omega,by omega,?_⟩
            rw[hstep]
            exact⟨[(50,.blk 50 0),(75,.blk 75 0)],rfl,au0,au5,au6⟩
          | some to =>
            have h1:stepI a.es s ev=to:=by unfold stepI;rw[hst]
            have hto:=Qeb h.esn hst
            rw[h1]
            simp(disch:=first|omega|(simp only[lenW]<;>omega)) only[wW,wV,simprocAttr]
            have hh:=has36 (nz o) to (by simp;omega)
            rw[Qja,QbY]at hh
            by_cases hc:o.contains to=true
            · have h2 : fEv a.es s o ev = o := by unfold fEv; rw [hst]; exact if_pos hc
              rw[h2]at hstep
              rw[hc]at hh
              refine ch (HSpec.lend (FrzL.cons (FrzTo.all gg (by simp[ints])) (FrzL.cons (FrzTo.same _) FrzL.nil)) hh rfl) ?_
              simp(disch:=first|omega|(simp only[lenW]<;>omega)) only[wW,wV,simprocAttr]
              refine⟨k+1,by omega,by omega,?_⟩
              rw[hstep]
              exact⟨[(50,.blk 50 0),(75,.blk 75 0)],rfl,au0,au5,au6⟩
            · have h2 : fEv a.es s o ev = o ++ [to] := by unfold fEv; rw [hst]; exact if_neg hc
              rw[h2]at hstep
              rw[Bool.not_eq_true]at hc
              rw[hc]at hh
              refine ch (HSpec.lend (FrzL.cons (FrzTo.all gg (by simp[ints])) (FrzL.cons (FrzTo.same _) FrzL.nil)) hh rfl) ?_
              simp(disch:=first|omega|(simp only[lenW]<;>omega)) only[wW,wV,simprocAttr]
              refine⟨k+1,by omega,by omega,?_⟩
              rw[hstep,List.length_append,QaL,QaD]
              exact⟨[(50,.blk 50 0),(75,.blk 75 1)],rfl,au0,au5,au6⟩
        · have e : k = a.al.length := by omega
          subst e
          simp(disch:=first|omega|(simp only[lenW]<;>omega)) only[hkl,wW,wV,simprocAttr]
          refine⟨(),?_⟩
          exact⟨[(50,.blk 50 0),(75,.blk 75 0)],rfl,au0,au5,au6⟩
      rintro _ _
      obtain⟨k1,⟨t,ht⟩,_⟩:=hrow a.al.length
      rw[List.take_length]at k1 ht
      have ht:fRow a.al a.es s out=out++t:=ht
      simp(disch:=first|omega|(simp only[lenW]<;>omega)) only[wW,wV,simprocAttr]
      refine⟨(i+1,fRow a.al a.es s out),by dsimp only;omega,⟨by dsimp only;rw[ht,List.length_append];omega,k1,hq'⟩,?_⟩
      exact⟨[(50,.blk 50 0),(75,.blk 75 0)],rfl,au0,au5,au6⟩
    · have hv : out[i]? = none := List.getElem?_eq_none (by omega)
      have hqf:out=found a:=by
        rw[<-hq,show a.n+1-i=(a.n-i)+1 by omega]
        simp only[fQ,hv]
      simp(disch:=first|omega|(simp only[lenW]<;>omega)) only[hlt,wW,wV,simprocAttr]
      refine⟨.inr trivial,_,rfl,?_⟩
      rw[hqf]
      exact Rn.fz0 (g:=0) rfl (by simp[ints]) (RnL.same (Qaa _))
end Go.AM.SE
namespace Go.AM.SE
open Go.Proofs Go.AM.SD
theorem Qnr (l:List Int):(ints l).all AV.one=true:=by
 induction l with
 |nil=>rfl
 |cons x l ih=>show(AV.one _&&(ints l).all AV.one)=true;rw[ih];rfl
theorem empty45 (l:List Nat) (hl:l.length<=1000000):PSpec Tryz.prog 224 [sliN l] (.agg [sliN l,.int .i64 0,.nilsl,.nilsl]):=by
 refine PSpec.of_rn 64 ok224 rfl (by(try simp only[noRefs,Qao,Qat,Qaa,Qaj,Qag,Qal,Qaz,Qah,noRef,Bool.and_self,Bool.and_true])<;>rfl) (by simp only[noRef,noRefs,Qaa];rfl) ?_
 have hone:=Qnr (nz l)
 simp(disch:=first|omega|(simp only[lenW]<;>omega)) only[s224,hone,wW,wV,simprocAttr]
 refine⟨.inr trivial,_,rfl,?_⟩
 exact Rn.agg (RnL.cons (Rn.fz0 (g:=1) rfl (by simp[ints]) (RnL.same (Qaa _))) (RnL.same rfl))
theorem QhS {a:Aut} {f:List Nat} {i s k ev:Nat} (h:a.al[k]?=some ev):(a.al.take (k+1)).filterMap (fun ev=>(stepA a.es s ev).map fun to=>(i,ev,idx f to))=(a.al.take k).filterMap (fun ev=>(stepA a.es s ev).map fun to=>(i,ev,idx f to))++match stepA a.es s ev with|some to=>[(i,ev,idx f to)]|none=>[]:=by
 rw[List.take_add_one,h,Option.toList,List.filterMap_append]
 congr 1
 cases e:stepA a.es s ev with
 |none=>simp[e]
 |some to=>simp[e]
def cPre (a:Aut) (f:List Nat) (i:Nat):List Ed:=(List.range i).flatMap fun i=>cRow a f i (f.getD i 0)
def cPart (a:Aut) (f:List Nat) (i s k:Nat):List Ed:=cPre a f i++(a.al.take k).filterMap (fun ev=>(stepA a.es s ev).map fun to=>(i,ev,idx f to))
theorem Qmr {a:Aut} {f:List Nat} {i s:Nat} (h:f[i]?=some s):cPre a f (i+1)=cPre a f i++cRow a f i s:=by
 unfold cPre
 rw[List.range_succ,List.flatMap_append]
 have:f.getD i 0=s:=by rw[List.getD_eq_getElem?_getD,h];rfl
 rw[List.flatMap_cons,List.flatMap_nil,List.append_nil,this]
theorem Qns (a:Aut) (f:List Nat) (i s:Nat):(cRow a f i s).length<=a.al.length:=by unfold cRow;exact List.length_filterMap_le _ _
theorem QfO (a:Aut) (f:List Nat):∀i,(cPre a f i).length<=i*a.al.length
 |0=>by simp[cPre]
 |i+1=>by
  have h1:=QfO a f i
  have h2:=Qns a f i (f.getD i 0)
  unfold cPre at h1⊢
  rw[List.range_succ,List.flatMap_append,List.length_append,Nat.succ_mul]
  simp only[List.flatMap_cons,List.flatMap_nil,List.append_nil]
  omega
theorem canon46 (a : Aut) (h : Raw a) : PSpec Tryz.prog 225 [aV a] (aV (canon a)) := by
  have hn5:=h.n5
  have hal:=h.al
  have hml:=h.ml
  obtain⟨f1,_,f3⟩:=Qec h.esn
  have hfl:=f1.len
  refine PSpec.of_rn 64 ok225 rfl (by(try simp only[noRefs,Qao,Qat,Qaa,Qaj,Qag,Qal,Qaz,Qah,noRef,Bool.and_self,Bool.and_true])<;>rfl) (QcB _) ?_
  have hF:=found59 a h
  have hcan:canon a=⟨a.al,(found a).length,mks a (found a).length (found a),cPre a (found a) (found a).length⟩:=rfl
  rw[hcan]
  generalize found a=f at*
  simp(disch:=first|omega|(simp only[lenW]<;>omega)) only[s225,wW,wV,simprocAttr]
  refine cp hF ?_
  simp(disch:=first|omega|(simp only[lenW]<;>omega)) only[wW,wV,simprocAttr]
  refine cp (empty45 a.al (by omega)) ?_
  simp(disch:=first|omega|(simp only[lenW]<;>omega)) only[wW,wV,simprocAttr]
  refine Qar 100 (fun i:Nat=>[(1,.ptr 50 0 0),(2,.ptr 51 0 0),(3,sliN f),(4,.ptr 52 0 0),(5,.int .i64 i)])
    (fun i=>[(50,.cells 0 [sliN a.al,.int .i64 (a.n:Int),sliN a.ms,egsN a.es]),(51,.cells 0 [.nilsl,.int .i64 0,.nilsl,.nilsl]),(52,.cells 0 [sliN a.al,.int .i64 f.length,.sl 77 0 0 (mks a i f).length 1,.sl 76 0 0 (cPre a f i).length 3]),(76,.cells 0 ((cPre a f i).flatMap edC)),(77,.cells 0 (ints (nz (mks a i f))))])
    (fun i=>i<=f.length) (fun i=>f.length-i) 0 0 160
    (fun _:Unit=>[(2,.ptr 51 0 0),(4,.ptr 52 0 0)])
    (fun _=>[(51,.cells 0 [.nilsl,.int .i64 0,.nilsl,.nilsl]),(52,.cells 0 [sliN a.al,.int .i64 f.length,.sl 77 0 0 (mks a f.length f).length 1,.sl 76 0 0 (cPre a f f.length).length 3]),(76,.cells 0 ((cPre a f f.length).flatMap edC)),(77,.cells 0 (ints (nz (mks a f.length f))))]) (fun _=>True) ?_ (Nat.zero_le _) ?_ ?_
  · exact⟨[(50,.blk 64 0),(51,.blk 65 0),(52,.blk 72 0),(76,.nil),(77,.nil)],rfl,au0,au5,au6⟩
  · rintro i hi
    by_cases hlt:i<f.length
    · obtain ⟨s, hs⟩ := Qak hlt
      have hsf:=List.mem_of_getElem? hs
      have hmn:=Qjc (a:=a) hs
      have hmsl:=@QkE a i f
      have hcl:=QfO a f i
      have hcl2:(cPre a f i).length<=1000:=Nat.le_trans hcl (Nat.le_trans (Nat.mul_le_mul (show i<=5 by omega) hal) (by decide))
      have hcs:=Qmr (a:=a) hs
      have hed0:=QbQ (cPre a f i)
      have hh:=has36 (nz a.ms) s (by simp;omega)
      rw[Qja,QbY]at hh
      have hpart0:cPart a f i s 0=cPre a f i:=by simp[cPart]
      have hpartn:cPart a f i s a.al.length=cPre a f (i+1):=by rw[hcs];unfold cPart cRow;rw[List.take_length]
      generalize hM1:mks a (i+1) f=M1 at*
      generalize hM:mks a i f=M at*
      by_cases hmv:a.ms.contains s=true
      · rw [if_pos hmv] at hmn
        rw[hmv]at hh
        simp(disch:=first|omega|(simp only[lenW]<;>omega)) only[hlt,QaI hs,wW,wV,simprocAttr]
        refine ch (HSpec.lend (FrzL.same _) hh rfl) ?_
        simp(disch:=first|omega|(simp only[lenW]<;>omega)) only[wW,wV,simprocAttr]
        refine Qar 300 (fun k:Nat=>[(1,.ptr 50 0 0),(2,.ptr 51 0 0),(3,sliN f),(4,.ptr 52 0 0),(5,.int .i64 i),(6,.int .i64 k)])
          (fun k=>[(50,.cells 0 [sliN a.al,.int .i64 (a.n:Int),sliN a.ms,egsN a.es]),(51,.cells 0 [.nilsl,.int .i64 0,.nilsl,.nilsl]),(52,.cells 0 [sliN a.al,.int .i64 f.length,.sl 77 0 0 M1.length 1,.sl 76 0 0 (cPart a f i s k).length 3]),(76,.cells 0 ((cPart a f i s k).flatMap edC)),(77,.cells 0 (ints (nz M1)))])
          (fun k=>k<=a.al.length) (fun k=>a.al.length-k) 0 2 400
          (fun _:Unit=>[(1,.ptr 50 0 0),(2,.ptr 51 0 0),(3,sliN f),(4,.ptr 52 0 0),(5,.int .i64 i)])
          (fun _=>[(50,.cells 0 [sliN a.al,.int .i64 (a.n:Int),sliN a.ms,egsN a.es]),(51,.cells 0 [.nilsl,.int .i64 0,.nilsl,.nilsl]),(52,.cells 0 [sliN a.al,.int .i64 f.length,.sl 77 0 0 M1.length 1,.sl 76 0 0 (cPre a f (i+1)).length 3]),(76,.cells 0 ((cPre a f (i+1)).flatMap edC)),(77,.cells 0 (ints (nz M1)))]) (fun _=>True) ?_ (Nat.zero_le _) ?_ ?_
        · rw [hpart0, hmn, List.length_append, QaL, QaD]
          exact⟨[(50,.blk 50 0),(51,.blk 51 0),(52,.blk 52 0),(76,.blk 76 0),(77,.blk 77 1)],rfl,au0,au5,au6⟩
        · rintro k hk
          by_cases hkl:k<a.al.length
          · obtain ⟨ev, hev⟩ := Qak hkl
            have hevm:=List.mem_of_getElem? hev
            have hst:=QhS (a:=a) (f:=f) (i:=i) (s:=s) hev
            have hpl:(cPart a f i s k).length<=2000:=by
              unfold cPart
              rw[List.length_append]
              have h1:=List.length_filterMap_le (fun ev=>(stepA a.es s ev).map fun to=>(i,ev,idx f to)) (a.al.take k)
              rw[List.length_take]at h1
              omega
            have hpe:=QbQ (cPart a f i s k)
            have hps:cPart a f i s (k+1)=cPart a f i s k++match stepA a.es s ev with|some to=>[(i,ev,idx f to)]|none=>[]:=by
              unfold cPart;rw[hst,List.append_assoc]
            generalize cPart a f i s k=R at*
            simp(disch:=first|omega|(simp only[lenW]<;>omega)) only[hkl,hlt,QaI hs,QaI hev,wW,wV,simprocAttr]
            refine cp (step60 a s ev h.el) ?_
            cases hsa:stepA a.es s ev with
            | none =>
              have h1:stepI a.es s ev= -1:=by unfold stepI;rw[hsa]
              rw[hsa,List.append_nil]at hps
              rw[h1]
              simp(disch:=first|omega|(simp only[lenW]<;>omega)) only[wW,wV,simprocAttr]
              refine⟨k+1,by omega,by omega,?_⟩
              rw[hps]
              exact⟨[(50,.blk 50 0),(51,.blk 51 0),(52,.blk 52 0),(76,.blk 76 0),(77,.blk 77 0)],rfl,au0,au5,au6⟩
            | some to =>
              have h1:stepI a.es s ev=to:=by unfold stepI;rw[hsa]
              rw[hsa]at hps
              have hidx:=index61 (nz f) to (by simp;omega)
              rw[QbY,Qjd (f3 s hsf ev hevm to hsa)]at hidx
              rw[h1]
              simp(disch:=first|omega|(simp only[lenW]<;>omega)) only[hkl,QaI hev,wW,wV,simprocAttr]
              refine cp hidx ?_
              simp(disch:=first|omega|(simp only[lenW]<;>omega)) only[hpe,wW,wV,simprocAttr]
              refine⟨k+1,by omega,by omega,?_⟩
              rw[hps,List.flatMap_append,List.length_append]
              exact⟨[(50,.blk 50 0),(51,.blk 51 0),(52,.blk 52 0),(76,.blk 76 1),(77,.blk 77 0)],rfl,au0,au5,au6⟩
          · have e : k = a.al.length := by omega
            subst e
            simp(disch:=first|omega|(simp only[lenW]<;>omega)) only[hkl,wW,wV,simprocAttr]
            refine⟨(),?_⟩
            rw[hpartn]
            exact⟨[(50,.blk 50 0),(51,.blk 51 0),(52,.blk 52 0),(76,.blk 76 0),(77,.blk 77 0)],rfl,au0,au5,au6⟩
        rintro _ _
        simp(disch:=first|omega|(simp only[lenW]<;>omega)) only[wW,wV,simprocAttr]
        refine⟨i+1,by omega,by omega,?_⟩
        rw[hM1]
        exact⟨[(50,.blk 50 0),(51,.blk 51 0),(52,.blk 52 0),(76,.blk 76 0),(77,.blk 77 0)],rfl,au0,au5,au6⟩
      · rw [if_neg hmv, List.append_nil] at hmn
        rw[Bool.not_eq_true]at hmv
        rw[hmv]at hh
        simp(disch:=first|omega|(simp only[lenW]<;>omega)) only[hlt,QaI hs,wW,wV,simprocAttr]
        refine ch (HSpec.lend (FrzL.same _) hh rfl) ?_
        simp(disch:=first|omega|(simp only[lenW]<;>omega)) only[wW,wV,simprocAttr]
        refine Qar 300 (fun k:Nat=>[(1,.ptr 50 0 0),(2,.ptr 51 0 0),(3,sliN f),(4,.ptr 52 0 0),(5,.int .i64 i),(6,.int .i64 k)])
          (fun k=>[(50,.cells 0 [sliN a.al,.int .i64 (a.n:Int),sliN a.ms,egsN a.es]),(51,.cells 0 [.nilsl,.int .i64 0,.nilsl,.nilsl]),(52,.cells 0 [sliN a.al,.int .i64 f.length,.sl 77 0 0 M1.length 1,.sl 76 0 0 (cPart a f i s k).length 3]),(76,.cells 0 ((cPart a f i s k).flatMap edC)),(77,.cells 0 (ints (nz M1)))])
          (fun k=>k<=a.al.length) (fun k=>a.al.length-k) 0 2 400
          (fun _:Unit=>[(1,.ptr 50 0 0),(2,.ptr 51 0 0),(3,sliN f),(4,.ptr 52 0 0),(5,.int .i64 i)])
          (fun _=>[(50,.cells 0 [sliN a.al,.int .i64 (a.n:Int),sliN a.ms,egsN a.es]),(51,.cells 0 [.nilsl,.int .i64 0,.nilsl,.nilsl]),(52,.cells 0 [sliN a.al,.int .i64 f.length,.sl 77 0 0 M1.length 1,.sl 76 0 0 (cPre a f (i+1)).length 3]),(76,.cells 0 ((cPre a f (i+1)).flatMap edC)),(77,.cells 0 (ints (nz M1)))]) (fun _=>True) ?_ (Nat.zero_le _) ?_ ?_
        · rw [hpart0, hmn]
          exact⟨[(50,.blk 50 0),(51,.blk 51 0),(52,.blk 52 0),(76,.blk 76 0),(77,.blk 77 0)],rfl,au0,au5,au6⟩
        · rintro k hk
          by_cases hkl:k<a.al.length
          · obtain ⟨ev, hev⟩ := Qak hkl
            have hevm:=List.mem_of_getElem? hev
            have hst:=QhS (a:=a) (f:=f) (i:=i) (s:=s) hev
            have hpl:(cPart a f i s k).length<=2000:=by
              unfold cPart
              rw[List.length_append]
              have h1:=List.length_filterMap_le (fun ev=>(stepA a.es s ev).map fun to=>(i,ev,idx f to)) (a.al.take k)
              rw[List.length_take]at h1
              omega
            have hpe:=QbQ (cPart a f i s k)
            have hps:cPart a f i s (k+1)=cPart a f i s k++match stepA a.es s ev with|some to=>[(i,ev,idx f to)]|none=>[]:=by
              unfold cPart;rw[hst,List.append_assoc]
            generalize cPart a f i s k=R at*
            simp(disch:=first|omega|(simp only[lenW]<;>omega)) only[hkl,hlt,QaI hs,QaI hev,wW,wV,simprocAttr]
            refine cp (step60 a s ev h.el) ?_
            cases hsa:stepA a.es s ev with
            | none =>
              have h1:stepI a.es s ev= -1:=by unfold stepI;rw[hsa]
              rw[hsa,List.append_nil]at hps
              rw[h1]
              simp(disch:=first|omega|(simp only[lenW]<;>omega)) only[wW,wV,simprocAttr]
              refine⟨k+1,by omega,by omega,?_⟩
              rw[hps]
              exact⟨[(50,.blk 50 0),(51,.blk 51 0),(52,.blk 52 0),(76,.blk 76 0),(77,.blk 77 0)],rfl,au0,au5,au6⟩
            | some to =>
              have h1:stepI a.es s ev=to:=by unfold stepI;rw[hsa]
              rw[hsa]at hps
              have hidx:=index61 (nz f) to (by simp;omega)
              rw[QbY,Qjd (f3 s hsf ev hevm to hsa)]at hidx
              rw[h1]
              simp(disch:=first|omega|(simp only[lenW]<;>omega)) only[hkl,QaI hev,wW,wV,simprocAttr]
              refine cp hidx ?_
              simp(disch:=first|omega|(simp only[lenW]<;>omega)) only[hpe,wW,wV,simprocAttr]
              refine⟨k+1,by omega,by omega,?_⟩
              rw[hps,List.flatMap_append,List.length_append]
              exact⟨[(50,.blk 50 0),(51,.blk 51 0),(52,.blk 52 0),(76,.blk 76 1),(77,.blk 77 0)],rfl,au0,au5,au6⟩
          · have e : k = a.al.length := by omega
            subst e
            simp(disch:=first|omega|(simp only[lenW]<;>omega)) only[hkl,wW,wV,simprocAttr]
            refine⟨(),?_⟩
            rw[hpartn]
            exact⟨[(50,.blk 50 0),(51,.blk 51 0),(52,.blk 52 0),(76,.blk 76 0),(77,.blk 77 0)],rfl,au0,au5,au6⟩
        rintro _ _
        simp(disch:=first|omega|(simp only[lenW]<;>omega)) only[wW,wV,simprocAttr]
        refine⟨i+1,by omega,by omega,?_⟩
        rw[hM1]
        exact⟨[(50,.blk 50 0),(51,.blk 51 0),(52,.blk 52 0),(76,.blk 76 0),(77,.blk 77 0)],rfl,au0,au5,au6⟩
    · have e : i = f.length := by omega
      subst e
      simp(disch:=first|omega|(simp only[lenW]<;>omega)) only[hlt,wW,wV,simprocAttr]
      refine⟨(),?_⟩
      exact⟨[(51,.blk 51 0),(52,.blk 52 0),(76,.blk 76 0),(77,.blk 77 0)],rfl,au0,au5,au6⟩
  rintro _ _
  simp(disch:=first|omega|(simp only[lenW]<;>omega)) only[wW,wV,simprocAttr]
  refine⟨.inr trivial,_,rfl,?_⟩
  exact Rn.agg (RnL.cons (Rn.same (Qab _)) (RnL.cons (Rn.same rfl) (RnL.cons (Rn.fz0 (g:=0) rfl (by simp[ints]) (RnL.same (Qaa _))) (RnL.cons (Rn.fz0 (g:=0) rfl (QbQ _) (RnL.same (Qag _))) RnL.nil))))
end Go.AM.SE
namespace Go.AM.SE
open Go.Proofs Go.AM.SD
def u8s (l:List Nat):List AV:=l.map fun x:Nat=> .int .u8 (x:Int)
theorem Qaw (l:List Nat):noRefs (u8s l)=true:=QcL (fun _=>rfl) l
theorem Qgu {l:List Nat} {i x:Nat} (h:l[i]?=some x):(u8s l)[i]?=some (.int .u8 (x:Int)):=by simp[u8s,h]
def gEd (al:List Nat) (n:Nat) (T:List Nat) (i k:Nat):Option Ed:=if T.getD (i*5+k) 0 % (n+2)<n then some (i,al.getD k 0,T.getD (i*5+k) 0 % (n+2))else none
def gRow (al:List Nat) (n:Nat) (T:List Nat) (i k:Nat):List Ed:=(List.range k).filterMap (gEd al n T i)
def gPre (al:List Nat) (n:Nat) (T:List Nat) (i:Nat):List Ed:=(List.range i).flatMap fun i=>gRow al n T i al.length
def gPart (al:List Nat) (n:Nat) (T:List Nat) (i k:Nat):List Ed:=gPre al n T i++gRow al n T i k
def gRaw (al:List Nat) (st mk:Nat) (T:List Nat):Aut:=if 250<=st then⟨al,0,[],[]⟩else⟨al,1+st % 5,SD.part (1+st % 5) mk,gPre al (1+st % 5) T (1+st % 5)⟩
theorem Qnt {al:List Nat} {n:Nat} {T:List Nat} {i k:Nat} {e:Ed} (h:e∈gRow al n T i k):e.1=i/\e.2.2<n:=by
 unfold gRow at h
 obtain⟨j,_,hj⟩:=List.mem_filterMap.1 h
 unfold gEd at hj
 split at hj
 ·rename_i h1;cases hj;exact⟨rfl,h1⟩
 ·cases hj
theorem QhT {al:List Nat} {n:Nat} {T:List Nat} {i k:Nat}:gRow al n T i (k+1)=gRow al n T i k++match gEd al n T i k with|some e=>[e]|none=>[]:=by
 unfold gRow
 rw[List.range_succ,List.filterMap_append]
 congr 1
 cases e:gEd al n T i k<;>simp[e]
theorem QfP {al:List Nat} {n:Nat} {T:List Nat} {i k:Nat}:(gRow al n T i k).length<=k:=by
 unfold gRow;exact Nat.le_trans (List.length_filterMap_le _ _) (by simp)
theorem QfQ {al:List Nat} {n:Nat} {T:List Nat} (hal:al.length<=5):∀i,(gPre al n T i).length<=i*5
 |0=>by simp[gPre]
 |i+1=>by
  have h1:=QfQ (n:=n) (T:=T) hal i
  have h2:=@QfP al n T i al.length
  unfold gPre at h1⊢
  rw[List.range_succ,List.flatMap_append,List.length_append,Nat.succ_mul,List.flatMap_cons,List.flatMap_nil,List.append_nil]
  omega
theorem Qms {al:List Nat} {n:Nat} {T:List Nat} {i:Nat}:gPre al n T (i+1)=gPart al n T i al.length:=by
 unfold gPart gPre
 rw[List.range_succ,List.flatMap_append,List.flatMap_cons,List.flatMap_nil,List.append_nil]
theorem Qef {al:List Nat} {st mk:Nat} {T:List Nat} (hal:al.length<=5):Raw (gRaw al st mk T):=by
  unfold gRaw
  split
  · exact⟨by simp,by simp,by simp,by dsimp only;omega,by simp⟩
  · have h5 : 1 + st % 5 <= 5 := by omega
    refine⟨fun e he=>?_,h5,?_,by dsimp only;omega,?_⟩
    · unfold gPre at he
      obtain⟨i,hi,he⟩:=List.mem_flatMap.1 he
      have:=List.mem_range.1 hi
      obtain⟨h1,h2⟩:=Qnt he
      exact⟨by rw[h1];exact this,h2⟩
    · have := QfQ (n := 1 + st % 5) (T := T) hal (1 + st % 5)
      dsimp only;omega
    · have := @QcC (1 + st % 5) mk
      dsimp only;omega
def mkA (al:List Nat) (st mk:Nat) (T:List Nat):Aut:=canon (gRaw al st mk T)
theorem QoP {al:List Nat} {st mk:Nat} {T:List Nat} (hs:al.Pairwise (· < ·)) (h5:∀x∈al,x<5):WfA (mkA al st mk T):=by
 have hal:al.length<=5:=Qcn hs h5
 have hr:=Qef (st:=st) (mk:=mk) (T:=T) hal
 have ha:(gRaw al st mk T).al=al:=by unfold gRaw;split<;>rfl
 exact Qno (by rw[ha];exact hs) (by rw[ha];exact h5) hr.n5 hr.esn
abbrev grV (st mk:Nat) (T:List Nat):AV:= .agg (.int .u8 (st:Int):: .int .u8 (mk:Int)::u8s T)
theorem _root_.Go.AM.au7 {p:Prop} (h:p:=by repeat' (first|exact RB.nil|(refine RnL.same ?_;first|rfl|(simp only[noRef,noRefs,Qai,Bool.and_self,Bool.and_true,Bool.true_and,Qaa,Qaw,Qaj,Qag,Qal,Qaz,Qbn,Qah,Qay,Qab,Qa7,Qax,Qao,Qat,QbH];done))|exact RnM.keyM rfl|exact RnL.nil|exact(True.intro:RnM _ _ _ [] [])|refine RnL.cons ?_ ?_|(refine Rn.same ?_;first|rfl|(simp only[noRef,noRefs,Qai,Bool.and_self,Bool.and_true,Bool.true_and,Qaa,Qaw,Qaj,Qag,Qal,Qaz,Qbn,Qah,Qay,Qab,Qa7,Qax,Qao,Qat,QbH];done))|exact Rn.x1 rfl rfl|exact Rn.x2 rfl rfl|exact Rn.x3 rfl rfl|exact Rn.x4 rfl rfl|exact Rn.x5 rfl|exact Rn.x6 rfl|exact Rn.x7 rfl|refine RB.newnil rfl rfl ?_|refine RB.cells rfl rfl rfl ?_ ?_|refine RB.map rfl rfl rfl ?_ ?_|refine RB.cellsB rfl rfl ?_ ?_|refine RB.mapB rfl rfl ?_ ?_)):p:=h
theorem _root_.Go.AM.au8 {p:Prop} (h:p:=by repeat (first|exact RT.nil|(refine RT.cons ?_ ?_; · (first|exact Rn.any|exact Rn.x1 rfl rfl|exact Rn.x2 rfl rfl|exact Rn.x3 rfl rfl|exact Rn.x4 rfl rfl|exact Rn.x5 rfl|exact Rn.x6 rfl|exact Rn.x7 rfl|(refine Rn.slot ?_ ?_;(first|rfl|(rw[Int.natCast_add];rfl));(first|rfl|(simp only[noRef,noRefs,Qai,Bool.and_self,Bool.and_true,Bool.true_and,Qaa,Qaw,Qaj,Qag,Qal,Qaz,Qbn,Qah,Qay,Qab,Qa7,Qax,Qao,Qat,QbH];done)))|(refine Rn.fn ?_ ?_<;>(repeat' (first|exact RnL.nil|refine RnL.cons ?_ ?_|exact Rn.same rfl|exact Rn.x6 rfl|exact Rn.x2 rfl rfl|exact Rn.x5 rfl|exact Rn.x1 rfl rfl))))))):p:=h
theorem Make32 (al : List Nat) (st mk : Nat) (T : List Nat) (hs : al.Pairwise (· < ·)) (h5 : ∀ x ∈ al, x < 5) (hst : st < 256) (hmk : mk < 256) (hT : T.length = 25) (hT8 : ∀ x ∈ T, x < 256) :
    PSpec Tryz.prog 185 [sliN al,grV st mk T] (aV (mkA al st mk T)):=by
  have hal:al.length<=5:=Qcn hs h5
  have hlu:(u8s T).length=25:=by simp[u8s,hT]
  have hcan:=canon46 (gRaw al st mk T) (Qef hal)
  refine PSpec.of_rn 40 ok185 rfl (by(try simp only[noRefs,Qaw,Qao,Qat,Qaa,Qaj,Qag,Qal,Qaz,Qah,noRef,Bool.and_self,Bool.and_true])<;>rfl) (QcB _) ?_
  unfold mkA
  by_cases h0:250<=st
  · have h0' : (250 : Int) <= (st : Int) := by omega
    have hr:gRaw al st mk T=⟨al,0,[],[]⟩:=if_pos h0
    have hc:canon (gRaw al st mk T)=⟨al,0,[],[]⟩:=by rw[hr];rfl
    rw[hc]
    simp(disch:=first|omega|(simp only[lenW]<;>omega)) only[s185,h0',wW,wV,simprocAttr]
    refine cp (empty45 al (by omega)) ?_
    simp(disch:=first|omega|(simp only[lenW]<;>omega)) only[wW,wV,simprocAttr]
    refine⟨.inr trivial,_,rfl,?_⟩
    exact Rn.agg (RnL.cons (Rn.same (Qab _)) (RnL.cons (Rn.same rfl) (RnL.cons Rn.nilK (RnL.cons Rn.nilK RnL.nil))))
  have h0':¬(250:Int)<=(st:Int):=by omega
  have hr:gRaw al st mk T=⟨al,1+st % 5,SD.part (1+st % 5) mk,gPre al (1+st % 5) T (1+st % 5)⟩:=if_neg h0
  rw[hr]at hcan⊢
  have hn5:1+st % 5<=5:=by omega
  obtain⟨n,hN⟩:∃n,n=1+st % 5:=⟨_,rfl⟩
  rw[<-hN]at hr hcan hn5⊢
  have hnn:(1:Int)+((st % 5:Nat):Int)=(n:Int):=by omega
  simp(disch:=first|omega|(simp only[lenW]<;>omega)) only[s185,h0',wW,wV,simprocAttr]
  refine cp (empty45 al (by omega)) ?_
  have htm:(st:Int).tmod 5=((st % 5:Nat):Int):=by
    rw[Int.tmod_eq_emod_of_nonneg (Int.natCast_nonneg _)];norm_cast
  simp(disch:=first|omega|(simp only[lenW]<;>omega)) only[htm,hnn,wW,wV,simprocAttr]
  refine Qar 100 (fun i:Nat=>[(0,sliN al),(3,.ptr 50 0 0),(4,.ptr 51 0 0),(5,.ptr 52 0 0),(6,.int .i64 i)])
    (fun i=>[(50,.cells 0 (.int .u8 (st:Int):: .int .u8 (mk:Int)::u8s T)),(51,.cells 0 [.nilsl,.int .i64 0,.nilsl,.nilsl]),(52,.cells 0 [sliN al,.int .i64 (n:Int),.sl 77 0 0 (SD.part i mk).length 1,.sl 76 0 0 (gPre al n T i).length 3]),(76,.cells 0 ((gPre al n T i).flatMap edC)),(77,.cells 0 (ints (nz (SD.part i mk))))])
    (fun i=>i<=n) (fun i=>n-i) 0 0 160
    (fun _:Unit=>[(4,.ptr 51 0 0),(5,.ptr 52 0 0)])
    (fun _=>[(51,.cells 0 [.nilsl,.int .i64 0,.nilsl,.nilsl]),(52,.cells 0 [sliN al,.int .i64 (n:Int),sliN (SD.part n mk),egsN (gPre al n T n)])]) (fun _=>True) ?_ (Nat.zero_le _) ?_ ?_
  · exact⟨[(50,.blk 40 0),(51,.blk 41 0),(52,.blk 47 0),(76,.nil),(77,.nil)],rfl,au0,au7,au8⟩
  · rintro i hi
    by_cases hlt:i<n
    · have hpt := QcQ (n := n) (b := mk) (i := i)
      have hpl:=@QcC i mk
      have hgl:=QfQ (n:=n) (T:=T) hal i
      have hg0:gPart al n T i 0=gPre al n T i:=by simp[gPart,gRow]
      have hgs:=Qms (al:=al) (n:=n) (T:=T) (i:=i)
      have hed0:=QbQ (gPre al n T i)
      generalize hM1:SD.part (i+1) mk=M1 at*
      generalize hM:SD.part i mk=M at*
      by_cases hmv:mk.testBit i=true
      · rw [if_pos hmv] at hpt
        have hb:=Qc5.2 hmv
        simp(disch:=first|omega|(simp only[lenW]<;>omega)) only[hlt,Qcb (k:= .u8) (show i<=8 by omega),Qcc,hb,wW,wV,simprocAttr]
        refine Qar 300 (fun k:Nat=>[(0,sliN al),(3,.ptr 50 0 0),(4,.ptr 51 0 0),(5,.ptr 52 0 0),(6,.int .i64 i),(7,.int .i64 k)])
          (fun k=>[(50,.cells 0 (.int .u8 (st:Int):: .int .u8 (mk:Int)::u8s T)),(51,.cells 0 [.nilsl,.int .i64 0,.nilsl,.nilsl]),(52,.cells 0 [sliN al,.int .i64 (n:Int),.sl 77 0 0 M1.length 1,.sl 76 0 0 (gPart al n T i k).length 3]),(76,.cells 0 ((gPart al n T i k).flatMap edC)),(77,.cells 0 (ints (nz M1)))])
          (fun k=>k<=al.length) (fun k=>al.length-k) 0 2 400
          (fun _:Unit=>[(0,sliN al),(3,.ptr 50 0 0),(4,.ptr 51 0 0),(5,.ptr 52 0 0),(6,.int .i64 i)])
          (fun _=>[(50,.cells 0 (.int .u8 (st:Int):: .int .u8 (mk:Int)::u8s T)),(51,.cells 0 [.nilsl,.int .i64 0,.nilsl,.nilsl]),(52,.cells 0 [sliN al,.int .i64 (n:Int),.sl 77 0 0 M1.length 1,.sl 76 0 0 (gPre al n T (i+1)).length 3]),(76,.cells 0 ((gPre al n T (i+1)).flatMap edC)),(77,.cells 0 (ints (nz M1)))]) (fun _=>True) ?_ (Nat.zero_le _) ?_ ?_
        · rw [hg0, hpt, List.length_append, QaL, QaD]
          exact⟨[(50,.blk 50 0),(51,.blk 51 0),(52,.blk 52 0),(76,.blk 76 0),(77,.blk 77 1)],rfl,au0,au7,au8⟩
        · rintro k hk
          by_cases hkl:k<al.length
          · obtain ⟨ev, hev⟩ := Qak hkl
            have hevD:al.getD k 0=ev:=by rw[List.getD_eq_getElem?_getD,hev];rfl
            obtain⟨x,hx⟩:=Qak (l:=T) (i:=i*5+k) (by omega)
            have hxD:T.getD (i*5+k) 0=x:=by rw[List.getD_eq_getElem?_getD,hx];rfl
            have hx8:=hT8 x (List.mem_of_getElem? hx)
            have hk5:(k:Int)<5:=by omega
            have hi5:(i:Int)<5:=by omega
            have hgx:(AV.int .u8 (st:Int)::AV.int .u8 (mk:Int)::u8s T)[2+i*5+k]?=some (.int .u8 (x:Int)):=by
              rw[show 2+i*5+k=(i*5+k)+2 by omega]
              simpa using Qgu hx
            have hrm:(x:Int).tmod ((n:Int)+2)=((x % (n+2):Nat):Int):=by
              rw[Int.tmod_eq_emod_of_nonneg (Int.natCast_nonneg _)];norm_cast
            have hn0:¬(n:Int)+2=0:=by omega
            have hxm:x % (n+2)<=10:=by have:=Nat.mod_lt x (show 0<n+2 by omega);omega
            have hst:=QhT (al:=al) (n:=n) (T:=T) (i:=i) (k:=k)
            have hrl:=@QfP al n T i k
            have hps:gPart al n T i (k+1)=gPart al n T i k++match gEd al n T i k with|some e=>[e]|none=>[]:=by
              unfold gPart;rw[hst,List.append_assoc]
            have hpl2:(gPart al n T i k).length<=100:=by unfold gPart;rw[List.length_append];omega
            have hpe:=QbQ (gPart al n T i k)
            unfold gEd at hps
            rw[hxD,hevD]at hps
            generalize gPart al n T i k=R at*
            by_cases ht:x % (n+2)<n
            · rw [if_pos ht] at hps
              simp(disch:=first|omega|(simp only[lenW]<;>omega)) only[hkl,hk5,hi5,hgx,hn0,hrm,ht,QaI hev,hpe,wW,wV,simprocAttr]
              refine⟨k+1,by omega,by omega,?_⟩
              rw[hps,List.flatMap_append,List.length_append]
              exact⟨[(50,.blk 50 0),(51,.blk 51 0),(52,.blk 52 0),(76,.blk 76 1),(77,.blk 77 0)],rfl,au0,au7,au8⟩
            · rw [if_neg ht, List.append_nil] at hps
              simp(disch:=first|omega|(simp only[lenW]<;>omega)) only[hkl,hk5,hi5,hgx,hn0,hrm,ht,wW,wV,simprocAttr]
              refine⟨k+1,by omega,by omega,?_⟩
              rw[hps]
              exact⟨[(50,.blk 50 0),(51,.blk 51 0),(52,.blk 52 0),(76,.blk 76 0),(77,.blk 77 0)],rfl,au0,au7,au8⟩
          · have e : k = al.length := by omega
            subst e
            simp(disch:=first|omega|(simp only[lenW]<;>omega)) only[hkl,wW,wV,simprocAttr]
            refine⟨(),?_⟩
            rw[hgs]
            exact⟨[(50,.blk 50 0),(51,.blk 51 0),(52,.blk 52 0),(76,.blk 76 0),(77,.blk 77 0)],rfl,au0,au7,au8⟩
        rintro _ _
        simp(disch:=first|omega|(simp only[lenW]<;>omega)) only[wW,wV,simprocAttr]
        refine⟨i+1,by omega,by omega,?_⟩
        rw[hM1]
        exact⟨[(50,.blk 50 0),(51,.blk 51 0),(52,.blk 52 0),(76,.blk 76 0),(77,.blk 77 0)],rfl,au0,au7,au8⟩
      · rw [if_neg hmv, List.append_nil] at hpt
        have hb:¬((mk/2^i % 2:Nat):Int)=1:=fun e=>hmv (Qc5.1 e)
        simp(disch:=first|omega|(simp only[lenW]<;>omega)) only[hlt,Qcb (k:= .u8) (show i<=8 by omega),Qcc,hb,wW,wV,simprocAttr]
        refine Qar 300 (fun k:Nat=>[(0,sliN al),(3,.ptr 50 0 0),(4,.ptr 51 0 0),(5,.ptr 52 0 0),(6,.int .i64 i),(7,.int .i64 k)])
          (fun k=>[(50,.cells 0 (.int .u8 (st:Int):: .int .u8 (mk:Int)::u8s T)),(51,.cells 0 [.nilsl,.int .i64 0,.nilsl,.nilsl]),(52,.cells 0 [sliN al,.int .i64 (n:Int),.sl 77 0 0 M1.length 1,.sl 76 0 0 (gPart al n T i k).length 3]),(76,.cells 0 ((gPart al n T i k).flatMap edC)),(77,.cells 0 (ints (nz M1)))])
          (fun k=>k<=al.length) (fun k=>al.length-k) 0 2 400
          (fun _:Unit=>[(0,sliN al),(3,.ptr 50 0 0),(4,.ptr 51 0 0),(5,.ptr 52 0 0),(6,.int .i64 i)])
          (fun _=>[(50,.cells 0 (.int .u8 (st:Int):: .int .u8 (mk:Int)::u8s T)),(51,.cells 0 [.nilsl,.int .i64 0,.nilsl,.nilsl]),(52,.cells 0 [sliN al,.int .i64 (n:Int),.sl 77 0 0 M1.length 1,.sl 76 0 0 (gPre al n T (i+1)).length 3]),(76,.cells 0 ((gPre al n T (i+1)).flatMap edC)),(77,.cells 0 (ints (nz M1)))]) (fun _=>True) ?_ (Nat.zero_le _) ?_ ?_
        · rw [hg0, hpt]
          exact⟨[(50,.blk 50 0),(51,.blk 51 0),(52,.blk 52 0),(76,.blk 76 0),(77,.blk 77 0)],rfl,au0,au7,au8⟩
        · rintro k hk
          by_cases hkl:k<al.length
          · obtain ⟨ev, hev⟩ := Qak hkl
            have hevD:al.getD k 0=ev:=by rw[List.getD_eq_getElem?_getD,hev];rfl
            obtain⟨x,hx⟩:=Qak (l:=T) (i:=i*5+k) (by omega)
            have hxD:T.getD (i*5+k) 0=x:=by rw[List.getD_eq_getElem?_getD,hx];rfl
            have hx8:=hT8 x (List.mem_of_getElem? hx)
            have hk5:(k:Int)<5:=by omega
            have hi5:(i:Int)<5:=by omega
            have hgx:(AV.int .u8 (st:Int)::AV.int .u8 (mk:Int)::u8s T)[2+i*5+k]?=some (.int .u8 (x:Int)):=by
              rw[show 2+i*5+k=(i*5+k)+2 by omega]
              simpa using Qgu hx
            have hrm:(x:Int).tmod ((n:Int)+2)=((x % (n+2):Nat):Int):=by
              rw[Int.tmod_eq_emod_of_nonneg (Int.natCast_nonneg _)];norm_cast
            have hn0:¬(n:Int)+2=0:=by omega
            have hxm:x % (n+2)<=10:=by have:=Nat.mod_lt x (show 0<n+2 by omega);omega
            have hst:=QhT (al:=al) (n:=n) (T:=T) (i:=i) (k:=k)
            have hrl:=@QfP al n T i k
            have hps:gPart al n T i (k+1)=gPart al n T i k++match gEd al n T i k with|some e=>[e]|none=>[]:=by
              unfold gPart;rw[hst,List.append_assoc]
            have hpl2:(gPart al n T i k).length<=100:=by unfold gPart;rw[List.length_append];omega
            have hpe:=QbQ (gPart al n T i k)
            unfold gEd at hps
            rw[hxD,hevD]at hps
            generalize gPart al n T i k=R at*
            by_cases ht:x % (n+2)<n
            · rw [if_pos ht] at hps
              simp(disch:=first|omega|(simp only[lenW]<;>omega)) only[hkl,hk5,hi5,hgx,hn0,hrm,ht,QaI hev,hpe,wW,wV,simprocAttr]
              refine⟨k+1,by omega,by omega,?_⟩
              rw[hps,List.flatMap_append,List.length_append]
              exact⟨[(50,.blk 50 0),(51,.blk 51 0),(52,.blk 52 0),(76,.blk 76 1),(77,.blk 77 0)],rfl,au0,au7,au8⟩
            · rw [if_neg ht, List.append_nil] at hps
              simp(disch:=first|omega|(simp only[lenW]<;>omega)) only[hkl,hk5,hi5,hgx,hn0,hrm,ht,wW,wV,simprocAttr]
              refine⟨k+1,by omega,by omega,?_⟩
              rw[hps]
              exact⟨[(50,.blk 50 0),(51,.blk 51 0),(52,.blk 52 0),(76,.blk 76 0),(77,.blk 77 0)],rfl,au0,au7,au8⟩
          · have e : k = al.length := by omega
            subst e
            simp(disch:=first|omega|(simp only[lenW]<;>omega)) only[hkl,wW,wV,simprocAttr]
            refine⟨(),?_⟩
            rw[hgs]
            exact⟨[(50,.blk 50 0),(51,.blk 51 0),(52,.blk 52 0),(76,.blk 76 0),(77,.blk 77 0)],rfl,au0,au7,au8⟩
        rintro _ _
        simp(disch:=first|omega|(simp only[lenW]<;>omega)) only[wW,wV,simprocAttr]
        refine⟨i+1,by omega,by omega,?_⟩
        rw[hM1]
        exact⟨[(50,.blk 50 0),(51,.blk 51 0),(52,.blk 52 0),(76,.blk 76 0),(77,.blk 77 0)],rfl,au0,au7,au8⟩
    · have e : i = n := by omega
      subst e
      simp(disch:=first|omega|(simp only[lenW]<;>omega)) only[hlt,wW,wV,simprocAttr]
      refine⟨(),[(51,.blk 51 0),(52,.blk 52 0)],rfl,RO.zero,?_,au8⟩
      refine RB.cells rfl rfl rfl (RnL.same rfl) (RB.cells rfl rfl rfl (RnL.cons (Rn.same (Qab _)) (RnL.cons (Rn.same rfl) (RnL.cons (Rn.fzm rfl rfl rfl rfl (by simp[ints]) (RnL.same (Qaa _))) (RnL.cons (Rn.fzm rfl rfl rfl rfl (QbQ _) (RnL.same (Qag _))) RnL.nil)))) RB.nil)
  rintro _ _
  simp(disch:=first|omega|(simp only[lenW]<;>omega)) only[wW,wV,simprocAttr]
  refine cp hcan ?_
  generalize canon ⟨al,n,SD.part n mk,gPre al n T n⟩=C at*
  simp(disch:=first|omega|(simp only[lenW]<;>omega)) only[wW,wV,simprocAttr]
  exact⟨.inr trivial,_,rfl,Rn.same (QcB _)⟩
end Go.AM.SE
namespace Go.AM.SO
open Go.Proofs Go.AM.SD Go.AM.SE
def mrg (k:Bool->Bool->Bool):List Nat->List Nat->List Nat
 |[],[]=>[]
 |a::A,[]=>(if k true false=true then[a]else[])++mrg k A []
 |[],b::B=>(if k false true=true then[b]else[])++mrg k [] B
 |a::A,b::B=>if a<b then(if k true false=true then[a]else[])++mrg k A (b::B)
  else if b<a then(if k false true=true then[b]else[])++mrg k (a::A) B
  else(if k true true=true then[a]else[])++mrg k A B
termination_by A B=>A.length+B.length
theorem Qbk {k : Bool -> Bool -> Bool} {x : Nat} : ∀ {A B : List Nat}, A.Pairwise (· < ·) -> B.Pairwise (· < ·) -> (x ∈ mrg k A B ↔ k (decide (x ∈ A)) (decide (x ∈ B)) = true /\ (x ∈ A \/ x ∈ B))
  |[],[],_,_=>by simp[mrg]
  | a :: A, [], hA, hB => by
    have ih:=Qbk (k:=k) (x:=x) (List.pairwise_cons.1 hA).2 hB
    have h1:=(List.pairwise_cons.1 hA).1
    rw[mrg,List.mem_append,ih]
    by_cases e:x=a
    · subst e
      have:x∉A:=fun h=>by have:=h1 x h;omega
      by_cases hk:k true false=true<;>simp[this,hk]
    · by_cases hk:k true false=true<;>simp[e,hk]
  | [], b :: B, hA, hB => by
    have ih:=Qbk (k:=k) (x:=x) hA (List.pairwise_cons.1 hB).2
    have h1:=(List.pairwise_cons.1 hB).1
    rw[mrg,List.mem_append,ih]
    by_cases e:x=b
    · subst e
      have:x∉B:=fun h=>by have:=h1 x h;omega
      by_cases hk:k false true=true<;>simp[this,hk]
    · by_cases hk:k false true=true<;>simp[e,hk]
  | a :: A, b :: B, hA, hB => by
    have hA1:=(List.pairwise_cons.1 hA).1
    have hB1:=(List.pairwise_cons.1 hB).1
    rw[mrg]
    by_cases h1:a<b
    · have ih := Qbk (k := k) (x := x) (List.pairwise_cons.1 hA).2 hB
      rw[if_pos h1,List.mem_append,ih]
      by_cases e:x=a
      · subst e
        have n1:x∉A:=fun h=>by have:=hA1 x h;omega
        have n2:x∉b::B:=fun h=>by
          rcases List.mem_cons.1 h with rfl|h
          · omega
          · have:=hB1 x h;omega
        by_cases hk:k true false=true<;>simp[n1,n2,hk]
      · by_cases hk:k true false=true<;>simp[e,hk]
    · rw [if_neg h1]
      by_cases h2:b<a
      · have ih := Qbk (k := k) (x := x) hA (List.pairwise_cons.1 hB).2
        rw[if_pos h2,List.mem_append,ih]
        by_cases e:x=b
        · subst e
          have n1:x∉B:=fun h=>by have:=hB1 x h;omega
          have n2:x∉a::A:=fun h=>by
            rcases List.mem_cons.1 h with rfl|h
            · omega
            · have:=hA1 x h;omega
          by_cases hk:k false true=true<;>simp[n1,n2,hk]
        · by_cases hk:k false true=true<;>simp[e,hk]
      · have e1 : a = b := by omega
        subst e1
        have ih:=Qbk (k:=k) (x:=x) (List.pairwise_cons.1 hA).2 (List.pairwise_cons.1 hB).2
        rw[if_neg h2,List.mem_append,ih]
        by_cases e:x=a
        · subst e
          have n1:x∉A:=fun h=>by have:=hA1 x h;omega
          have n2:x∉B:=fun h=>by have:=hB1 x h;omega
          by_cases hk:k true true=true<;>simp[n1,n2,hk]
        · by_cases hk:k true true=true<;>simp[e,hk]
termination_by A B=>A.length+B.length
theorem QbW {k:Bool->Bool->Bool}:∀{A B:List Nat},A.Pairwise (· < ·)->B.Pairwise (· < ·)->(mrg k A B).Pairwise (· < ·)
 |[],[],_,_=>by simp[mrg]
 |a::A,[],hA,hB=>by
  have ih:=QbW (k:=k) (List.pairwise_cons.1 hA).2 hB
  have h1:=(List.pairwise_cons.1 hA).1
  rw[mrg,List.pairwise_append]
  refine⟨by split<;>simp,ih,fun x hx y hy=>?_⟩
  have hx:x=a:=by split at hx<;>simp at hx;exact hx
  have:=(Qbk (List.pairwise_cons.1 hA).2 hB).1 hy
  subst hx
  rcases this.2 with h|h
  ·exact h1 y h
  ·cases h
 |[],b::B,hA,hB=>by
  have ih:=QbW (k:=k) hA (List.pairwise_cons.1 hB).2
  have h1:=(List.pairwise_cons.1 hB).1
  rw[mrg,List.pairwise_append]
  refine⟨by split<;>simp,ih,fun x hx y hy=>?_⟩
  have hx:x=b:=by split at hx<;>simp at hx;exact hx
  have:=(Qbk hA (List.pairwise_cons.1 hB).2).1 hy
  subst hx
  rcases this.2 with h|h
  ·cases h
  ·exact h1 y h
 | a :: A, b :: B, hA, hB => by
  have hA1:=(List.pairwise_cons.1 hA).1
  have hB1:=(List.pairwise_cons.1 hB).1
  rw[mrg]
  split
  ·rename_i h1
   rw[List.pairwise_append]
   refine⟨by split<;>simp,QbW (List.pairwise_cons.1 hA).2 hB,fun x hx y hy=>?_⟩
   have hx:x=a:=by split at hx<;>simp at hx;exact hx
   have:=(Qbk (List.pairwise_cons.1 hA).2 hB).1 hy
   subst hx
   rcases this.2 with h|h
   ·exact hA1 y h
   ·rcases List.mem_cons.1 h with rfl | h
    ·exact h1
    ·have:=hB1 y h;omega
  ·rename_i h1
   split
   ·rename_i h2
    rw[List.pairwise_append]
    refine⟨by split<;>simp,QbW hA (List.pairwise_cons.1 hB).2,fun x hx y hy=>?_⟩
    have hx:x=b:=by split at hx<;>simp at hx;exact hx
    have:=(Qbk hA (List.pairwise_cons.1 hB).2).1 hy
    subst hx
    rcases this.2 with h|h
    ·rcases List.mem_cons.1 h with rfl | h
     ·exact h2
     ·have:=hA1 y h;omega
    ·exact hB1 y h
   ·rename_i h2
    have e1:a=b:=by omega
    subst e1
    rw[List.pairwise_append]
    refine⟨by split<;>simp,QbW (List.pairwise_cons.1 hA).2 (List.pairwise_cons.1 hB).2,fun x hx y hy=>?_⟩
    have hx:x=a:=by split at hx<;>simp at hx;exact hx
    have:=(Qbk (List.pairwise_cons.1 hA).2 (List.pairwise_cons.1 hB).2).1 hy
    subst hx
    rcases this.2 with h|h
    ·exact hA1 y h
    ·exact hB1 y h
termination_by A B=>A.length+B.length
end Go.AM.SO
namespace Go.AM.SO
open Go.Proofs Go.AM.SD Go.AM.SE
theorem iaddr0 {a:Nat} {A:List Nat}:aIAddr none 1 (sliN (a::A)) (.int .i64 0)=some (.fptr (ints (nz (a::A)))):=by
 simp[aIAddr]
theorem head0 {a:Nat} {A:List Nat}:(ints (nz (a::A))).head?=some (.int .i64 (a:Int)):=rfl
theorem tk1 {b:Nat} {B1:List Nat}:List.take (B1.length+1-1) (List.drop 1 (ints (nz (b::B1))))=ints (nz B1):=by
 simp only[ints,nz,List.map_cons,List.drop_succ_cons,List.drop_zero]
 exact List.take_of_length_le (by simp)
theorem tk2 {b:Nat} {B1:List Nat}:List.take B1.length (List.drop 1 (ints (nz (b::B1))))=ints (nz B1):=by
 simp only[ints,nz,List.map_cons,List.drop_succ_cons,List.drop_zero]
 exact List.take_of_length_le (by simp)
theorem union169 (a b:Bool):PSpec Tryz.prog 169 [.bool a,.bool b] (.bool (a||b)):=by
  refine PSpec.Qau 64 ok169 rfl rfl rfl ?_
  cases a
  · simp (disch := first | omega | (simp only [lenW] <;> omega)) only [s169, wV, simprocAttr]
    exact⟨.inr trivial,_,rfl,by simp[resOf,QaM]⟩
  · simp (disch := first | omega | (simp only [lenW] <;> omega)) only [s169, wV, simprocAttr]
    exact⟨.inr trivial,_,rfl,by simp[resOf,QaM]⟩
theorem minus242 (a b:Bool):PSpec Tryz.prog 242 [.bool a,.bool b] (.bool (a&& !b)):=by
  refine PSpec.Qau 64 ok242 rfl rfl rfl ?_
  cases a
  · simp (disch := first | omega | (simp only [lenW] <;> omega)) only [s242, wV, simprocAttr]
    exact⟨.inr trivial,_,rfl,by simp[resOf,QaM]⟩
  · simp (disch := first | omega | (simp only [lenW] <;> omega)) only [s242, wV, simprocAttr]
    exact⟨.inr trivial,_,rfl,by simp[resOf,QaM]⟩
theorem merge168 (K : Nat) (k : Bool -> Bool -> Bool) (hk : ∀ a b, PSpec Tryz.prog K [.bool a, .bool b] (.bool (k a b))) (A B : List Nat) (hA : A.length <= 1000000) (hB : B.length <= 1000000) :
    PSpec Tryz.prog 168 [sliN A,sliN B,.fn K [] []] (sliN (mrg k A B)):=by
  refine PSpec.of_rn 64 ok168 rfl (by(try simp only[noRefs,Qaa,Qaj,Qag,Qal,Qah,noRef,Bool.and_self,Bool.and_true])<;>rfl) (Qab _) ?_
  simp(disch:=first|omega|(simp only[lenW]<;>omega)) only[s168,wV,simprocAttr]
  refine QaJ 120 (fun t:List Nat×List Nat×List Nat=>[(0,sliN t.1),(1,sliN t.2.1),(2,.fn K [] []),(7,.sl 50 0 0 t.2.2.length 1)]) (fun t=>[(50,.cells 0 (ints (nz t.2.2)))]) (fun t=>mrg k A B=t.2.2++mrg k t.1 t.2.1/\t.1.length+t.2.1.length+t.2.2.length<=2000000) (fun t=>t.1.length+t.2.1.length) (A,B,[]) ⟨[(50,.nil)],rfl,au0,au1,au2⟩ ⟨by simp,by simp;omega⟩ ?_
  rintro⟨A',B',out⟩ ⟨hm,hl⟩
  dsimp only at hm hl
  rcases A' with _|⟨a,A1⟩<;>rcases B' with _|⟨b,B1⟩
  · simp (disch := first | omega | (simp only [lenW] <;> omega)) only [List.length_nil, List.map_nil, wV, simprocAttr]
    refine⟨.inr trivial,_,rfl,?_⟩
    rw[hm,mrg,List.append_nil]
    exact Rn.fz0 rfl (by simp[ints]) (RnL.same (Qaa _))
  · have h1 : (0 : Int) < (B1.length : Int) + 1 := by omega
    have h2:¬(B1.length:Int)+1=0:=by omega
    simp only[List.length_nil,List.length_cons]at hl
    simp(disch:=first|omega|(simp only[lenW]<;>omega)) only[List.length_nil,List.length_cons,h1,h2,iaddr0,tk1,tk2,head0,Nat.add_sub_cancel,wV,simprocAttr]
    refine cp (hk false true) ?_
    rw[mrg]at hm
    cases hkb:k false true
    · simp (disch := first | omega | (simp only [lenW] <;> omega)) only [wV, simprocAttr]
      rw[if_neg (by simp[hkb]),List.nil_append]at hm
      exact⟨(([]:List Nat),(B1:List Nat),out),by simp<;>omega,⟨hm,by simp;omega⟩,⟨[(50,.blk 50 0)],rfl,au0,au1,au2⟩⟩
    · simp (disch := first | omega | (simp only [lenW] <;> omega)) only [wV, simprocAttr]
      rw[if_pos hkb,<-List.append_assoc]at hm
      refine⟨(([]:List Nat),(B1:List Nat),out++[b]),by simp<;>omega,⟨hm,by simp;omega⟩,?_⟩
      rw[QaL,QaD,List.length_append]
      exact⟨[(50,.blk 50 1)],rfl,au0,au1,au2⟩
  · have h1 : (0 : Int) < (A1.length : Int) + 1 := by omega
    have h2:¬(A1.length:Int)+1=0:=by omega
    simp only[List.length_nil,List.length_cons]at hl
    simp(disch:=first|omega|(simp only[lenW]<;>omega)) only[List.length_nil,List.length_cons,h1,h2,iaddr0,tk1,tk2,head0,Nat.add_sub_cancel,wV,simprocAttr]
    refine cp (hk true false) ?_
    rw[mrg]at hm
    cases hkb:k true false
    · simp (disch := first | omega | (simp only [lenW] <;> omega)) only [wV, simprocAttr]
      rw[if_neg (by simp[hkb]),List.nil_append]at hm
      exact⟨((A1:List Nat),([]:List Nat),out),by simp<;>omega,⟨hm,by simp;omega⟩,⟨[(50,.blk 50 0)],rfl,au0,au1,au2⟩⟩
    · simp (disch := first | omega | (simp only [lenW] <;> omega)) only [wV, simprocAttr]
      rw[if_pos hkb,<-List.append_assoc]at hm
      refine⟨((A1:List Nat),([]:List Nat),out++[a]),by simp<;>omega,⟨hm,by simp;omega⟩,?_⟩
      rw[QaL,QaD,List.length_append]
      exact⟨[(50,.blk 50 1)],rfl,au0,au1,au2⟩
  · have h1 : (0 : Int) < (A1.length : Int) + 1 := by omega
    have h2:¬(A1.length:Int)+1=0:=by omega
    have h3:(0:Int)<(B1.length:Int)+1:=by omega
    have h4:¬(B1.length:Int)+1=0:=by omega
    by_cases hab:a<b
    · have h5 : (a : Int) <= (b : Int) := by omega
      have h6:¬(b:Int)<=(a:Int):=by omega
      simp only[List.length_nil,List.length_cons]at hl
      simp(disch:=first|omega|(simp only[lenW]<;>omega)) only[List.length_nil,List.length_cons,h1,h2,h3,h4,h5,h6,iaddr0,tk1,tk2,head0,Nat.add_sub_cancel,wV,simprocAttr]
      refine cp (hk true false) ?_
      rw[mrg,if_pos hab]at hm
      cases hkb:k true false
      · simp (disch := first | omega | (simp only [lenW] <;> omega)) only [wV, simprocAttr]
        rw[if_neg (by simp[hkb]),List.nil_append]at hm
        exact⟨((A1:List Nat),(b::B1:List Nat),out),by simp<;>omega,⟨hm,by simp;omega⟩,⟨[(50,.blk 50 0)],rfl,au0,au1,au2⟩⟩
      · simp (disch := first | omega | (simp only [lenW] <;> omega)) only [wV, simprocAttr]
        rw[if_pos hkb,<-List.append_assoc]at hm
        refine⟨((A1:List Nat),(b::B1:List Nat),out++[a]),by simp<;>omega,⟨hm,by simp;omega⟩,?_⟩
        rw[QaL,QaD,List.length_append]
        exact⟨[(50,.blk 50 1)],rfl,au0,au1,au2⟩
    · by_cases hba : b < a
      · have h5 : ¬ (a : Int) <= (b : Int) := by omega
        have h6:(b:Int)<=(a:Int):=by omega
        simp only[List.length_nil,List.length_cons]at hl
        simp(disch:=first|omega|(simp only[lenW]<;>omega)) only[List.length_nil,List.length_cons,h1,h2,h3,h4,h5,h6,iaddr0,tk1,tk2,head0,Nat.add_sub_cancel,wV,simprocAttr]
        refine cp (hk false true) ?_
        rw[mrg,if_neg hab,if_pos hba]at hm
        cases hkb:k false true
        · simp (disch := first | omega | (simp only [lenW] <;> omega)) only [wV, simprocAttr]
          rw[if_neg (by simp[hkb]),List.nil_append]at hm
          exact⟨((a::A1:List Nat),(B1:List Nat),out),by simp<;>omega,⟨hm,by simp;omega⟩,⟨[(50,.blk 50 0)],rfl,au0,au1,au2⟩⟩
        · simp (disch := first | omega | (simp only [lenW] <;> omega)) only [wV, simprocAttr]
          rw[if_pos hkb,<-List.append_assoc]at hm
          refine⟨((a::A1:List Nat),(B1:List Nat),out++[b]),by simp<;>omega,⟨hm,by simp;omega⟩,?_⟩
          rw[QaL,QaD,List.length_append]
          exact⟨[(50,.blk 50 1)],rfl,au0,au1,au2⟩
      · have e1 : a = b := by omega
        subst e1
        have h5:(a:Int)<=(a:Int):=by omega
        simp only[List.length_nil,List.length_cons]at hl
        simp(disch:=first|omega|(simp only[lenW]<;>omega)) only[List.length_nil,List.length_cons,h1,h2,h3,h4,h5,iaddr0,tk1,tk2,head0,Nat.add_sub_cancel,wV,simprocAttr]
        refine cp (hk true true) ?_
        rw[mrg,if_neg hab,if_neg hba]at hm
        cases hkb:k true true
        · simp (disch := first | omega | (simp only [lenW] <;> omega)) only [wV, simprocAttr]
          rw[if_neg (by simp[hkb]),List.nil_append]at hm
          exact⟨((A1:List Nat),(B1:List Nat),out),by simp<;>omega,⟨hm,by simp;omega⟩,⟨[(50,.blk 50 0)],rfl,au0,au1,au2⟩⟩
        · simp (disch := first | omega | (simp only [lenW] <;> omega)) only [wV, simprocAttr]
          rw[if_pos hkb,<-List.append_assoc]at hm
          refine⟨((A1:List Nat),(B1:List Nat),out++[a]),by simp<;>omega,⟨hm,by simp;omega⟩,?_⟩
          rw[QaL,QaD,List.length_append]
          exact⟨[(50,.blk 50 1)],rfl,au0,au1,au2⟩
theorem union84 (A B:List Nat) (hA:A.length<=1000000) (hB:B.length<=1000000):PSpec Tryz.prog 84 [sliN A,sliN B] (sliN (mrg (fun a b=>a||b) A B)):=by
 refine PSpec.of_rn 64 ok84 rfl (by(try simp only[noRefs,Qaa,Qaj,Qag,Qal,Qah,noRef,Bool.and_self,Bool.and_true])<;>rfl) (Qab _) ?_
 simp(disch:=first|omega|(simp only[lenW]<;>omega)) only[s84,wV,simprocAttr]
 refine cp (merge168 169 _ union169 A B hA hB) ?_
 simp(disch:=first|omega|(simp only[lenW]<;>omega)) only[wV,simprocAttr]
 exact⟨.inr trivial,_,rfl,Rn.same (Qab _)⟩
theorem minus219 (A B:List Nat) (hA:A.length<=1000000) (hB:B.length<=1000000):PSpec Tryz.prog 219 [sliN A,sliN B] (sliN (mrg (fun a b=>a&& !b) A B)):=by
 refine PSpec.of_rn 64 ok219 rfl (by(try simp only[noRefs,Qaa,Qaj,Qag,Qal,Qah,noRef,Bool.and_self,Bool.and_true])<;>rfl) (Qab _) ?_
 simp(disch:=first|omega|(simp only[lenW]<;>omega)) only[s219,wV,simprocAttr]
 refine cp (merge168 242 _ minus242 A B hA hB) ?_
 simp(disch:=first|omega|(simp only[lenW]<;>omega)) only[wV,simprocAttr]
 exact⟨.inr trivial,_,rfl,Rn.same (Qab _)⟩
theorem subset167 (A B:List Nat) (hA:A.length<=1000000) (hB:B.length<=1000000):PSpec Tryz.prog 167 [sliN A,sliN B] (.bool (decide ((mrg (fun a b=>a&& !b) A B).length=0))):=by
  refine PSpec.Qau 64 ok167 rfl (by(try simp only[noRefs,Qaa,Qaj,Qag,Qal,Qah,noRef,Bool.and_self,Bool.and_true])<;>rfl) rfl ?_
  simp(disch:=first|omega|(simp only[lenW]<;>omega)) only[s167,wV,simprocAttr]
  refine cp (minus219 A B hA hB) ?_
  by_cases h:(mrg (fun a b=>a&& !b) A B).length=0
  · have h' : (((mrg (fun a b => a && !b) A B).length : Nat) : Int) = 0 := by omega
    simp(disch:=first|omega|(simp only[lenW]<;>omega)) only[h',wV,simprocAttr]
    exact⟨.inr trivial,_,rfl,by simp[resOf,QaM,h]⟩
  · have h' : ¬ (((mrg (fun a b => a && !b) A B).length : Nat) : Int) = 0 := by omega
    simp(disch:=first|omega|(simp only[lenW]<;>omega)) only[h',wV,simprocAttr]
    exact⟨.inr trivial,_,rfl,by simp[resOf,QaM,h]⟩
end Go.AM.SO
namespace Go.AM.SD
theorem Qgv {α : Type} (f : α -> Nat) : ∀ {l l' : List α}, l.Pairwise (fun a b => f a < f b) -> l'.Pairwise (fun a b => f a < f b) -> (∀ p, p ∈ l ↔ p ∈ l') -> l = l'
  |[],[],_,_,_=>rfl
  |[],y::l',_,_,hm=>absurd ((hm y).2 (by simp)) (by simp)
  |x::l,[],_,_,hm=>absurd ((hm x).1 (by simp)) (by simp)
  | x :: l, y :: l', h, h', hm => by
    rw[List.pairwise_cons]at h h'
    have hxy:x=y:=by
      rcases List.mem_cons.1 ((hm x).1 (by simp))with e|h1
      · exact e
      · rcases List.mem_cons.1 ((hm y).2 (by simp)) with e | h2
        · exact e.symm
        · have a:=h'.1 x h1;have b:=h.1 y h2;omega
    subst hxy
    have:l=l':=Qgv f h.2 h'.2 fun p=>by
      constructor
      · intro hp
        rcases List.mem_cons.1 ((hm p).1 (List.mem_cons_of_mem _ hp))with e|h1
        · subst e;have:=h.1 _ hp;omega
        · exact h1
      · intro hp
        rcases List.mem_cons.1 ((hm p).2 (List.mem_cons_of_mem _ hp))with e|h1
        · subst e;have:=h'.1 _ hp;omega
        · exact h1
    rw[this]
theorem uniqE {es:List Ed} (h:es.Pairwise fun x y=>x.1<y.1\/(x.1=y.1/\x.2.1<y.2.1)) {e e':Ed} (he:e∈es) (he':e'∈es) (h1:e.1=e'.1) (h2:e.2.1=e'.2.1):e=e':=by
 induction h with
 |nil=>cases he
 |cons hx _ ih=>
  rcases List.mem_cons.1 he with rfl|m1<;>rcases List.mem_cons.1 he' with rfl|m2
  ·rfl
  ·have:=hx _ m2;omega
  ·have:=hx _ m1;omega
  ·exact ih m1 m2
theorem Qdz {es:List Ed} (h:es.Pairwise fun x y=>x.1<y.1\/(x.1=y.1/\x.2.1<y.2.1)) {v ev to:Nat}:stepA es v ev=some to↔((v,ev,to):Ed)∈es:=by
 unfold stepA
 constructor
 ·intro hs
  cases hf:es.find? fun e=>e.1==v&&e.2.1==ev with
  |none=>rw[hf]at hs;cases hs
  |some e=>
   rw[hf]at hs;cases hs
   have h1:=List.find?_some hf
   simp only[Bool.and_eq_true,beq_iff_eq]at h1
   have h2:=List.mem_of_find?_eq_some hf
   obtain⟨a,b,c⟩:=e
   obtain⟨rfl,rfl⟩:=h1
   exact h2
 ·intro hm
  cases hf:es.find? fun e=>e.1==v&&e.2.1==ev with
  |none=>
   rw[List.find?_eq_none]at hf
   exact absurd (by simp) (hf _ hm)
  |some e=>
   have h1:=List.find?_some hf
   simp only[Bool.and_eq_true,beq_iff_eq]at h1
   rw[uniqE h (List.mem_of_find?_eq_some hf) hm h1.1 h1.2];rfl
theorem QkF {a:Aut} (h:WfA a) (v:Nat):sOut a.es (fun _=>true) v=a.al.filterMap fun ev=>(stepA a.es v ev).map fun to=>((v,ev,to):Ed):=by
 refine Qgv (fun e:Ed=>e.2.1) ?_ ?_ fun e=>?_
 ·have h1 : (sOut a.es (fun _ => true) v).Pairwise fun x y => x.1 < y.1 \/ (x.1 = y.1 /\ x.2.1 < y.2.1) := h.es.filter _
  refine h1.imp_of_mem fun{x y} hx hy hr=>?_
  have h2:=(QaU.1 hx).2.1
  have h3:=(QaU.1 hy).2.1
  omega
 ·refine List.Pairwise.filterMap _ (R := (· < ·)) ?_ h.al
  intro x y hxy p hp q hq
  cases hs:stepA a.es v x with
  |none=>rw[hs]at hp;cases hp
  |some to=>
   cases hs2:stepA a.es v y with
   |none=>rw[hs2]at hq;cases hq
   |some to2=>rw[hs]at hp;rw[hs2]at hq;cases hp;cases hq;exact hxy
 ·rw [QaU, List.mem_filterMap]
  constructor
  ·rintro ⟨he, rfl, _⟩
   obtain⟨x,y,z⟩:=e
   exact⟨y,h.ev _ he,by rw[(Qdz h.es).2 he];rfl⟩
  ·rintro ⟨ev, hev, hm⟩
   cases hs:stepA a.es v ev with
   |none=>rw[hs]at hm;cases hm
   |some to=>rw[hs]at hm;cases hm;exact⟨(Qdz h.es).1 hs,rfl,rfl⟩
theorem Qnu {a:Aut} (h:WfA a) (i v:Nat) (s:OE):(sRow a.es (fun _=>true) i v s).1=fRow a.al a.es v s.1:=by
 unfold sRow fRow
 rw[QkF h]
 have key:∀(al:List Nat) (s:OE),((al.filterMap fun ev=>(stepA a.es v ev).map fun to=>((v,ev,to):Ed)).foldl (sEd i) s).1=al.foldl (fEv a.es v) s.1:=by
  intro al
  induction al with
  |nil=>intro s;rfl
  | cons ev al ih =>
   intro s
   rw[List.filterMap_cons,List.foldl_cons]
   cases hs:stepA a.es v ev with
   |none=>
    have e:fEv a.es v s.1 ev=s.1:=by unfold fEv;rw[hs]
    rw[e];exact ih s
   |some to=>
    have e:fEv a.es v s.1 ev=if s.1.contains to then s.1 else s.1++[to]:=by unfold fEv;rw[hs]
    dsimp only[Option.map_some]
    rw[List.foldl_cons,ih,e]
    congr 1
    unfold sEd
    split<;>rfl
 exact key a.al s
theorem Qmt {a:Aut} (h:WfA a):∀(k i:Nat) (s:OE),(sQ a.es (fun _=>true) k i s).1=fQ a.al a.es k i s.1
 |0,_,_=>rfl
 |k+1,i,s=>by
  unfold sQ fQ
  cases s.1[i]? with
  |none=>rfl
  |some v=>dsimp only;rw[Qmt h k,Qnu h]
theorem Qnv {a:Aut} (h:WfA a):(sAll a fun _=>true).1=found a:=by
 unfold sAll found
 rw[Qmt h]
 by_cases h0:0<a.n
 ·rw[if_pos (by simp[h0]),if_pos h0]
 ·rw[if_neg (by simp[h0]),if_neg h0]
theorem QjX {a:Aut} (h:WfA a):canon a=restr a (fun _=>true):=by
 have hs:=(QeY (left:=fun _=>true) h).1
 have hf:=Qnv h
 have he:(sAll a fun _=>true).2=cRows a (found a):=by
  rw[hs.ed,hf]
  unfold cRows
  rw[List.flatMap_def,List.flatMap_def]
  congr 1
  refine List.map_congr_left fun i _=>?_
  rw[QkF h]
  unfold cRow
  rw[List.map_filterMap]
  congr 1
  funext ev
  rw[Option.map_map];rfl
 unfold canon restr
 rw[he,hf]
end Go.AM.SD
namespace Go.AM.SE
open Go.Proofs Go.AM.SD
theorem shr1 {i j:Nat}:aBin .shr (.int .u64 ((i:Int)+(j:Int))) (.int .u64 1)=some (.int .u64 (((i+j)/2:Nat):Int)):=by
 have h:(((i:Int)+(j:Int)).fdiv (2^(min (1:Int).toNat 64)))=(((i+j)/2:Nat):Int):=by
  rw[show min (1:Int).toNat 64=1 from rfl,Int.fdiv_eq_ediv_of_nonneg _ (by decide)];omega
 show(if(1:Int)<0 then none else some (AV.int .u64 (((i:Int)+(j:Int)).fdiv (2^(min (1:Int).toNat 64)))))=_
 rw[if_neg (by decide),h]
def lbN (l:List Nat) (t:Nat):Nat:=l.countP fun x=>decide (x<t)
theorem lb_eq:∀{l:List Nat} {t i:Nat},i<=l.length->(∀j,j<i->l.getD j 0<t)->(∀j,i<=j->j<l.length->¬l.getD j 0<t)->lbN l t=i
 |[],t,i,hi,_,_=>by simp at hi;subst hi;rfl
 |x::l,t,0,_,_,h2=>by
  unfold lbN
  rw[List.countP_eq_zero]
  intro y hy
  obtain⟨q,hq,hql⟩:=Qdq hy
  have:=h2 q (Nat.zero_le _) hql
  rw[List.getD_eq_getElem?_getD,hq]at this
  simpa using this
 |x::l,t,i+1,hi,h1,h2=>by
  have hx:x<t:=by have:=h1 0 (by omega);simpa using this
  have:=lb_eq (l:=l) (t:=t) (i:=i) (by simpa using hi) (fun j hj=>by have:=h1 (j+1) (by omega);simpa using this) (fun j hj hl=>by have:=h2 (j+1) (by omega) (by simpa using hl);simpa using this)
  unfold lbN at this⊢
  rw[List.countP_cons,this,if_pos (by simpa using hx)]
theorem lb_le {l:List Nat} {t:Nat}:lbN l t<=l.length:=List.countP_le_length
theorem QcD {l:List Nat} (h:l.Pairwise (· <= ·)) {p q:Nat} (hpq:p<=q) (hq:q<l.length):l.getD p 0<=l.getD q 0:=by
 rw[List.getD_eq_getElem?_getD,List.getD_eq_getElem?_getD,List.getElem?_eq_getElem (by omega),List.getElem?_eq_getElem hq]
 rcases Nat.lt_or_eq_of_le hpq with h1|h1
 ·exact List.pairwise_iff_getElem.1 h p q (by omega) hq h1
 ·subst h1;exact Nat.le_refl _
theorem Qje {l:List Nat} (h:l.Pairwise (· <= ·)) {t i:Nat} (h1:∀j,j<i->l.getD j 0<t) (h2:∀j,i<=j->j<l.length->¬l.getD j 0<t):l.contains t=decide (i<l.length/\l.getD i 0=t):=by
 rw[Bool.eq_iff_iff,decide_eq_true_iff,List.contains_iff_mem]
 constructor
 ·intro hm
  obtain⟨q,hq,hql⟩:=Qdq hm
  have hqd:l.getD q 0=t:=by rw[List.getD_eq_getElem?_getD,hq];rfl
  have hiq:i<=q:=by
   refine Nat.le_of_not_lt fun h3=>?_
   have:=h1 q h3;omega
  have h4:=QcD h hiq hql
  have h5:=h2 i (Nat.le_refl _) (by omega)
  exact⟨by omega,by omega⟩
 ·rintro ⟨hi, e⟩
  rw[<-e,List.getD_eq_getElem?_getD,List.getElem?_eq_getElem hi]
  exact List.getElem_mem hi
theorem nan81 (x:Int):PSpec Tryz.prog 227 [.int .i64 x] (.bool false):=by
 refine PSpec.Qau 64 ok227 rfl (by(try simp only[noRefs,Qaw,Qao,Qat,Qaa,Qaj,Qag,Qal,Qaz,Qah,noRef,Bool.and_self,Bool.and_true])<;>rfl) rfl ?_
 simp(disch:=first|omega|(simp only[lenW]<;>omega)) only[s227,wW,wV,simprocAttr]
 exact⟨.inr trivial,_,rfl,rfl⟩
theorem nan66 (x:Int):PSpec Tryz.prog 198 [.int .i64 x] (.bool false):=by
 refine PSpec.Qau 64 ok198 rfl (by(try simp only[noRefs,Qaw,Qao,Qat,Qaa,Qaj,Qag,Qal,Qaz,Qah,noRef,Bool.and_self,Bool.and_true])<;>rfl) rfl ?_
 simp(disch:=first|omega|(simp only[lenW]<;>omega)) only[s198,wW,wV,simprocAttr]
 exact⟨.inr trivial,_,rfl,rfl⟩
theorem less65 (x y:Int):PSpec Tryz.prog 197 [.int .i64 x,.int .i64 y] (.bool (decide (x<y))):=by
 refine PSpec.Qau 64 ok197 rfl (by(try simp only[noRefs,Qaw,Qao,Qat,Qaa,Qaj,Qag,Qal,Qaz,Qah,noRef,Bool.and_self,Bool.and_true])<;>rfl) rfl ?_
 simp(disch:=first|omega|(simp only[lenW]<;>omega)) only[s197,wW,wV,simprocAttr]
 refine cp (nan81 x) ?_
 simp(disch:=first|omega|(simp only[lenW]<;>omega)) only[wW,wV,simprocAttr]
 exact⟨.inr trivial,_,rfl,rfl⟩
theorem find57 (l : List Nat) (t : Nat) (hs : l.Pairwise (· <= ·)) (hl : l.length <= 1000000) : PSpec Tryz.prog 144 [sliN l, .int .i64 (t : Int)] (.tup [.int .i64 (lbN l t : Int), .bool (l.contains t)]) := by
  refine PSpec.Qau 64 ok144 rfl (by(try simp only[noRefs,Qaw,Qao,Qat,Qaa,Qaj,Qag,Qal,Qaz,Qah,noRef,Bool.and_self,Bool.and_true])<;>rfl) rfl ?_
  simp(disch:=first|omega|(simp only[lenW]<;>omega)) only[s144,wW,wV,simprocAttr]
  refine Qar 100 (fun p:Nat×Nat=>[(0,sliN l),(1,.int .i64 (t:Int)),(6,.int .i64 l.length),(7,.int .i64 p.1),(8,.int .i64 p.2)]) (fun _=>[])
    (fun p=>p.1<=p.2/\p.2<=l.length/\(∀q,q<p.1->l.getD q 0<t)/\∀q,p.2<=q->q<l.length->¬l.getD q 0<t) (fun p=>p.2-p.1) (0,l.length) 0 140
    (fun i:Nat=>[(0,sliN l),(1,.int .i64 (t:Int)),(6,.int .i64 l.length),(7,.int .i64 i)]) (fun _=>[])
    (fun i=>i<=l.length/\(∀q,q<i->l.getD q 0<t)/\∀q,i<=q->q<l.length->¬l.getD q 0<t) ?_ ⟨Nat.zero_le _,Nat.le_refl _,fun q hq=>absurd hq (Nat.not_lt_zero _),fun q h1 h2=>by omega⟩ ?_ ?_
  · exact⟨[],rfl,au0,au7,au8⟩
  · rintro ⟨i, j⟩ ⟨hij, hj, h1, h2⟩
    dsimp only at hij hj h1 h2⊢
    by_cases hlt:i<j
    · obtain ⟨k, hk, hk1, hk2⟩ : ∃ k : Nat, aBin .shr (.int .u64 ((i : Int) + (j : Int))) (.int .u64 1) = some (.int .u64 (k : Int)) /\ i <= k /\ k < j := ⟨(i + j) / 2, shr1, by omega, by omega⟩
      have hkl:k<l.length:=by omega
      have hkx:l[k]?=some (l.getD k 0):=by rw[List.getElem?_eq_getElem hkl];simp[hkl]
      simp(disch:=first|omega|(simp only[lenW]<;>omega)) only[hlt,hk,hkl,QaI hkx,wW,wV,simprocAttr]
      refine cp (less65 _ _) ?_
      by_cases hc:l.getD k 0<t
      · rw [decide_eq_true (by omega)]
        simp(disch:=first|omega|(simp only[lenW]<;>omega)) only[wW,wV,simprocAttr]
        refine⟨(k+1,j),by dsimp only;omega,⟨by dsimp only;omega,hj,fun q hq=>?_,h2⟩,⟨[],rfl,au0,au7,au8⟩⟩
        have:=QcD hs (p:=q) (q:=k) (by dsimp only at hq;omega) hkl
        omega
      · rw [decide_eq_false (by omega)]
        simp(disch:=first|omega|(simp only[lenW]<;>omega)) only[wW,wV,simprocAttr]
        refine⟨(i,k),by dsimp only;omega,⟨hk1,by dsimp only;omega,h1,fun q hq hql=>?_⟩,⟨[],rfl,au0,au7,au8⟩⟩
        have:=QcD hs (p:=k) (q:=q) hq hql
        omega
    · have e : i = j := by omega
      subst e
      simp(disch:=first|omega|(simp only[lenW]<;>omega)) only[hlt,wW,wV,simprocAttr]
      exact⟨i,⟨hj,h1,h2⟩,⟨[],rfl,au0,au7,au8⟩⟩
  rintro i ⟨hi,h1,h2⟩
  rw[lb_eq hi h1 h2,Qje hs h1 h2]
  by_cases hlt:i<l.length
  · have hx : l[i]? = some (l.getD i 0) := by rw [List.getElem?_eq_getElem hlt]; simp [hlt]
    by_cases he:l.getD i 0=t
    · rw [decide_eq_true ⟨hlt, he⟩]
      rw[he]at hx
      simp(disch:=first|omega|(simp only[lenW]<;>omega)) only[hlt,QaI hx,wW,wV,simprocAttr]
      exact⟨.inr trivial,_,rfl,rfl⟩
    · rw [decide_eq_false fun h => he h.2]
      generalize l.getD i 0=y at*
      have he':¬(y:Int)=(t:Int):=by omega
      simp(disch:=first|omega|(simp only[lenW]<;>omega)) only[hlt,QaI hx,he',wW,wV,simprocAttr]
      refine cp (nan66 _) ?_
      simp(disch:=first|omega|(simp only[lenW]<;>omega)) only[wW,wV,simprocAttr]
      exact⟨.inr trivial,_,rfl,rfl⟩
  · rw [decide_eq_false fun h => hlt h.1]
    simp(disch:=first|omega|(simp only[lenW]<;>omega)) only[hlt,wW,wV,simprocAttr]
    exact⟨.inr trivial,_,rfl,rfl⟩
end Go.AM.SE
namespace Go.AM.SE
open Go.Proofs Go.AM.SD
abbrev edV (e:Ed):AV:= .agg [.int .i64 (e.1:Int),.int .i64 (e.2.1:Int),.int .i64 (e.2.2:Int)]
theorem Qmu (x y:Ed):aEq (.flat true [.i,.i,.i]) true (edV x) (edV y)=some (.bool (!decide (x=y))):=by
 have:∀n m:Nat,decide ((n:Int)=(m:Int))=decide (n=m):=fun n m=>decide_eq_decide.2 (by omega)
 obtain⟨a,b,c⟩:=x
 obtain⟨a',b',c'⟩:=y
 simp only[aEq,eqCells,eqCell,if_true]
 simp only[Prod.mk.injEq,Bool.decide_and,this]
 cases decide (a=a')<;>cases decide (b=b')<;>cases decide (c=c')<;>rfl
theorem eq41 (a b : List Int) (hl : b.length <= 1000000) : PSpec Tryz.prog 31 [sli a, sli b] (.bool (decide (a = b))) := by
  refine PSpec.Qau 64 ok31 rfl (by(try simp only[noRefs,Qaw,Qao,Qat,Qaa,Qaj,Qag,Qal,Qaz,Qah,noRef,Bool.and_self,Bool.and_true])<;>rfl) rfl ?_
  by_cases hab:a.length=b.length
  · simp (disch := first | omega | (simp only [lenW] <;> omega)) only [s31, hab, wW, wV, simprocAttr]
    refine QaJ 100 (fun i:Nat=>[(0,sli a),(1,sli b),(12,.int .i64 b.length),(13,.int .i64 i)]) (fun _=>[]) (fun i=>i<=b.length/\∀j,j<i->a[j]?=b[j]?) (fun i=>b.length-i) 0 ⟨[],rfl,au0,au7,au8⟩ ⟨Nat.zero_le _,fun j hj=>absurd hj (Nat.not_lt_zero _)⟩ ?_
    rintro i ⟨hi,hb⟩
    by_cases hlt:i<b.length
    · obtain ⟨x, hx⟩ := Qak (l := a) (i := i) (by omega)
      obtain⟨y,hy⟩:=Qak (l:=b) (i:=i) (by omega)
      have hlt2:i<a.length:=by omega
      by_cases h0:x=y
      · have hq : True := by trivial
        simp(disch:=first|omega|(simp only[lenW]<;>omega)) only[hlt,hlt2,Qa0 hx,Qa0 hy,h0,hq,wW,wV,simprocAttr]
        refine⟨i+1,by omega,⟨by omega,fun j hj=>?_⟩,⟨[],rfl,au0,au7,au8⟩⟩
        by_cases e:j=i
        · subst e;rw[hx,hy,h0]
        · exact hb j (by omega)
      · have hq : True := by trivial
        simp(disch:=first|omega|(simp only[lenW]<;>omega)) only[hlt,hlt2,Qa0 hx,Qa0 hy,h0,hq,wW,wV,simprocAttr]
        refine⟨.inr trivial,_,rfl,?_⟩
        have:a≠b:=fun e=>by subst e;rw[hx]at hy;cases hy;exact h0 rfl
        simp[resOf,QaM,this]
    · have : a = b := List.ext_getElem? fun j => by
        by_cases hj:j<i
        · exact hb j hj
        · rw[List.getElem?_eq_none (by omega),List.getElem?_eq_none (by omega)]
      simp(disch:=first|omega|(simp only[lenW]<;>omega)) only[hlt,wW,wV,simprocAttr]
      exact⟨.inr trivial,_,rfl,by simp[resOf,QaM,this]⟩
  · simp (disch := first | omega | (simp only [lenW] <;> omega)) only [s31, hab, wW, wV, simprocAttr]
    have:a≠b:=fun e=>hab (by rw[e])
    exact⟨.inr trivial,_,rfl,by simp[resOf,QaM,this]⟩
theorem eq55 (a b : List Ed) (hl : b.length <= 10000000) : PSpec Tryz.prog 106 [egsN a, egsN b] (.bool (decide (a = b))) := by
  refine PSpec.Qau 64 ok106 rfl (by(try simp only[noRefs,Qaw,Qao,Qat,Qaa,Qaj,Qag,Qal,Qaz,Qah,noRef,Bool.and_self,Bool.and_true])<;>rfl) rfl ?_
  by_cases hab:a.length=b.length
  · simp (disch := first | omega | (simp only [lenW] <;> omega)) only [s106, hab, wW, wV, simprocAttr]
    refine QaJ 100 (fun i:Nat=>[(0,egsN a),(1,egsN b),(12,.int .i64 b.length),(13,.int .i64 i)]) (fun _=>[]) (fun i=>i<=b.length/\∀j,j<i->a[j]?=b[j]?) (fun i=>b.length-i) 0 ⟨[],rfl,au0,au7,au8⟩ ⟨Nat.zero_le _,fun j hj=>absurd hj (Nat.not_lt_zero _)⟩ ?_
    rintro i ⟨hi,hb⟩
    by_cases hlt:i<b.length
    · obtain ⟨x, hx⟩ := Qak (l := a) (i := i) (by omega)
      obtain⟨y,hy⟩:=Qak (l:=b) (i:=i) (by omega)
      have hlt2:i<a.length:=by omega
      by_cases h0:x=y
      · have hq : aEq (.flat true [.i, .i, .i]) true (edV y) (edV y) = some (.bool false) := by rw [Qmu]; simp
        simp(disch:=first|omega|(simp only[lenW]<;>omega)) only[hlt,hlt2,QaR hx,QaR hy,h0,hq,wW,wV,simprocAttr]
        refine⟨i+1,by omega,⟨by omega,fun j hj=>?_⟩,⟨[],rfl,au0,au7,au8⟩⟩
        by_cases e:j=i
        · subst e;rw[hx,hy,h0]
        · exact hb j (by omega)
      · have hq : aEq (.flat true [.i, .i, .i]) true (edV x) (edV y) = some (.bool true) := by rw [Qmu]; simp [h0]
        simp(disch:=first|omega|(simp only[lenW]<;>omega)) only[hlt,hlt2,QaR hx,QaR hy,h0,hq,wW,wV,simprocAttr]
        refine⟨.inr trivial,_,rfl,?_⟩
        have:a≠b:=fun e=>by subst e;rw[hx]at hy;cases hy;exact h0 rfl
        simp[resOf,QaM,this]
    · have : a = b := List.ext_getElem? fun j => by
        by_cases hj:j<i
        · exact hb j hj
        · rw[List.getElem?_eq_none (by omega),List.getElem?_eq_none (by omega)]
      simp(disch:=first|omega|(simp only[lenW]<;>omega)) only[hlt,wW,wV,simprocAttr]
      exact⟨.inr trivial,_,rfl,by simp[resOf,QaM,this]⟩
  · simp (disch := first | omega | (simp only [lenW] <;> omega)) only [s106, hab, wW, wV, simprocAttr]
    have:a≠b:=fun e=>hab (by rw[e])
    exact⟨.inr trivial,_,rfl,by simp[resOf,QaM,this]⟩
theorem QoQ {a b : List Nat} : decide (nz a = nz b) = decide (a = b) := by
  refine decide_eq_decide.2 ⟨fun h=>?_,fun h=>by rw[h]⟩
  have:∀a b:List Nat,nz a=nz b->a=b:=by
    intro a
    induction a with
    | nil => intro b h; cases b with
      |nil=>rfl
      |cons=>simp at h
    | cons x a ih => intro b h; cases b with
      |nil=>simp at h
      | cons y b =>
        simp only[nz,List.map_cons,List.cons.injEq]at h
        rw[ih b h.2,show x=y by omega]
  exact this a b h
theorem eq41N (a b:List Nat) (hl:b.length<=1000000):PSpec Tryz.prog 31 [sliN a,sliN b] (.bool (decide (a=b))):=by
 have:=eq41 (nz a) (nz b) (by simpa using hl)
 rw[QbY,QbY,QoQ]at this;exact this
def autB (x y:Aut):Bool:=decide (x.n=y.n)&&(decide (x.al=y.al)&&(decide (x.ms=y.ms)&&decide (x.es=y.es)))
structure AOk (r:Aut):Prop where
 al:r.al.length<=1000000
 ms:r.ms.length<=1000000
 es:r.es.length<=10000000
theorem eq43 (x y:Aut) (hx:AOk x) (hy:AOk y):PSpec Tryz.prog 33 [aV x,aV y] (.bool (autB x y)):=by
 refine PSpec.Qau 64 ok33 rfl (by(try simp only[noRefs,Qaw,Qao,Qat,Qaa,Qaj,Qag,Qal,Qaz,Qah,noRef,Bool.and_self,Bool.and_true])<;>rfl) rfl ?_
 have c1:=eq41N x.al y.al hy.al
 have c2:=eq41N x.ms y.ms hy.ms
 have c3:=eq55 x.es y.es hy.es
 unfold autB
 by_cases h1:x.n=y.n
 ·rw [decide_eq_true h1, Bool.true_and]
  generalize decide (x.al=y.al)=b1 at*
  generalize decide (x.ms=y.ms)=b2 at*
  generalize decide (x.es=y.es)=b3 at*
  simp(disch:=first|omega|(simp only[lenW]<;>omega)) only[s33,h1,wW,wV,simprocAttr]
  refine cp c1 ?_
  cases b1 with
  |false=>
   simp(disch:=first|omega|(simp only[lenW]<;>omega)) only[wW,wV,simprocAttr]
   exact⟨.inr trivial,_,rfl,rfl⟩
  | true =>
   simp(disch:=first|omega|(simp only[lenW]<;>omega)) only[wW,wV,simprocAttr]
   refine cp c2 ?_
   cases b2 with
   |false=>
    simp(disch:=first|omega|(simp only[lenW]<;>omega)) only[wW,wV,simprocAttr]
    exact⟨.inr trivial,_,rfl,rfl⟩
   |true=>
    simp(disch:=first|omega|(simp only[lenW]<;>omega)) only[wW,wV,simprocAttr]
    refine cp c3 ?_
    simp(disch:=first|omega|(simp only[lenW]<;>omega)) only[wW,wV,simprocAttr]
    exact⟨.inr trivial,_,rfl,rfl⟩
 ·rw [decide_eq_false h1, Bool.false_and]
  simp(disch:=first|omega|(simp only[lenW]<;>omega)) only[s33,h1,wW,wV,simprocAttr]
  exact⟨.inr trivial,_,rfl,rfl⟩
theorem QeS (x:Aut):autB x x=true:=by simp[autB]
end Go.AM.SE
namespace Go.AM.SE
open Go.Proofs Go.AM.SD
abbrev froms (es:List Ed):List Nat:=es.map (·.1)
theorem QhU:∀(l:List Ed) (i:Nat),(l.flatMap edC).drop (i*3)=(l.drop i).flatMap edC
 |l,0=>by simp
 |[],i+1=>by simp
 |e::l,i+1=>by
  rw[List.flatMap_cons,Nat.succ_mul,List.drop_succ_cons]
  show List.drop (i*3+3) (_::_::_::l.flatMap edC)=_
  rw[List.drop_succ_cons,List.drop_succ_cons,List.drop_succ_cons]
  exact QhU l i
theorem QhV:∀(l:List Ed) (i:Nat),(l.flatMap edC).take (i*3)=(l.take i).flatMap edC
 |l,0=>by simp
 |[],i+1=>by simp
 |e::l,i+1=>by
  rw[List.flatMap_cons,Nat.succ_mul,List.take_succ_cons,List.flatMap_cons]
  show List.take (i*3+3) (_::_::_::l.flatMap edC)=_
  rw[List.take_succ_cons,List.take_succ_cons,List.take_succ_cons,QhV l i];rfl
theorem QkG {x t:Nat} {l:List Nat}:lbN (x::l) t=lbN l t+if x<t then 1 else 0:=by
 unfold lbN;rw[List.countP_cons];simp
theorem QgQ {l:List Nat} {t:Nat} (h:∀x∈l,t<=x):lbN l t=0:=by
 unfold lbN
 rw[List.countP_eq_zero]
 intro x hx;have:=h x hx;simp;omega
theorem Qmv:∀{es:List Ed},es.Pairwise (fun a b=>a.1<=b.1)->∀v:Nat,(es.drop (lbN (froms es) v)).take (lbN (froms es) (v+1)-lbN (froms es) v)=sOut es (fun _=>true) v
 |[],_,_=>by simp[sOut]
 | e :: es, h, v => by
  rw[List.pairwise_cons]at h
  have ih:=Qmv h.2 v
  have ef:froms (e::es)=e.1::froms es:=rfl
  have so:sOut (e::es) (fun _=>true) v=if e.1=v then e::sOut es (fun _=>true) v else sOut es (fun _=>true) v:=by
   unfold sOut;rw[List.filter_cons];simp
  rw[ef,QkG,QkG,so]
  rcases Nat.lt_trichotomy e.1 v with h1|h1|h1
  ·rw[if_pos h1,if_pos (by omega),if_neg (by omega),List.drop_succ_cons,Nat.add_sub_add_right,ih]
  ·have hz : lbN (froms es) v = 0 := QgQ fun x hx => by
    obtain⟨y,hy,rfl⟩:=List.mem_map.1 hx
    have:=h.1 y hy;omega
   rw[hz]at ih⊢
   have i1:¬e.1<v:=by omega
   have i2:e.1<v+1:=by omega
   simp only[if_neg i1,if_pos i2,if_pos h1,Nat.add_zero,List.drop_zero,Nat.sub_zero,List.take_succ_cons]
   rw[List.drop_zero,Nat.sub_zero]at ih
   rw[ih]
  ·have hz : lbN (froms es) v = 0 := QgQ fun x hx => by
    obtain⟨y,hy,rfl⟩:=List.mem_map.1 hx
    have:=h.1 y hy;omega
   have hz2:lbN (froms es) (v+1)=0:=QgQ fun x hx=>by
    obtain⟨y,hy,rfl⟩:=List.mem_map.1 hx
    have:=h.1 y hy;omega
   rw[hz,hz2]at ih⊢
   rw[if_neg (by omega),if_neg (by omega),if_neg (by omega)]
   simpa using ih
theorem sub229 (e:Ed) (t:Nat) (he:e.1<=1000000) (ht:t<=1000000):PSpec Tryz.prog 229 [edV e,.int .i64 (t:Int)] (.int .i64 ((e.1:Int)-(t:Int))):=by
 refine PSpec.Qau 64 ok229 rfl (by(try simp only[noRefs,Qaw,Qao,Qat,Qaa,Qaj,Qag,Qal,Qaz,Qah,noRef,Bool.and_self,Bool.and_true])<;>rfl) rfl ?_
 simp(disch:=first|omega|(simp only[lenW]<;>omega)) only[s229,wW,wV,simprocAttr]
 exact⟨.inr trivial,_,rfl,rfl⟩
theorem sub230 (e:Ed) (t:Nat) (he:e.1<=1000000) (ht:t<=1000000):PSpec Tryz.prog 230 [edV e,.int .i64 (t:Int)] (.int .i64 ((e.1:Int)-(t:Int))):=by
 refine PSpec.Qau 64 ok230 rfl (by(try simp only[noRefs,Qaw,Qao,Qat,Qaa,Qaj,Qag,Qal,Qaz,Qah,noRef,Bool.and_self,Bool.and_true])<;>rfl) rfl ?_
 simp(disch:=first|omega|(simp only[lenW]<;>omega)) only[s230,wW,wV,simprocAttr]
 exact⟨.inr trivial,_,rfl,rfl⟩
theorem find67 (es : List Ed) (t : Nat) (hs : (froms es).Pairwise (· <= ·)) (hb : ∀ e ∈ es, e.1 <= 1000000) (ht : t <= 1000000) (hl : es.length <= 1000000) : PSpec Tryz.prog 228 [egsN es, .int .i64 (t : Int), .fn 229 [] []] (.tup [.int .i64 (lbN (froms es) t : Int), .bool ((froms es).contains t)]) := by
  refine PSpec.Qau 64 ok228 rfl (by(try simp only[noRefs,Qaw,Qao,Qat,Qaa,Qaj,Qag,Qal,Qaz,Qah,noRef,Bool.and_self,Bool.and_true])<;>rfl) rfl ?_
  have hfl:(froms es).length=es.length:=by simp
  simp(disch:=first|omega|(simp only[lenW]<;>omega)) only[s228,wW,wV,simprocAttr]
  refine Qar 100 (fun p:Nat×Nat=>[(0,egsN es),(1,.int .i64 (t:Int)),(2,.fn 229 [] []),(8,.int .i64 es.length),(9,.int .i64 p.1),(10,.int .i64 p.2)]) (fun _=>[])
    (fun p=>p.1<=p.2/\p.2<=es.length/\(∀q,q<p.1->(froms es).getD q 0<t)/\∀q,p.2<=q->q<es.length->¬(froms es).getD q 0<t) (fun p=>p.2-p.1) (0,es.length) 0 140
    (fun i:Nat=>[(0,egsN es),(1,.int .i64 (t:Int)),(2,.fn 229 [] []),(8,.int .i64 es.length),(9,.int .i64 i)]) (fun _=>[])
    (fun i=>i<=es.length/\(∀q,q<i->(froms es).getD q 0<t)/\∀q,i<=q->q<es.length->¬(froms es).getD q 0<t) ?_ ⟨Nat.zero_le _,Nat.le_refl _,fun q hq=>absurd hq (Nat.not_lt_zero _),fun q h1 h2=>by omega⟩ ?_ ?_
  · exact⟨[],rfl,au0,au7,au8⟩
  · rintro ⟨i, j⟩ ⟨hij, hj, h1, h2⟩
    dsimp only at hij hj h1 h2⊢
    by_cases hlt:i<j
    · obtain ⟨k, hk, hk1, hk2⟩ : ∃ k : Nat, aBin .shr (.int .u64 ((i : Int) + (j : Int))) (.int .u64 1) = some (.int .u64 (k : Int)) /\ i <= k /\ k < j := ⟨(i + j) / 2, shr1, by omega, by omega⟩
      have hkl:k<es.length:=by omega
      obtain⟨e,he⟩:=Qak hkl
      have hke:(froms es).getD k 0=e.1:=by rw[List.getD_eq_getElem?_getD,List.getElem?_map,he];rfl
      have heb:=hb e (List.mem_of_getElem? he)
      simp(disch:=first|omega|(simp only[lenW]<;>omega)) only[hlt,hk,hkl,QaR he,wW,wV,simprocAttr]
      refine cp (sub229 e t heb ht) ?_
      by_cases hc:e.1<t
      · have hc' : (e.1 : Int) - (t : Int) < 0 := by omega
        simp(disch:=first|omega|(simp only[lenW]<;>omega)) only[hc',wW,wV,simprocAttr]
        refine⟨(k+1,j),by dsimp only;omega,⟨by dsimp only;omega,hj,fun q hq=>?_,h2⟩,⟨[],rfl,au0,au7,au8⟩⟩
        have:=QcD hs (p:=q) (q:=k) (by dsimp only at hq;omega) (by omega)
        omega
      · have hc' : ¬ (e.1 : Int) - (t : Int) < 0 := by omega
        simp(disch:=first|omega|(simp only[lenW]<;>omega)) only[hc',wW,wV,simprocAttr]
        refine⟨(i,k),by dsimp only;omega,⟨hk1,by dsimp only;omega,h1,fun q hq hql=>?_⟩,⟨[],rfl,au0,au7,au8⟩⟩
        have:=QcD hs (p:=k) (q:=q) hq (by omega)
        omega
    · have e : i = j := by omega
      subst e
      simp(disch:=first|omega|(simp only[lenW]<;>omega)) only[hlt,wW,wV,simprocAttr]
      exact⟨i,⟨hj,h1,h2⟩,⟨[],rfl,au0,au7,au8⟩⟩
  rintro i ⟨hi,h1,h2⟩
  rw[lb_eq (by omega) h1 fun q a b=>h2 q a (by omega),Qje hs h1 fun q a b=>h2 q a (by omega)]
  by_cases hlt:i<es.length
  · obtain ⟨e, he⟩ := Qak hlt
    have hke:(froms es).getD i 0=e.1:=by rw[List.getD_eq_getElem?_getD,List.getElem?_map,he];rfl
    have heb:=hb e (List.mem_of_getElem? he)
    rw[hke]
    by_cases hc:e.1=t
    · rw [decide_eq_true ⟨by omega, hc⟩]
      have hc':(e.1:Int)-(t:Int)=0:=by omega
      simp(disch:=first|omega|(simp only[lenW]<;>omega)) only[hlt,QaR he,wW,wV,simprocAttr]
      refine cp (sub229 e t heb ht) ?_
      simp(disch:=first|omega|(simp only[lenW]<;>omega)) only[hc',wW,wV,simprocAttr]
      exact⟨.inr trivial,_,rfl,rfl⟩
    · rw [decide_eq_false fun h => hc h.2]
      have hc':¬(e.1:Int)-(t:Int)=0:=by omega
      simp(disch:=first|omega|(simp only[lenW]<;>omega)) only[hlt,QaR he,wW,wV,simprocAttr]
      refine cp (sub229 e t heb ht) ?_
      simp(disch:=first|omega|(simp only[lenW]<;>omega)) only[hc',wW,wV,simprocAttr]
      exact⟨.inr trivial,_,rfl,rfl⟩
  · rw [decide_eq_false fun h => hlt (by omega)]
    simp(disch:=first|omega|(simp only[lenW]<;>omega)) only[hlt,wW,wV,simprocAttr]
    exact⟨.inr trivial,_,rfl,rfl⟩
theorem find67b (es : List Ed) (t : Nat) (hs : (froms es).Pairwise (· <= ·)) (hb : ∀ e ∈ es, e.1 <= 1000000) (ht : t <= 1000000) (hl : es.length <= 1000000) : PSpec Tryz.prog 228 [egsN es, .int .i64 (t : Int), .fn 230 [] []] (.tup [.int .i64 (lbN (froms es) t : Int), .bool ((froms es).contains t)]) := by
  refine PSpec.Qau 64 ok228 rfl (by(try simp only[noRefs,Qaw,Qao,Qat,Qaa,Qaj,Qag,Qal,Qaz,Qah,noRef,Bool.and_self,Bool.and_true])<;>rfl) rfl ?_
  have hfl:(froms es).length=es.length:=by simp
  simp(disch:=first|omega|(simp only[lenW]<;>omega)) only[s228,wW,wV,simprocAttr]
  refine Qar 100 (fun p:Nat×Nat=>[(0,egsN es),(1,.int .i64 (t:Int)),(2,.fn 230 [] []),(8,.int .i64 es.length),(9,.int .i64 p.1),(10,.int .i64 p.2)]) (fun _=>[])
    (fun p=>p.1<=p.2/\p.2<=es.length/\(∀q,q<p.1->(froms es).getD q 0<t)/\∀q,p.2<=q->q<es.length->¬(froms es).getD q 0<t) (fun p=>p.2-p.1) (0,es.length) 0 140
    (fun i:Nat=>[(0,egsN es),(1,.int .i64 (t:Int)),(2,.fn 230 [] []),(8,.int .i64 es.length),(9,.int .i64 i)]) (fun _=>[])
    (fun i=>i<=es.length/\(∀q,q<i->(froms es).getD q 0<t)/\∀q,i<=q->q<es.length->¬(froms es).getD q 0<t) ?_ ⟨Nat.zero_le _,Nat.le_refl _,fun q hq=>absurd hq (Nat.not_lt_zero _),fun q h1 h2=>by omega⟩ ?_ ?_
  · exact⟨[],rfl,au0,au7,au8⟩
  · rintro ⟨i, j⟩ ⟨hij, hj, h1, h2⟩
    dsimp only at hij hj h1 h2⊢
    by_cases hlt:i<j
    · obtain ⟨k, hk, hk1, hk2⟩ : ∃ k : Nat, aBin .shr (.int .u64 ((i : Int) + (j : Int))) (.int .u64 1) = some (.int .u64 (k : Int)) /\ i <= k /\ k < j := ⟨(i + j) / 2, shr1, by omega, by omega⟩
      have hkl:k<es.length:=by omega
      obtain⟨e,he⟩:=Qak hkl
      have hke:(froms es).getD k 0=e.1:=by rw[List.getD_eq_getElem?_getD,List.getElem?_map,he];rfl
      have heb:=hb e (List.mem_of_getElem? he)
      simp(disch:=first|omega|(simp only[lenW]<;>omega)) only[hlt,hk,hkl,QaR he,wW,wV,simprocAttr]
      refine cp (sub230 e t heb ht) ?_
      by_cases hc:e.1<t
      · have hc' : (e.1 : Int) - (t : Int) < 0 := by omega
        simp(disch:=first|omega|(simp only[lenW]<;>omega)) only[hc',wW,wV,simprocAttr]
        refine⟨(k+1,j),by dsimp only;omega,⟨by dsimp only;omega,hj,fun q hq=>?_,h2⟩,⟨[],rfl,au0,au7,au8⟩⟩
        have:=QcD hs (p:=q) (q:=k) (by dsimp only at hq;omega) (by omega)
        omega
      · have hc' : ¬ (e.1 : Int) - (t : Int) < 0 := by omega
        simp(disch:=first|omega|(simp only[lenW]<;>omega)) only[hc',wW,wV,simprocAttr]
        refine⟨(i,k),by dsimp only;omega,⟨hk1,by dsimp only;omega,h1,fun q hq hql=>?_⟩,⟨[],rfl,au0,au7,au8⟩⟩
        have:=QcD hs (p:=k) (q:=q) hq (by omega)
        omega
    · have e : i = j := by omega
      subst e
      simp(disch:=first|omega|(simp only[lenW]<;>omega)) only[hlt,wW,wV,simprocAttr]
      exact⟨i,⟨hj,h1,h2⟩,⟨[],rfl,au0,au7,au8⟩⟩
  rintro i ⟨hi,h1,h2⟩
  rw[lb_eq (by omega) h1 fun q a b=>h2 q a (by omega),Qje hs h1 fun q a b=>h2 q a (by omega)]
  by_cases hlt:i<es.length
  · obtain ⟨e, he⟩ := Qak hlt
    have hke:(froms es).getD i 0=e.1:=by rw[List.getD_eq_getElem?_getD,List.getElem?_map,he];rfl
    have heb:=hb e (List.mem_of_getElem? he)
    rw[hke]
    by_cases hc:e.1=t
    · rw [decide_eq_true ⟨by omega, hc⟩]
      have hc':(e.1:Int)-(t:Int)=0:=by omega
      simp(disch:=first|omega|(simp only[lenW]<;>omega)) only[hlt,QaR he,wW,wV,simprocAttr]
      refine cp (sub230 e t heb ht) ?_
      simp(disch:=first|omega|(simp only[lenW]<;>omega)) only[hc',wW,wV,simprocAttr]
      exact⟨.inr trivial,_,rfl,rfl⟩
    · rw [decide_eq_false fun h => hc h.2]
      have hc':¬(e.1:Int)-(t:Int)=0:=by omega
      simp(disch:=first|omega|(simp only[lenW]<;>omega)) only[hlt,QaR he,wW,wV,simprocAttr]
      refine cp (sub230 e t heb ht) ?_
      simp(disch:=first|omega|(simp only[lenW]<;>omega)) only[hc',wW,wV,simprocAttr]
      exact⟨.inr trivial,_,rfl,rfl⟩
  · rw [decide_eq_false fun h => hlt (by omega)]
    simp(disch:=first|omega|(simp only[lenW]<;>omega)) only[hlt,wW,wV,simprocAttr]
    exact⟨.inr trivial,_,rfl,rfl⟩
theorem out58 (a:Aut) (v:Nat) (h:WfA a) (hel:a.es.length<=1000000) (hv:v<=1000):PSpec Tryz.prog 199 [aV a,.int .i64 (v:Int)] (egsN (sOut a.es (fun _=>true) v)):=by
 have hs:(froms a.es).Pairwise (· <= ·):=by rw[List.pairwise_map];exact h.srt
 have hb:∀e∈a.es,e.1<=1000000:=fun e he=>by have:=(h.esn e he).1;have:=h.n5;omega
 have f1:=find67 a.es v hs hb (by omega) hel
 have f2:=find67b a.es (v+1) hs hb (by omega) hel
 have e1:((v+1:Nat):Int)=(v:Int)+1:=by omega
 rw[e1]at f2
 have ho:=Qmv h.srt v
 have l1:=lb_le (l:=froms a.es) (t:=v+1)
 rw[List.length_map]at l1
 have hm:lbN (froms a.es) v<=lbN (froms a.es) (v+1):=List.countP_mono_left fun x _ hx=>by simp at hx⊢;omega
 generalize (froms a.es).contains v=b1 at*
 generalize (froms a.es).contains (v+1)=b2 at*
 generalize lbN (froms a.es) v=p at*
 generalize lbN (froms a.es) (v+1)=q at*
 have hlen:q-p=(sOut a.es (fun _=>true) v).length:=by rw[<-ho,List.length_take,List.length_drop];omega
 have hpq:(p:Int)<=(q:Int):=by omega
 have hql:(q:Int)<=(a.es.length:Int):=by omega
 refine PSpec.of_rn 64 ok199 rfl (by(try simp only[noRefs,Qaw,Qao,Qat,Qaa,Qaj,Qag,Qal,Qaz,Qah,noRef,Bool.and_self,Bool.and_true])<;>rfl) (Qax _) ?_
 simp(disch:=first|omega|(simp only[lenW]<;>omega)) only[s199,wW,wV,simprocAttr]
 refine cp f1 ?_
 simp(disch:=first|omega|(simp only[lenW]<;>omega)) only[wW,wV,simprocAttr]
 refine cp f2 ?_
 simp(disch:=first|omega|(simp only[lenW]<;>omega)) only[hpq,hql,wW,wV,simprocAttr]
 refine⟨.inr trivial,_,rfl,?_⟩
 rw[QhU,QhV,ho,hlen]
 exact Rn.same (Qax _)
end Go.AM.SE
namespace Go.AM.SE
open Go.Proofs Go.AM.SD
abbrev rsA (a:Aut):List AV:=[sliN a.al,.int .i64 (a.n:Int),sliN a.ms,egsN a.es]
abbrev rsN:List AV:=[.nilsl,.int .i64 0,.nilsl,.nilsl]
end Go.AM.SE
namespace Go.AM.SE
open Go.Proofs Go.AM.SD
def pl (n:Nat) (o:List Nat):List Int:=(List.range n).map fun x=>if o.contains x then((SD.idx o x:Nat):Int)else-1
theorem Qgw {n:Nat} {o:List Nat}:(pl n o).length=n:=by simp[pl]
theorem Qgx {n:Nat} {o:List Nat} {x:Nat} (hx:x<n):(pl n o).getD x 0=if o.contains x then((SD.idx o x:Nat):Int)else-1:=by
 unfold pl;rw[List.getD_eq_getElem?_getD,List.getElem?_map,List.getElem?_range hx];rfl
theorem Qmw {n:Nat} {o:List Nat} {x:Nat} (hx:x∉o):(pl n o).set x (o.length:Int)=pl n (o++[x]):=by
 refine List.ext_getElem (by simp[pl]) fun j h1 h2=>?_
 have hj:j<n:=by simpa[pl]using h2
 rw[List.getElem_set]
 simp only[pl,List.getElem_map,List.getElem_range]
 by_cases e:x=j
 ·subst e
  rw[if_pos rfl,if_pos (by simp),SD.QdS hx]
 ·rw [if_neg e]
  by_cases hm:j∈o
  ·rw[if_pos (by simpa using hm),if_pos (by simp[hm]),SD.Qc4 hm]
  ·have e2 : ¬ j = x := fun h => e h.symm
   rw[if_neg (by simpa using hm),if_neg (by simp[hm,e2])]
theorem Qnw {n:Nat} (h0:0<n):(List.replicate n (-1:Int)).set 0 0=pl n [0]:=by
 refine List.ext_getElem (by simp[pl]) fun j h1 h2=>?_
 have hj:j<n:=by simpa[pl]using h2
 rw[List.getElem_set]
 simp only[pl,List.getElem_map,List.getElem_range,List.getElem_replicate]
 by_cases e:0=j
 ·subst e;rw[if_pos rfl,if_pos (by simp)];rfl
 ·have e2 : ¬ j = 0 := fun h => e h.symm
  rw[if_neg e,if_neg (by simp[e2])]
abbrev cnB (a:Aut) (m e:Nat):List AV:=[.sl 83 0 0 a.al.length 1,.int .i64 0,.sl 77 0 0 m 1,.sl 76 0 0 e 3]
abbrev tru:Nat->Bool:=fun _=>true
theorem canonical44 (a : Aut) (h : WfA a) (hel : a.es.length <= 1000000) : PSpec Tryz.prog 150 [aV a] (aV (restr a tru)) := by
  have hn5:=h.n5
  have hal:a.al.length<=5:=QaQ 5 a.al (by rw[List.nodup_iff_pairwise_ne];exact h.al.imp fun h=>by omega) h.al5
  have hml:a.ms.length<=a.n:=QaQ a.n a.ms h.nd h.msn
  have hmsP:a.ms.Pairwise (· <= ·):=h.ms.imp fun h=>by omega
  have hn':(a.n:Int)<=1099511627776:=by omega
  have hn8:(8:Int)*(a.n:Int)<=1099511627776:=by omega
  refine PSpec.of_rn 40 ok150 rfl (by(try simp only[noRefs,Qaw,Qao,Qat,Qaa,Qaj,Qag,Qal,Qaz,Qah,noRef,Bool.and_self,Bool.and_true])<;>rfl) (QcB _) ?_
  simp(disch:=first|omega|(simp only[lenW]<;>omega)) only[s150,wW,wV,simprocAttr]
  refine ch (HSpec.of_O (b:=83) (by(try simp only[noRefs,Qaw,Qao,Qat,Qaa,Qaj,Qag,Qal,Qaz,Qah,noRef,Bool.and_self,Bool.and_true])<;>rfl) (clone56 a.al (by omega)) (by repeat (first|exact Fresh.e|exact Fresh.le (by assumption) (by omega)|refine Fresh.set ?_ (by omega) (by omega))) rfl) ?_
  by_cases h0:a.n=0
  · have h0' : (a.n : Int) = 0 := by omega
    have e:sAll a tru=([],[]):=by unfold sAll;rw[h0];rfl
    have hr:restr a tru=⟨a.al,0,[],[]⟩:=by unfold restr;rw[e];rfl
    simp(disch:=first|omega|(simp only[lenW]<;>omega)) only[h0',wW,wV,simprocAttr]
    refine⟨.inr trivial,_,rfl,?_⟩
    rw[hr]
    exact Rn.agg (RnL.cons (Rn.fz0 (g:=0) rfl (by simp[ints]) (RnL.same (Qaa _))) (RnL.cons (Rn.same rfl) (RnL.cons Rn.nilK (RnL.cons Rn.nilK RnL.nil))))
  have h0':¬(a.n:Int)=0:=by omega
  have h0p:0<a.n:=by omega
  have h0n:(0:Int)<(a.n:Int):=by omega
  simp(disch:=first|omega|(simp only[lenW]<;>omega)) only[h0',hn',hn8,Qnq,wW,wV,simprocAttr]
  refine Qar 100 (fun i:Nat=>[(1,.ptr 50 0 0),(2,.ptr 60 0 0),(3,.ptr 69 0 0),(4,.sl 78 0 0 a.n 1),(24,.int .i64 a.n),(25,.int .i64 i)])
    (fun i=>[(50,.cells 0 (rsA a)),(60,.cells 0 rsN),(69,.cells 0 [.sl 83 0 0 a.al.length 1,.int .i64 0,.nilsl,.nilsl]),(83,.cells 0 (ints (nz a.al))),(78,.cells 0 (ints (List.replicate i (-1)++List.replicate (a.n-i) 0)))])
    (fun i=>i<=a.n) (fun i=>a.n-i) 0 0 120
    (fun _:Unit=>[(1,.ptr 50 0 0),(2,.ptr 60 0 0),(3,.ptr 69 0 0),(4,.sl 78 0 0 a.n 1)])
    (fun _=>[(50,.cells 0 (rsA a)),(60,.cells 0 rsN),(69,.cells 0 [.sl 83 0 0 a.al.length 1,.int .i64 0,.nilsl,.nilsl]),(83,.cells 0 (ints (nz a.al))),(78,.cells 0 (ints (List.replicate a.n (-1))))]) (fun _=>True) ?_ (Nat.zero_le _) ?_ ?_
  · exact⟨[(50,.blk 40 0),(60,.blk 41 0),(69,.blk 46 0),(83,.blk 83 0),(78,.blk 53 0)],rfl,au0,au7,au8⟩
  · rintro i hi
    by_cases hlt:i<a.n
    · have h1 : i + 1 <= i + (a.n - i) := by omega
      simp(disch:=first|omega|(simp only[lenW]<;>omega)) only[hlt,h1,Qee,Qmn hlt,wW,wV,simprocAttr]
      exact⟨i+1,by omega,by omega,⟨[(50,.blk 50 0),(60,.blk 60 0),(69,.blk 69 0),(83,.blk 83 0),(78,.blk 78 0)],rfl,au0,au7,au8⟩⟩
    · have e : i = a.n := by omega
      subst e
      have e2:List.replicate a.n (-1:Int)++List.replicate (a.n-a.n) 0=List.replicate a.n (-1):=by simp
      simp(disch:=first|omega|(simp only[lenW]<;>omega)) only[hlt,wW,wV,simprocAttr]
      refine⟨(),?_⟩
      rw[e2]
      exact⟨[(50,.blk 50 0),(60,.blk 60 0),(69,.blk 69 0),(83,.blk 83 0),(78,.blk 78 0)],rfl,au0,au7,au8⟩
  rintro _ _
  have hp1:1<=a.n:=h0p
  have hps:=Qnw h0p
  simp(disch:=first|omega|(simp only[lenW]<;>omega)) only[h0n,hp1,Qee,hps,wW,wV,simprocAttr]
  have hsi:SI a.n a.es tru 0 (([0],[]):OE):=⟨⟨by simp,fun x hx=>by simp at hx;omega⟩,fun _ _=>rfl,Nat.zero_le _,fun j v hj=>by omega,by simp⟩
  have hq0:sQ a.es tru (a.n+1) 0 ([0],[])=sAll a tru:=by
    unfold sAll;rw[if_pos (by simp[h0p])]
  refine Qar 180 (fun t:Nat×OE=>[(1,.ptr 50 0 0),(2,.ptr 60 0 0),(3,.ptr 69 0 0),(4,.sl 78 0 0 a.n 1),(6,.sl 75 0 0 t.2.1.length 1),(7,.int .i64 t.1)])
    (fun t=>[(50,.cells 0 (rsA a)),(60,.cells 0 rsN),(69,.cells 0 (cnB a (mks a t.1 t.2.1).length t.2.2.length)),(83,.cells 0 (ints (nz a.al))),(78,.cells 0 (ints (pl a.n t.2.1))),(75,.cells 0 (ints (nz t.2.1))),(76,.cells 0 (t.2.2.flatMap edC)),(77,.cells 0 (ints (nz (mks a t.1 t.2.1))))])
    (fun t=>t.1<=a.n/\SI a.n a.es tru t.1 t.2/\t.2.2.length<=t.1*1000000/\sQ a.es tru (a.n+1-t.1) t.1 t.2=sAll a tru) (fun t=>a.n+1-t.1) (0,([0],[])) 2 260
    (fun _:Unit=>[(2,.ptr 60 0 0),(3,.ptr 69 0 0),(6,.sl 75 0 0 (sAll a tru).1.length 1)])
    (fun _=>[(60,.cells 0 rsN),(69,.cells 0 (cnB a (restr a tru).ms.length (restr a tru).es.length)),(83,.cells 0 (ints (nz a.al))),(75,.cells 0 (ints (nz (sAll a tru).1))),(76,.cells 0 ((restr a tru).es.flatMap edC)),(77,.cells 0 (ints (nz (restr a tru).ms)))]) (fun _=>True) ?_ ⟨Nat.zero_le _,hsi,Nat.zero_le _,hq0⟩ ?_ ?_
  · dsimp only
    have hms0:mks a 0 [0]=[]:=rfl
    rw[hms0]
    exact⟨[(50,.blk 50 0),(60,.blk 60 0),(69,.blk 69 0),(83,.blk 83 0),(78,.blk 78 0),(75,.blk 123 0),(76,.nil),(77,.nil)],rfl,au0,au7,au8⟩
  · rintro ⟨i, s⟩ ⟨hi, hsi, hsl, hq⟩
    dsimp only at hi hsi hsl hq⊢
    have hfl:=hsi.fi.len
    have hile:=hsi.le
    by_cases hlt:i<s.1.length
    · obtain ⟨v, hv⟩ := Qak hlt
      have hvn:=hsi.fi.lt v (List.mem_of_getElem? hv)
      have hin':i<a.n:=by omega
      have hsi':=hsi.step h.esn hv
      have hq':sQ a.es tru (a.n+1-(i+1)) (i+1) (sRow a.es tru i v s)=sAll a tru:=by
        rw[<-hq,show a.n+1-i=(a.n+1-(i+1))+1 by omega]
        simp only[sQ,hv]
      have hrow:=fun j=>Qdp (n:=a.n) (left:=tru) i ((sOut a.es tru v).take j) s (fun e he=>⟨(h.esn e (QaU.1 (List.mem_of_mem_take he)).1).2,rfl⟩) hsi.fi hsi.lft
      have hol:=QfN a.es tru v
      have hmn:=Qjc (a:=a) hv
      have hmsl:=@QkE a i s.1
      have hmapp:mks a (i+1) (sRow a.es tru i v s).1=mks a (i+1) s.1:=by
        obtain⟨_,_,⟨t,ht⟩,_⟩:=Qdp (n:=a.n) (left:=tru) i (sOut a.es tru v) s (fun e he=>⟨(h.esn e (QaU.1 he).1).2,rfl⟩) hsi.fi hsi.lft
        have ht:(sRow a.es tru i v s).1=s.1++t:=ht
        rw[ht,Qn1 (by omega)]
      have hc:=find57 a.ms v hmsP (by omega)
      have ho:=out58 a v h hel (by omega)
      generalize hM0:mks a i s.1=M0 at*
      generalize hM:mks a (i+1) s.1=M at*
      simp(disch:=first|omega|(simp only[lenW]<;>omega)) only[hlt,Qdr (nz_at hv),wW,wV,simprocAttr]
      refine cp hc ?_
      by_cases hmv:a.ms.contains v=true
      · rw [if_pos hmv] at hmn
        rw[hmv]
        simp(disch:=first|omega|(simp only[lenW]<;>omega)) only[hlt,Qdr (nz_at hv),wW,wV,simprocAttr]
        refine cp ho ?_
        simp(disch:=first|omega|(simp only[lenW]<;>omega)) only[wW,wV,simprocAttr]
        refine Qar 300 (fun j:Nat=>[(1,.ptr 50 0 0),(2,.ptr 60 0 0),(3,.ptr 69 0 0),(4,.sl 78 0 0 a.n 1),(6,.sl 75 0 0 (((sOut a.es tru v).take j).foldl (sEd i) s).1.length 1),(7,.int .i64 i),(63,egsN (sOut a.es tru v)),(64,.int .i64 (sOut a.es tru v).length),(65,.int .i64 j)])
          (fun j=>[(50,.cells 0 (rsA a)),(60,.cells 0 rsN),(69,.cells 0 (cnB a M.length (((sOut a.es tru v).take j).foldl (sEd i) s).2.length)),(83,.cells 0 (ints (nz a.al))),(78,.cells 0 (ints (pl a.n (((sOut a.es tru v).take j).foldl (sEd i) s).1))),(75,.cells 0 (ints (nz (((sOut a.es tru v).take j).foldl (sEd i) s).1))),(76,.cells 0 ((((sOut a.es tru v).take j).foldl (sEd i) s).2.flatMap edC)),(77,.cells 0 (ints (nz M)))])
          (fun j=>j<=(sOut a.es tru v).length) (fun j=>(sOut a.es tru v).length-j) 0 4 400
          (fun _:Unit=>[(1,.ptr 50 0 0),(2,.ptr 60 0 0),(3,.ptr 69 0 0),(4,.sl 78 0 0 a.n 1),(6,.sl 75 0 0 (sRow a.es tru i v s).1.length 1),(7,.int .i64 i)])
          (fun _=>[(50,.cells 0 (rsA a)),(60,.cells 0 rsN),(69,.cells 0 (cnB a M.length (sRow a.es tru i v s).2.length)),(83,.cells 0 (ints (nz a.al))),(78,.cells 0 (ints (pl a.n (sRow a.es tru i v s).1))),(75,.cells 0 (ints (nz (sRow a.es tru i v s).1))),(76,.cells 0 ((sRow a.es tru i v s).2.flatMap edC)),(77,.cells 0 (ints (nz M)))]) (fun _=>True) ?_ (Nat.zero_le _) ?_ ?_
        · rw [hmn, List.length_append, QaL, QaD]
          exact⟨[(50,.blk 50 0),(60,.blk 60 0),(69,.blk 69 0),(83,.blk 83 0),(78,.blk 78 0),(75,.blk 75 0),(76,.blk 76 0),(77,.blk 77 1)],rfl,au0,au7,au8⟩
        · rintro j hj
          by_cases hjl:j<(sOut a.es tru v).length
          · obtain ⟨e, he⟩ := Qak hjl
            have hem:=QaU.1 (List.mem_of_getElem? he)
            have hto:=(h.esn e hem.1).2
            obtain⟨k1,_,_,_,_⟩:=hrow j
            have hfi:=k1.len
            have hstep:=QhQ (i:=i) (s:=s) he
            have hsl2:=Qds (i:=i) ((sOut a.es tru v).take j) s
            rw[List.length_take]at hsl2
            generalize (((sOut a.es tru v).take j).foldl (sEd i) s)=t at*
            have hel2:=QbQ t.2
            have hpl:=Qgw (n:=a.n) (o:=t.1)
            have hpg:=Qgx (o:=t.1) hto
            have hpt:e.2.2<(pl a.n t.1).length:=by omega
            have hp1:e.2.2+1<=(pl a.n t.1).length:=by omega
            by_cases hc:e.2.2∈t.1
            · have h2 : sEd i t e = (t.1, t.2 ++ [(i, e.2.1, SD.idx t.1 e.2.2)]) := if_pos (by simpa using hc)
              rw[h2]at hstep
              rw[if_pos (by simpa using hc)]at hpg
              have h3:¬((SD.idx t.1 e.2.2:Nat):Int)<0:=by omega
              generalize SD.idx t.1 e.2.2=q at*
              simp(disch:=first|omega|(simp only[lenW]<;>omega)) only[hjl,QaR he,hto,Qcd hpt,hpg,h3,hel2,wW,wV,simprocAttr]
              refine⟨j+1,by omega,by omega,?_⟩
              rw[hstep,List.flatMap_append,List.length_append]
              exact⟨[(50,.blk 50 0),(60,.blk 60 0),(69,.blk 69 0),(83,.blk 83 0),(78,.blk 78 0),(75,.blk 75 0),(76,.blk 76 1),(77,.blk 77 0)],rfl,au0,au7,au8⟩
            · have h2 : sEd i t e = (t.1 ++ [e.2.2], t.2 ++ [(i, e.2.1, t.1.length)]) := if_neg (by simpa using hc)
              rw[h2]at hstep
              rw[if_neg (by simpa using hc)]at hpg
              have hps:=Qmw (n:=a.n) hc
              have h3:(-1:Int)<0:=by decide
              have hpl2:e.2.2<(pl a.n (t.1++[e.2.2])).length:=by rw[Qgw];exact hto
              have hpg2:(pl a.n (t.1++[e.2.2])).getD e.2.2 0=(t.1.length:Int):=by
                rw[Qgx hto,if_pos (by simp),SD.QdS hc]
              simp(disch:=first|omega|(simp only[lenW]<;>omega)) only[hjl,QaR he,hto,Qcd hpt,hpg,h3,hel2,hp1,Qee,hps,Qcd hpl2,hpg2,wW,wV,simprocAttr]
              refine⟨j+1,by omega,by omega,?_⟩
              rw[hstep,List.flatMap_append,List.length_append]
              dsimp only
              rw[List.length_append,QaL,QaD]
              exact⟨[(50,.blk 50 0),(60,.blk 60 0),(69,.blk 69 0),(83,.blk 83 0),(78,.blk 78 0),(75,.blk 75 1),(76,.blk 76 1),(77,.blk 77 0)],rfl,au0,au7,au8⟩
          · have e : j = (sOut a.es tru v).length := by omega
            subst e
            simp(disch:=first|omega|(simp only[lenW]<;>omega)) only[hjl,wW,wV,simprocAttr]
            refine⟨(),?_⟩
            exact⟨[(50,.blk 50 0),(60,.blk 60 0),(69,.blk 69 0),(83,.blk 83 0),(78,.blk 78 0),(75,.blk 75 0),(76,.blk 76 0),(77,.blk 77 0)],rfl,au0,au7,au8⟩
        rintro _ _
        have hsl3:(sRow a.es tru i v s).2.length=s.2.length+(sOut a.es tru v).length:=Qds _ _
        have hol3:=QfN a.es tru v
        simp(disch:=first|omega|(simp only[lenW]<;>omega)) only[wW,wV,simprocAttr]
        refine⟨(i+1,sRow a.es tru i v s),by dsimp only;omega,⟨hin',hsi',by dsimp only;omega,hq'⟩,?_⟩
        dsimp only
        rw[hmapp]
        exact⟨[(50,.blk 50 0),(60,.blk 60 0),(69,.blk 69 0),(83,.blk 83 0),(78,.blk 78 0),(75,.blk 75 0),(76,.blk 76 0),(77,.blk 77 0)],rfl,au0,au7,au8⟩
      · rw [if_neg hmv, List.append_nil] at hmn
        rw[Bool.not_eq_true]at hmv
        rw[hmv]
        simp(disch:=first|omega|(simp only[lenW]<;>omega)) only[hlt,Qdr (nz_at hv),wW,wV,simprocAttr]
        refine cp ho ?_
        simp(disch:=first|omega|(simp only[lenW]<;>omega)) only[wW,wV,simprocAttr]
        refine Qar 300 (fun j:Nat=>[(1,.ptr 50 0 0),(2,.ptr 60 0 0),(3,.ptr 69 0 0),(4,.sl 78 0 0 a.n 1),(6,.sl 75 0 0 (((sOut a.es tru v).take j).foldl (sEd i) s).1.length 1),(7,.int .i64 i),(63,egsN (sOut a.es tru v)),(64,.int .i64 (sOut a.es tru v).length),(65,.int .i64 j)])
          (fun j=>[(50,.cells 0 (rsA a)),(60,.cells 0 rsN),(69,.cells 0 (cnB a M.length (((sOut a.es tru v).take j).foldl (sEd i) s).2.length)),(83,.cells 0 (ints (nz a.al))),(78,.cells 0 (ints (pl a.n (((sOut a.es tru v).take j).foldl (sEd i) s).1))),(75,.cells 0 (ints (nz (((sOut a.es tru v).take j).foldl (sEd i) s).1))),(76,.cells 0 ((((sOut a.es tru v).take j).foldl (sEd i) s).2.flatMap edC)),(77,.cells 0 (ints (nz M)))])
          (fun j=>j<=(sOut a.es tru v).length) (fun j=>(sOut a.es tru v).length-j) 0 4 400
          (fun _:Unit=>[(1,.ptr 50 0 0),(2,.ptr 60 0 0),(3,.ptr 69 0 0),(4,.sl 78 0 0 a.n 1),(6,.sl 75 0 0 (sRow a.es tru i v s).1.length 1),(7,.int .i64 i)])
          (fun _=>[(50,.cells 0 (rsA a)),(60,.cells 0 rsN),(69,.cells 0 (cnB a M.length (sRow a.es tru i v s).2.length)),(83,.cells 0 (ints (nz a.al))),(78,.cells 0 (ints (pl a.n (sRow a.es tru i v s).1))),(75,.cells 0 (ints (nz (sRow a.es tru i v s).1))),(76,.cells 0 ((sRow a.es tru i v s).2.flatMap edC)),(77,.cells 0 (ints (nz M)))]) (fun _=>True) ?_ (Nat.zero_le _) ?_ ?_
        · rw [hmn]
          exact⟨[(50,.blk 50 0),(60,.blk 60 0),(69,.blk 69 0),(83,.blk 83 0),(78,.blk 78 0),(75,.blk 75 0),(76,.blk 76 0),(77,.blk 77 0)],rfl,au0,au7,au8⟩
        · rintro j hj
          by_cases hjl:j<(sOut a.es tru v).length
          · obtain ⟨e, he⟩ := Qak hjl
            have hem:=QaU.1 (List.mem_of_getElem? he)
            have hto:=(h.esn e hem.1).2
            obtain⟨k1,_,_,_,_⟩:=hrow j
            have hfi:=k1.len
            have hstep:=QhQ (i:=i) (s:=s) he
            have hsl2:=Qds (i:=i) ((sOut a.es tru v).take j) s
            rw[List.length_take]at hsl2
            generalize (((sOut a.es tru v).take j).foldl (sEd i) s)=t at*
            have hel2:=QbQ t.2
            have hpl:=Qgw (n:=a.n) (o:=t.1)
            have hpg:=Qgx (o:=t.1) hto
            have hpt:e.2.2<(pl a.n t.1).length:=by omega
            have hp1:e.2.2+1<=(pl a.n t.1).length:=by omega
            by_cases hc:e.2.2∈t.1
            · have h2 : sEd i t e = (t.1, t.2 ++ [(i, e.2.1, SD.idx t.1 e.2.2)]) := if_pos (by simpa using hc)
              rw[h2]at hstep
              rw[if_pos (by simpa using hc)]at hpg
              have h3:¬((SD.idx t.1 e.2.2:Nat):Int)<0:=by omega
              generalize SD.idx t.1 e.2.2=q at*
              simp(disch:=first|omega|(simp only[lenW]<;>omega)) only[hjl,QaR he,hto,Qcd hpt,hpg,h3,hel2,wW,wV,simprocAttr]
              refine⟨j+1,by omega,by omega,?_⟩
              rw[hstep,List.flatMap_append,List.length_append]
              exact⟨[(50,.blk 50 0),(60,.blk 60 0),(69,.blk 69 0),(83,.blk 83 0),(78,.blk 78 0),(75,.blk 75 0),(76,.blk 76 1),(77,.blk 77 0)],rfl,au0,au7,au8⟩
            · have h2 : sEd i t e = (t.1 ++ [e.2.2], t.2 ++ [(i, e.2.1, t.1.length)]) := if_neg (by simpa using hc)
              rw[h2]at hstep
              rw[if_neg (by simpa using hc)]at hpg
              have hps:=Qmw (n:=a.n) hc
              have h3:(-1:Int)<0:=by decide
              have hpl2:e.2.2<(pl a.n (t.1++[e.2.2])).length:=by rw[Qgw];exact hto
              have hpg2:(pl a.n (t.1++[e.2.2])).getD e.2.2 0=(t.1.length:Int):=by
                rw[Qgx hto,if_pos (by simp),SD.QdS hc]
              simp(disch:=first|omega|(simp only[lenW]<;>omega)) only[hjl,QaR he,hto,Qcd hpt,hpg,h3,hel2,hp1,Qee,hps,Qcd hpl2,hpg2,wW,wV,simprocAttr]
              refine⟨j+1,by omega,by omega,?_⟩
              rw[hstep,List.flatMap_append,List.length_append]
              dsimp only
              rw[List.length_append,QaL,QaD]
              exact⟨[(50,.blk 50 0),(60,.blk 60 0),(69,.blk 69 0),(83,.blk 83 0),(78,.blk 78 0),(75,.blk 75 1),(76,.blk 76 1),(77,.blk 77 0)],rfl,au0,au7,au8⟩
          · have e : j = (sOut a.es tru v).length := by omega
            subst e
            simp(disch:=first|omega|(simp only[lenW]<;>omega)) only[hjl,wW,wV,simprocAttr]
            refine⟨(),?_⟩
            exact⟨[(50,.blk 50 0),(60,.blk 60 0),(69,.blk 69 0),(83,.blk 83 0),(78,.blk 78 0),(75,.blk 75 0),(76,.blk 76 0),(77,.blk 77 0)],rfl,au0,au7,au8⟩
        rintro _ _
        have hsl3:(sRow a.es tru i v s).2.length=s.2.length+(sOut a.es tru v).length:=Qds _ _
        have hol3:=QfN a.es tru v
        simp(disch:=first|omega|(simp only[lenW]<;>omega)) only[wW,wV,simprocAttr]
        refine⟨(i+1,sRow a.es tru i v s),by dsimp only;omega,⟨hin',hsi',by dsimp only;omega,hq'⟩,?_⟩
        dsimp only
        rw[hmapp]
        exact⟨[(50,.blk 50 0),(60,.blk 60 0),(69,.blk 69 0),(83,.blk 83 0),(78,.blk 78 0),(75,.blk 75 0),(76,.blk 76 0),(77,.blk 77 0)],rfl,au0,au7,au8⟩
    · have hv : s.1[i]? = none := List.getElem?_eq_none (by omega)
      have hqf:s=sAll a tru:=by
        rw[<-hq,show a.n+1-i=(a.n-i)+1 by omega]
        simp only[sQ,hv]
      have hil:i=s.1.length:=by omega
      have hmf:mks a i s.1=(restr a tru).ms:=by rw[hil,hqf];rfl
      have hef:s.2=(restr a tru).es:=by rw[hqf];rfl
      simp(disch:=first|omega|(simp only[lenW]<;>omega)) only[hlt,wW,wV,simprocAttr]
      refine⟨(),?_⟩
      rw[hmf,hef,<-hqf]
      exact⟨[(60,.blk 60 0),(69,.blk 69 0),(83,.blk 83 0),(75,.blk 75 0),(76,.blk 76 0),(77,.blk 77 0)],rfl,au0,au7,au8⟩
  rintro _ _
  have hra:(restr a tru).al=a.al:=rfl
  have hrn2:(restr a tru).n=(sAll a tru).1.length:=rfl
  simp(disch:=first|omega|(simp only[lenW]<;>omega)) only[wW,wV,simprocAttr]
  refine⟨.inr trivial,_,rfl,?_⟩
  exact Rn.agg (RnL.cons (Rn.fz0 (g:=0) rfl (by simp[ints,hra]) (RnL.same (Qaa _))) (RnL.cons (Rn.same rfl) (RnL.cons (Rn.fz0 (g:=0) rfl (by simp[ints]) (RnL.same (Qaa _))) (RnL.cons (Rn.fz0 (g:=0) rfl (QbQ _) (RnL.same (Qag _))) RnL.nil))))
end Go.AM.SE
namespace Go.AM.SO
open Go.Proofs Go.AM.SD Go.AM.SE
theorem check112 (a:Aut) (h:WfA a) (hel:a.es.length<=1000000):PSpec Tryz.prog 112 [aV a] (.int .i64 0):=by
 have:=check37 (au a) (WfA.auOk h hel)
 rwa [QoO]at this
theorem isCanon60 (a:Aut) (h:WfA a) (hel:a.es.length<=1000000) (hc:restr a (fun _=>true)=a):PSpec Tryz.prog 60 [aV a] (.bool true):=by
 have h1:=canonical44 a h hel
 have hc':restr a tru=a:=hc
 rw[hc']at h1
 have hn5:=h.n5
 have hal:a.al.length<=5:=QaQ 5 a.al (by rw[List.nodup_iff_pairwise_ne];exact h.al.imp fun h=>by omega) h.al5
 have hml:a.ms.length<=a.n:=QaQ a.n a.ms h.nd h.msn
 have ho:AOk a:=⟨by omega,by omega,by omega⟩
 have h2:=eq43 a a ho ho
 rw[QeS]at h2
 refine PSpec.Qau 64 ok60 rfl (by(try simp only[noRefs,Qaa,Qaj,Qag,Qal,Qah,noRef,Bool.and_self,Bool.and_true])<;>rfl) rfl ?_
 simp(disch:=first|omega|(simp only[lenW]<;>omega)) only[s60,wV,simprocAttr]
 refine cp (check112 a h hel) ?_
 simp(disch:=first|omega|(simp only[lenW]<;>omega)) only[wV,simprocAttr]
 refine cp h1 ?_
 simp(disch:=first|omega|(simp only[lenW]<;>omega)) only[wV,simprocAttr]
 refine cp h2 ?_
 simp(disch:=first|omega|(simp only[lenW]<;>omega)) only[wV,simprocAttr]
 exact⟨.inr trivial,_,rfl,rfl⟩
end Go.AM.SO
namespace Go.AM
variable {P:Program}
noncomputable section
structure FFn where
 n:Nat
 res:List SRes
 body:FCode
def FFn.slim (f:FFn):SFn:=⟨f.n,f.res,f.body.slim⟩
structure Ans (α:Type) where
 bad:α
 asm:List AV->List AV->α->α
 holds:α->Prop
def ansB:Ans Bool:=⟨false,fun _ _ _=>false,fun b=>b=true⟩
structure Ans.OK {α:Type} (A:Ans α):Prop where
 bad:¬A.holds A.bad
 asm:∀x y p,A.holds (A.asm x y p)->x=y/\A.holds p
theorem QkH:ansB.OK:=⟨fun h=>(by cases h),fun _ _ _ h=>(by cases h)⟩
variable {α:Type}
abbrev ifB (c:Bool) (a b:α):α:=@Bool.rec (fun _=>α) b a c
theorem Qaq (c:Bool) (a b:α):ifB c a b=if c=true then a else b:=by cases c<;>rfl
def fNat (m:Nat) (k:Nat->α):α:=@Nat.rec (fun _=>α) (k 0) (fun n _=>k (Nat.succ n)) m
theorem Qa5 (m:Nat) (k:Nat->α):fNat m k=k m:=by cases m<;>rfl
def fInt (n:Int) (k:Int->α):α:=@Int.rec (fun _=>α) (fun m=>fNat m fun m=>k (.ofNat m)) (fun m=>fNat m fun m=>k (.negSucc m)) n
theorem Qn3 (n:Int) (k:Int->α):fInt n k=k n:=by cases n<;>simp[fInt,Qa5]
def fBool (b:Bool) (k:Bool->α):α:=@Bool.rec (fun _=>α) (k false) (k true) b
theorem Qb2 (b:Bool) (k:Bool->α):fBool b k=k b:=by cases b<;>rfl
def fList {β:Type} (l:List β) (k:List β->α):α:=@List.rec β (fun _=>(List β->α)->α) (fun k=>k []) (fun x _ ih k=>ih fun r=>k (x::r)) l k
theorem Qb3 {β:Type} (l:List β) (k:List β->α):fList l k=k l:=by
 have:∀(l:List β) (k:List β->α),@List.rec β (fun _=>(List β->α)->α) (fun k=>k []) (fun x _ ih k=>ih fun r=>k (x::r)) l k=k l:=by
  intro l
  induction l with
  |nil=>intro k;rfl
  |cons x r ih=>intro k;exact ih _
 exact this l k
def fAV (v:AV) (k:AV->α):α:=
 match v with
 | .int t n=>fInt n fun n=>k (.int t n)
 | .bool b=>fBool b fun b=>k (.bool b)
 | .any=>k .any
 | .str s=>fList s fun s=>k (.str s)
 | .agg cs=>fList cs fun cs=>k (.agg cs)
 | .tup cs=>fList cs fun cs=>k (.tup cs)
 | .nilptr=>k .nilptr
 | .ptr b g o=>fNat o fun o=>k (.ptr b g o)
 | .fptr cs=>fList cs fun cs=>k (.fptr cs)
 | .nilsl=>k .nilsl
 | .sl b g o l s=>fNat o fun o=>fNat l fun l=>k (.sl b g o l s)
 | .fsl cs l s=>fNat l fun l=>fList cs fun cs=>k (.fsl cs l s)
 | .esl=>k .esl
 | .nsl=>k .nsl
 | .nilmap=>k .nilmap
 | .map b g=>k (.map b g)
 | .fmap x y=>fList x fun x=>fList y fun y=>k (.fmap x y)
 | .nilfn=>k .nilfn
 | .fn f x y=>fList x fun x=>fList y fun y=>k (.fn f x y)
 | .yld b g=>k (.yld b g)
 | .nilif=>k .nilif
 | .ifc t v=>k (.ifc t v)
 | .typed t n v=>fNat t fun t=>fNat n fun n=>k (.typed t n v)
theorem Qco (v:AV) (k:AV->α):fAV v k=k v:=by
 unfold fAV
 split<;>simp only[Qn3,Qb2,Qb3,Qa5]
def fBlk (x:Blk) (k:Blk->α):α:=
 match x with
 | .cells g cs=>fList cs fun cs=>k (.cells g cs)
 |x=>k x
theorem Qn4 (x:Blk) (k:Blk->α):fBlk x k=k x:=by
 unfold fBlk;split<;>simp only[Qb3]
def lkK (T:Tmps) (i:Nat) (k:AV->α):α:=@List.rec (Nat×AV) (fun _=>α) (k .any) (fun p _ ih=>ifB (Nat.beq p.1 i) (k p.2) ih) T
theorem QdT (T:Tmps) (i:Nat) (k:AV->α):lkK T i k=k (lk T i):=by
  induction T with
  |nil=>rfl
  | cons p T ih =>
    show ifB (Nat.beq p.1 i) (k p.2) (lkK T i k)=_
    rw[ih,Qaq,QaM]
    by_cases h:p.1=i
    · subst h;simp
    · have : Nat.beq p.1 i = false := by rw [Bool.eq_false_iff]; simpa using h
      rw[this,if_neg h];rfl
def evK (T:Tmps) (x:Opd) (k:AV->α):α:=@Opd.rec (fun _=>α) (fun i=>lkK T i k) (fun v=>k v) (fun n=>k (.fn n [] [])) (fun _=>k .any) x
theorem QaX (T:Tmps) (x:Opd) (k:AV->α):evK T x k=k (ev T x):=by
 cases x
 ·exact QdT _ _ _
 ·rfl
 ·rfl
 ·rfl
def upR (T:Tmps) (i:Nat) (v:AV) (k:Tmps->α):α:=
 @List.rec (Nat×AV) (fun _=>(Tmps->α)->α) (fun k=>k [(i,v)]) (fun p r ih k=>ifB (Nat.beq p.1 i) (k ((i,v)::r)) (ih fun r'=>k (p::r'))) T k
theorem Qcp (T : Tmps) (i : Nat) (v : AV) (k : Tmps -> α) : upR T i v k = k (up T i v) := by
  have:∀(T:Tmps) (k:Tmps->α),@List.rec (Nat×AV) (fun _=>(Tmps->α)->α) (fun k=>k [(i,v)]) (fun p r ih k=>ifB (Nat.beq p.1 i) (k ((i,v)::r)) (ih fun r'=>k (p::r'))) T k=k (up T i v):=by
    intro T
    induction T with
    |nil=>intro k;rfl
    | cons p T ih =>
      intro k
      show ifB (Nat.beq p.1 i) (k ((i,v)::T)) (@List.rec (Nat×AV) (fun _=>(Tmps->α)->α) (fun k=>k [(i,v)]) (fun p r ih k=>ifB (Nat.beq p.1 i) (k ((i,v)::r)) (ih fun r'=>k (p::r'))) T fun r'=>k (p::r'))=_
      rw[ih,Qaq,QgL]
      by_cases h:p.1=i
      · subst h;simp
      · have : Nat.beq p.1 i = false := by rw [Bool.eq_false_iff]; simpa using h
        rw[this,if_neg h];rfl
  exact this T k
def putS (nw:Bool) (T:Tmps) (dst:Option Nat) (v:AV) (k:Tmps->α):α:=
 @Option.rec Nat (fun _=>α) (k T) (fun d=>ifB nw (k ((d,v)::T)) (upR T d v k)) dst
theorem QhW (nw:Bool) (T:Tmps) (dst:Option Nat) (v:AV) (k:Tmps->α):∃T',putS nw T dst v k=k T'/\∀i,lk T' i=lk (putD T dst v) i:=by
 cases dst with
 |none=>exact⟨T,rfl,fun _=>rfl⟩
 | some d =>
  cases nw with
  |false=>exact⟨up T d v,Qcp T d v k,fun _=>rfl⟩
  |true=>
   refine⟨(d,v)::T,rfl,fun i=>?_⟩
   rw[QaM,Qbh]
   by_cases h:d=i
   ·subst h;simp
   ·rw[if_neg h,if_neg (by simpa using h)]
def rmR (m:Nat) (T:Tmps) (k:Tmps->α):α:=
 @List.rec (Nat×AV) (fun _=>(Tmps->α)->α) (fun k=>k []) (fun p r ih k=>ifB (Nat.beq (Nat.land (Nat.shiftRight m p.1) 1) 1) (ih k) (ih fun r'=>k (p::r'))) T k
def rmM (m:Nat):Tmps->Tmps
 |[]=>[]
 |p::r=>if Nat.beq (Nat.land (Nat.shiftRight m p.1) 1) 1=true then rmM m r else p::rmM m r
theorem Qmx (m:Nat) (T:Tmps) (k:Tmps->α):rmR m T k=k (rmM m T):=by
 have:∀(T:Tmps) (k:Tmps->α),@List.rec (Nat×AV) (fun _=>(Tmps->α)->α) (fun k=>k []) (fun p r ih k=>ifB (Nat.beq (Nat.land (Nat.shiftRight m p.1) 1) 1) (ih k) (ih fun r'=>k (p::r'))) T k=k (rmM m T):=by
  intro T
  induction T with
  |nil=>intro k;rfl
  |cons p T ih=>
   intro k
   show ifB (Nat.beq (Nat.land (Nat.shiftRight m p.1) 1) 1) (@List.rec (Nat×AV) (fun _=>(Tmps->α)->α) (fun k=>k []) (fun p r ih k=>ifB (Nat.beq (Nat.land (Nat.shiftRight m p.1) 1) 1) (ih k) (ih fun r'=>k (p::r'))) T k) (@List.rec (Nat×AV) (fun _=>(Tmps->α)->α) (fun k=>k []) (fun p r ih k=>ifB (Nat.beq (Nat.land (Nat.shiftRight m p.1) 1) 1) (ih k) (ih fun r'=>k (p::r'))) T fun r'=>k (p::r'))=_
   rw[ih,ih,Qaq]
   simp only[rmM]
   split<;>rfl
 exact this T k
theorem QkI (m:Nat) (T:Tmps):Sub (rmM m T) T:=by
 have dead:∀(T:Tmps) (i:Nat),Nat.beq (Nat.land (Nat.shiftRight m i) 1) 1=true->lk (rmM m T) i= .any:=by
  intro T i hi
  induction T with
  |nil=>rfl
  | cons p T ih =>
   simp only[rmM]
   split
   ·exact ih
   ·rename_i h
    rw[QaM,if_neg (by intro e;exact h (by rw[e];exact hi))];exact ih
 have live:∀(T:Tmps) (i:Nat),¬Nat.beq (Nat.land (Nat.shiftRight m i) 1) 1=true->lk (rmM m T) i=lk T i:=by
  intro T i hi
  induction T with
  |nil=>rfl
  | cons p T ih =>
   simp only[rmM]
   split
   ·rename_i h
    rw[QaM,if_neg (by intro e;exact hi (by rw[<-e];exact h))];exact ih
   ·rw[QaM,QaM,ih]
 intro i
 by_cases h:Nat.beq (Nat.land (Nat.shiftRight m i) 1) 1=true
 ·exact .inl (dead T i h)
 ·exact .inr (live T i h)
def getR {β:Type} (t:Tr β) (b:Nat) (k:Option β->α):α:=
 @Tr.rec β (fun _=>Nat->α) (fun _=>k none) (fun _ v _ il ir b=>ifB (Nat.beq b 0) (k v) (ifB (Nat.beq (Nat.mod b 2) 1) (il (Nat.div b 2)) (ir (Nat.sub (Nat.div b 2) 1)))) t b
theorem Qbd {β:Type} (t:Tr β) (b:Nat) (k:Option β->α):getR t b k=k (t.get b):=by
 induction t generalizing b with
 |e=>rfl
 |n l v r il ir=>
  show ifB (Nat.beq b 0) (k v) (ifB (Nat.beq (Nat.mod b 2) 1) (getR l (Nat.div b 2) k) (getR r (Nat.sub (Nat.div b 2) 1) k))=_
  rw[il,ir,Qaq,Qaq]
  simp only[Tr.get]
  have e1:Nat.mod b 2=b % 2:=rfl
  have e2:Nat.div b 2=b/2:=rfl
  have e3:Nat.sub (b/2) 1=b/2-1:=rfl
  rw[e1,e2,e3]
  cases Nat.beq b 0<;>cases Nat.beq (b % 2) 1<;>rfl
def setE {β:Type} (f:Nat) (b:Nat) (x:β) (k:Tr β->α):α:=
 @Nat.rec (fun _=>Nat->(Tr β->α)->α) (fun _ k=>k .e) (fun _ ih b k=>ifB (Nat.beq b 0) (k (.n .e (some x) .e)) (ifB (Nat.beq (Nat.mod b 2) 1) (ih (Nat.div b 2) fun l=>k (.n l none .e)) (ih (Nat.sub (Nat.div b 2) 1) fun r=>k (.n .e none r)))) f b k
theorem Qn5 {β:Type} (f:Nat) (b:Nat) (x:β) (k:Tr β->α):setE f b x k=k (Tr.setF f .e b x):=by
 induction f generalizing b k with
 |zero=>rfl
 |succ f ih=>
  show ifB (Nat.beq b 0) (k (.n .e (some x) .e)) (ifB (Nat.beq (Nat.mod b 2) 1) (setE f (Nat.div b 2) x fun l=>k (.n l none .e)) (setE f (Nat.sub (Nat.div b 2) 1) x fun r=>k (.n .e none r)))=_
  rw[ih,ih,Qaq,Qaq]
  simp only[Tr.setF]
  have e1:Nat.mod b 2=b % 2:=rfl
  have e2:Nat.div b 2=b/2:=rfl
  have e3:Nat.sub (b/2) 1=b/2-1:=rfl
  rw[e1,e2,e3]
  cases Nat.beq b 0<;>cases Nat.beq (b % 2) 1<;>rfl
def setR {β:Type} (t:Tr β) (f:Nat) (b:Nat) (x:β) (k:Tr β->α):α:=
 @Tr.rec β (fun _ => Nat -> Nat -> (Tr β -> α) -> α) (fun f b k => setE f b x k)
  (fun l v r il ir f b k=>@Nat.rec (fun _=>α) (k (.n l v r)) (fun f _=>ifB (Nat.beq b 0) (k (.n l (some x) r)) (ifB (Nat.beq (Nat.mod b 2) 1) (il f (Nat.div b 2) fun l=>k (.n l v r)) (ir f (Nat.sub (Nat.div b 2) 1) fun r=>k (.n l v r)))) f) t f b k
theorem Qn6 {β:Type} (t:Tr β) (f:Nat) (b:Nat) (x:β) (k:Tr β->α):setR t f b x k=k (Tr.setF f t b x):=by
 induction t generalizing f b k with
 |e=>exact Qn5 f b x k
 | n l v r il ir =>
  cases f with
  |zero=>rfl
  |succ f=>
   show ifB (Nat.beq b 0) (k (.n l (some x) r)) (ifB (Nat.beq (Nat.mod b 2) 1) (setR l f (Nat.div b 2) x fun l=>k (.n l v r)) (setR r f (Nat.sub (Nat.div b 2) 1) x fun r=>k (.n l v r)))=_
   rw[il,ir,Qaq,Qaq]
   simp only[Tr.setF]
   have e1:Nat.mod b 2=b % 2:=rfl
   have e2:Nat.div b 2=b/2:=rfl
   have e3:Nat.sub (b/2) 1=b/2-1:=rfl
   rw[e1,e2,e3]
   cases Nat.beq b 0<;>cases Nat.beq (b % 2) 1<;>rfl
def putBR (A:Ans α) (h:Heap) (b:Nat) (x:Blk) (k:Heap->α):α:=ifB (Nat.ble (Nat.succ b) lim) (setR h 40 b x k) A.bad
theorem Qbi (A:Ans α) (h:Heap) (b:Nat) (x:Blk) (k:Heap->α):putBR A h b x k=if b<lim then k (h.set b x)else A.bad:=by
 unfold putBR
 rw[Qn6,Qaq]
 by_cases hb:b<lim
 ·rw[if_pos (Nat.ble_eq_true_of_le hb),if_pos hb];rfl
 ·rw[if_neg (fun h=>hb (Nat.le_of_ble_eq_true h)),if_neg hb]
def runR {β:Type} (A:Ans α) (m:HM β) (h:Heap) (k:β->Heap->α):α:=
 @HM.rec β (fun _=>Heap->α) (fun a h=>k a h) (fun _=>A.bad) (fun b _ ih h=>getR h b fun o=>ih o h) (fun b x _ ih h=>fBlk x fun x=>putBR A h b x fun h=>ih h) m h
theorem Qce {β:Type} (A:Ans α) (m:HM β):∀(h:Heap) (k:β->Heap->α),runR A m h k=match m.run h with|some (a,h')=>k a h'|none=>A.bad:=by
  induction m with
  |ret a=>intro h k;rfl
  |fail=>intro h k;rfl
  | look b m ih =>
    intro h k
    show getR h b (fun o=>runR A (m o) h k)=_
    rw[Qbd]
    exact ih _ h k
  | put b x m ih =>
    intro h k
    show fBlk x (fun x=>putBR A h b x fun h=>runR A m h k)=_
    rw[Qn4,Qbi]
    simp only[HM.run]
    by_cases hb:b<lim
    · have : Nat.blt b lim = true := by simp [Nat.blt]; omega
      rw[if_pos hb,this];exact ih _ _
    · have : Nat.blt b lim = false := by rw [Bool.eq_false_iff]; intro h; exact hb (Nat.le_of_ble_eq_true h)
      rw[if_neg hb,this];rfl
def optR (A:Ans α) (o:Option AV) (k:AV->α):α:=@Option.rec AV (fun _=>α) A.bad (fun v=>fAV v k) o
theorem QaN (A:Ans α) (o:Option AV) (k:AV->α):optR A o k=match o with|some v=>k v|none=>A.bad:=by
 cases o with
 |none=>rfl
 |some v=>exact Qco v k
def hiN:IntKind->Nat
 | .i8=>127| .i16=>32767| .i32=>2147483647| .i64=>9223372036854775807
 | .u8=>255| .u16=>65535| .u32=>4294967295| .u64=>18446744073709551615
theorem QoR (k:IntKind):hi k=hiN k:=by cases k<;>rfl
theorem lo_le (k:IntKind):lo k<=0:=by cases k<;>decide
theorem Qgy {k:IntKind} {m:Nat} (h:m<=hiN k):wr k (.ofNat m)= .ofNat m:=
 wr_of (by have:=lo_le k;have:(0:Int)<=Int.ofNat m:=Int.natCast_nonneg m;omega) (by rw[QoR];exact Int.ofNat_le.2 h)
def kn:IntKind->Nat
 | .i8=>0| .i16=>1| .i32=>2| .i64=>3| .u8=>4| .u16=>5| .u32=>6| .u64=>7
theorem Qjf {k k':IntKind} (h:Nat.beq (kn k) (kn k')=true):k=k':=by cases k<;>cases k'<;>first|rfl|(cases h)
def bin2 (A:Ans α) (op:BinOp) (kd:IntKind) (a b:Nat) (slow:α) (k:AV->α):α:=
 match op with
 | .add=>fNat (Nat.add a b) fun r=>ifB (Nat.ble r (hiN kd)) (k (.int kd (.ofNat r))) slow
 | .sub=>ifB (Nat.ble b a) (fNat (Nat.sub a b) fun r=>ifB (Nat.ble r (hiN kd)) (k (.int kd (.ofNat r))) slow) slow
 | .mul=>fNat (Nat.mul a b) fun r=>ifB (Nat.ble r (hiN kd)) (k (.int kd (.ofNat r))) slow
 | .eql=>fBool (Nat.beq a b) fun t=>k (.bool t)
 | .neq=>fBool (Nat.beq a b) fun t=>ifB t (k (.bool false)) (k (.bool true))
 | .lss=>fBool (Nat.ble (Nat.succ a) b) fun t=>k (.bool t)
 | .leq=>fBool (Nat.ble a b) fun t=>k (.bool t)
 | .gtr=>fBool (Nat.ble (Nat.succ b) a) fun t=>k (.bool t)
 | .geq=>fBool (Nat.ble b a) fun t=>k (.bool t)
 |_=>slow
def binN (op:BinOp) (below:Bool) (slow:α) (k:AV->α):α:=
 match op with
 | .eql=>k (.bool false)
 | .neq=>k (.bool true)
 | .lss=>ifB below (k (.bool true)) (k (.bool false))
 | .leq=>ifB below (k (.bool true)) (k (.bool false))
 | .gtr=>ifB below (k (.bool false)) (k (.bool true))
 | .geq=>ifB below (k (.bool false)) (k (.bool true))
 |_=>slow
def binR (A:Ans α) (op:BinOp) (x y:AV) (k:AV->α):α:=
 match x with
 | .int kx (.ofNat a)=>(match y with
  | .int ky (.ofNat b)=>ifB (Nat.beq (kn kx) (kn ky)) (bin2 A op kx a b (optR A (aBin op x y) k) k) (optR A (aBin op x y) k)
  | .int ky (.negSucc b)=>ifB (Nat.beq (kn kx) (kn ky)) (binN op false (optR A (aBin op x y) k) k) (optR A (aBin op x y) k)
  |_=>optR A (aBin op x y) k)
 | .int kx (.negSucc a)=>(match y with
  | .int ky (.ofNat b)=>ifB (Nat.beq (kn kx) (kn ky)) (binN op true (optR A (aBin op x y) k) k) (optR A (aBin op x y) k)
  |_=>optR A (aBin op x y) k)
 |_=>optR A (aBin op x y) k
theorem Qn7 (A:Ans α) (op:BinOp) (kd:IntKind) (a b:Nat) (k:AV->α):
  binN op true (optR A (aBin op (.int kd (.negSucc a)) (.int kd (.ofNat b))) k) k=optR A (aBin op (.int kd (.negSucc a)) (.int kd (.ofNat b))) k:=by
 have hlt:(Int.negSucc a:Int)<Int.ofNat b:=by have:(Int.negSucc a:Int)<0:=Int.negSucc_lt_zero a;have:(0:Int)<=Int.ofNat b:=Int.natCast_nonneg b;omega
 generalize Int.negSucc a=x at*
 generalize Int.ofNat b=y at*
 unfold binN
 cases op<;>simp only<;>try rfl
 ·rw[Qdi,QaN,show decide (x=y)=false by simp;omega]
 ·rw[Qdj,QaN,show decide (x=y)=false by simp;omega];rfl
 ·rw[Qdk,QaN,show decide (x<y)=true by simp;omega]
 ·rw[Qdl,QaN,show decide (x<=y)=true by simp;omega]
 ·rw[Qdm,QaN,show decide (y<x)=false by simp;omega]
 ·rw[Qdn,QaN,show decide (y<=x)=false by simp;omega]
theorem binN_eq' (A:Ans α) (op:BinOp) (kd:IntKind) (a b:Nat) (k:AV->α):
  binN op false (optR A (aBin op (.int kd (.ofNat a)) (.int kd (.negSucc b))) k) k=optR A (aBin op (.int kd (.ofNat a)) (.int kd (.negSucc b))) k:=by
 have hlt:(Int.negSucc b:Int)<Int.ofNat a:=by have:(Int.negSucc b:Int)<0:=Int.negSucc_lt_zero b;have:(0:Int)<=Int.ofNat a:=Int.natCast_nonneg a;omega
 generalize Int.negSucc b=x at*
 generalize Int.ofNat a=y at*
 unfold binN
 cases op<;>simp only<;>try rfl
 ·rw[Qdi,QaN,show decide (y=x)=false by simp;omega]
 ·rw[Qdj,QaN,show decide (y=x)=false by simp;omega];rfl
 ·rw[Qdk,QaN,show decide (y<x)=false by simp;omega]
 ·rw[Qdl,QaN,show decide (y<=x)=false by simp;omega]
 ·rw[Qdm,QaN,show decide (x<y)=true by simp;omega]
 ·rw[Qdn,QaN,show decide (x<=y)=true by simp;omega]
theorem Qn8 (A : Ans α) (op : BinOp) (kd : IntKind) (a b : Nat) (k : AV -> α) :
    bin2 A op kd a b (optR A (aBin op (.int kd (.ofNat a)) (.int kd (.ofNat b))) k) k=optR A (aBin op (.int kd (.ofNat a)) (.int kd (.ofNat b))) k:=by
  unfold bin2
  cases op<;>simp only<;>try rfl
  · rw [Qa5, Qaq]
    split
    · rename_i h1
      rw[QfJ,show(Int.ofNat a+Int.ofNat b:Int)=Int.ofNat (a+b) from rfl,Qgy (m:=a+b) (Nat.le_of_ble_eq_true h1),QaN];rfl
    · rfl
  · rw [Qaq]
    split
    · rename_i h0
      have h0:=Nat.le_of_ble_eq_true h0
      rw[Qa5,Qaq]
      split
      · rename_i h1
        rw[QfK,show(Int.ofNat a-Int.ofNat b:Int)=Int.ofNat (a-b) from(Int.ofNat_sub h0).symm,Qgy (m:=a-b) (Nat.le_of_ble_eq_true h1),QaN];rfl
      · rfl
    · rfl
  · rw [Qa5, Qaq]
    split
    · rename_i h1
      rw[QfL,show(Int.ofNat a*Int.ofNat b:Int)=Int.ofNat (a*b) from rfl,Qgy (m:=a*b) (Nat.le_of_ble_eq_true h1),QaN];rfl
    · rfl
  · rw [Qb2, Qdi, QaN]
    simp only
    congr 2
    rw[Bool.eq_iff_iff];simp;omega
  · rw [Qb2, Qdj, QaN, Qaq]
    simp only
    by_cases e:a=b
    · subst e;simp
    · have h1 : Nat.beq a b = false := by rw [Bool.eq_false_iff]; simpa using e
      have h2:decide (Int.ofNat a=Int.ofNat b)=false:=by simp;omega
      rw[h1,h2];rfl
  · rw [Qb2, Qdk, QaN]
    simp only
    congr 2
    rw[Bool.eq_iff_iff];simp;omega
  · rw [Qb2, Qdl, QaN]
    simp only
    congr 2
    rw[Bool.eq_iff_iff];simp
  · rw [Qb2, Qdm, QaN]
    simp only
    congr 2
    rw[Bool.eq_iff_iff];simp;omega
  · rw [Qb2, Qdn, QaN]
    simp only
    congr 2
    rw[Bool.eq_iff_iff];simp
theorem Qn9 (A:Ans α) (op:BinOp) (x y:AV) (k:AV->α):binR A op x y k=match aBin op x y with|some v=>k v|none=>A.bad:=by
 rw[<-QaN A]
 unfold binR
 split
 ·split
  ·rw [Qaq]
   split
   ·rename_i h
    have:=Qjf h
    subst this
    exact Qn8 A _ _ _ _ k
   ·rfl
  ·rw [Qaq]
   split
   ·rename_i h
    have:=Qjf h
    subst this
    exact binN_eq' A _ _ _ _ k
   ·rfl
  ·rfl
 ·split
  ·rw [Qaq]
   split
   ·rename_i h
    have:=Qjf h
    subst this
    exact Qn7 A _ _ _ _ k
   ·rfl
  ·rfl
 ·rfl
def nthR (A:Ans α) (cs:List AV) (j:Nat) (k:AV->α):α:=
 @List.rec AV (fun _=>Nat->α) (fun _=>A.bad) (fun c _ ih j=>@Nat.rec (fun _=>α) (k c) (fun j _=>ih j) j) cs j
theorem QkJ (A:Ans α) (cs:List AV) (j:Nat) (k:AV->α):nthR A cs j k=match cs[j]? with|some v=>k v|none=>A.bad:=by
 induction cs generalizing j with
 |nil=>rfl
 |cons c cs ih=>
  cases j with
  |zero=>rfl
  |succ j=>exact(ih j).trans (by simp)
def nthSetR (cs:List AV) (j:Nat) (v:AV) (k:List AV->α):α:=
 @List.rec AV (fun _=>Nat->(List AV->α)->α) (fun _ k=>k []) (fun c r ih j k=>@Nat.rec (fun _=>α) (k (v::r)) (fun j _=>ih j fun r=>k (c::r)) j) cs j k
theorem Qln (cs:List AV) (j:Nat) (v:AV) (k:List AV->α):nthSetR cs j v k=k (cs.set j v):=by
 induction cs generalizing j k with
 |nil=>rfl
 |cons c cs ih=>
  cases j with
  |zero=>rfl
  |succ j=>exact ih j _
def dropR (cs:List AV) (j:Nat) (k:List AV->α):α:=
 @List.rec AV (fun _=>Nat->α) (fun _=>k []) (fun c r ih j=>@Nat.rec (fun _=>α) (k (c::r)) (fun j _=>ih j) j) cs j
theorem QfR (cs:List AV) (j:Nat) (k:List AV->α):dropR cs j k=k (cs.drop j):=by
 induction cs generalizing j with
 |nil=>simp[dropR]
 |cons c cs ih=>
  cases j with
  |zero=>rfl
  |succ j=>exact ih j
def isPtr:AV->Bool
 | .ptr .. =>true
 |_=>false
def loadR (A:Ans α) (m:Option Nat) (x:AV) (h:Heap) (k:AV->α):α:=
 match m with
 | none => (match x with
  | .ptr b g off=>getR h b fun o=>(match o with
   |some (.cells g' cs)=>ifB (Nat.beq g' g) (nthR A cs off k) A.bad
   |_=>A.bad)
  | .fptr cs=>(match cs with
   |c::_=>k c
   |[]=>A.bad)
  |_=>A.bad)
 |some _=>runR A (aLoad m x) h fun v _=>fAV v k
theorem Qjg (A:Ans α) (m:Option Nat) (x:AV) (h:Heap) (k:AV->α):loadR A m x h k=match (aLoad m x).run h with|some (v,_)=>k v|none=>A.bad:=by
 unfold loadR
 split
 ·split
  ·rename_i b g off
   rw[Qbd]
   simp only[aLoad,HM.cells,HM.run]
   cases hb:h.get b with
   |none=>rfl
   | some x =>
    cases x with
    |map g' es=>rfl
    |dead g'=>rfl
    |loop=>rfl
    | cells g' cs =>
     simp only
     rw[Qaq,QkJ]
     cases hg:Nat.beq g' g with
     |true=>
      simp only[cond_true,if_true]
      cases cs[off]?<;>rfl
     |false=>simp[HM.run]
  ·rename_i cs
   split<;>rfl
  ·rename_i h1 h2
   cases x<;>first|rfl|(exact absurd rfl (h1 _ _ _))|(exact absurd rfl (h2 _))
 ·rw [Qce]
  cases(aLoad (some _) x).run h with
  |none=>rfl
  |some r=>exact Qco _ _
def one1:AV->Bool
 | .any| .agg _| .tup _=>false
 |_=>true
def storeR (A:Ans α) (m:Nat) (x v:AV) (h:Heap) (k:AV->Heap->α):α:=
 match x with
 | .ptr b g off => ifB (one1 v && Nat.beq m 1) (getR h b fun o => (match o with
   |some (.cells g' cs)=>ifB (Nat.beq g' g) (ifB (Nat.ble (Nat.succ off) cs.length) (nthSetR cs off v fun cs=>putBR A h b (.cells g' cs) fun h=>k .any h) A.bad) A.bad
   |_=>A.bad)) (runR A (aStore m x v) h k)
 |_=>runR A (aStore m x v) h k
theorem Qmy (A : Ans α) (m : Nat) (x v : AV) (h : Heap) (k : AV -> Heap -> α) : storeR A m x v h k = match (aStore m x v).run h with | some (u, h') => k u h' | none => A.bad := by
  unfold storeR
  split
  · rename_i b g off
    rw[Qaq]
    split
    · rename_i h1
      simp only[Bool.and_eq_true]at h1
      obtain⟨h1,h2⟩:=h1
      have:m=1:=by simpa using h2
      subst this
      have hv:v.cells=[v]/\AV.one v=true:=by cases v<;>first|(exact⟨rfl,rfl⟩)|(cases h1)
      rw[Qbd]
      simp only[aStore,HM.cells,HM.run]
      cases hb:h.get b with
      |none=>rfl
      | some x =>
        cases x with
        |map g' es=>rfl
        |dead g'=>rfl
        |loop=>rfl
        | cells g' cs =>
          simp only
          rw[Qaq,Qaq]
          cases hg:Nat.beq g' g with
          |false=>simp[HM.run]
          | true =>
            have:g'=g:=by simpa using hg
            subst this
            simp only[cond_true,if_true,hv.1]
            by_cases hl:off<cs.length
            · rw [if_pos (Nat.ble_eq_true_of_le hl), if_pos ⟨rfl, hl, by simp [hv.2]⟩, Qln, Qbi]
              simp only[HM.run]
              have e:Go.AM.putR cs off [v]=cs.set off v:=rfl
              by_cases hb:b<lim
              · have : Nat.blt b lim = true := by simp [Nat.blt]; omega
                rw[if_pos hb,this];rfl
              · have : Nat.blt b lim = false := by rw [Bool.eq_false_iff]; intro h; exact hb (Nat.le_of_ble_eq_true h)
                rw[if_neg hb,this];rfl
            · rw [if_neg (fun h => hl (Nat.le_of_ble_eq_true h)), if_neg (by simp; omega)]
              rfl
    · rw [Qce]
      cases(aStore m _ v).run h<;>rfl
  · rw [Qce]
    cases(aStore m _ v).run h<;>rfl
end
end Go.AM
namespace Go.AM
variable {P:Program}
theorem HRel.turnL {ok:Okc} {c:Ctx ok} {h:Heap} {w:World} (H:HRel c h w) {b g cb:Nat} {r:Loop} {x:Blk} (o:Obj) (hb:b<lim) (hl:Live h b g) (hp:c.ρ b g=some (.loc cb 0)) (hr:w.heap[cb]?=some (.loop r))
    (hg:x.gen=g) (hx:∀c',Evo c w c' (w.putObj cb o)->c'.ρ b g=some (.loc cb 0)->c'.O cb->BRel c' (w.putObj cb o) b x):
    ∃c',Evo c w c' (w.putObj cb o)/\HRel c' (h.set b x) (w.putObj cb o)/\c'.ρ b g=some (.loc cb 0):=by
  subst hg
  have hlt:=QaE hr
  have other:∀k,k≠cb->(w.putObj cb o).heap[k]?=w.heap[k]?:=fun k hk=>World.putObj_heap_other hk
  have hlater:∀y,x.gen<y->c.ρ b y=none:=by
    intro y hy
    obtain⟨z,hz,hzg,_⟩:=hl
    exact H.later b z hz y (by omega)
  have:=H.put (w':=w.putObj cb o) (cb:=cb) (base:=0) hb hlater (.inr hp) (.inr ⟨x.gen,0,hl,hp⟩) rfl rfl rfl (by rw[World.putObj_size];exact Nat.le_refl _) (by rw[World.putObj_size];exact hlt)
    (fun k _ hk=>other k hk) (fun C e fr hc=>by rw[hr]at hc;cases hc) (fun E=>hx _ E (by show(if b=b/\x.gen=x.gen then _ else _)=_;exact if_pos ⟨rfl,rfl⟩) (.inr rfl))
  exact⟨_,this.1,this.2,by show(if b=b/\x.gen=x.gen then _ else _)=_;exact if_pos ⟨rfl,rfl⟩⟩
def upsT:Tmps->List Nat->List AV->Tmps
 |T,p::ps,x::xs=>upsT (up T p x) ps xs
 |T,_,_=>T
theorem Qjh {ok : Okc} {c : Ctx ok} {w : World} : ∀ (ps : List Nat) (xs : List AV) (vs : List Value) (T : Tmps) (t : Array Value), (∀ p ∈ ps, p < t.size) -> xs.length = ps.length -> VRels c w xs vs -> (∀ i, VRel c w (lk T i) (t.getD i undef)) ->
    (∀i,VRel c w (lk (upsT T ps xs) i) (((ps.zip vs).foldl (fun t (p:Nat×Value)=>t.setIfInBounds p.1 p.2) t).getD i undef))/\((ps.zip vs).foldl (fun t (p:Nat×Value)=>t.setIfInBounds p.1 p.2) t).size=t.size
  |[],xs,vs,T,t,_,_,_,ht=>by cases xs<;>exact⟨ht,rfl⟩
  |p::ps,[],_,_,_,_,hl,_,_=>by simp at hl
  | p :: ps, x :: xs, vs, T, t, hp, hl, hv, ht => by
    simp only[VRels]at hv
    obtain⟨v,vs',rfl,h1,h2⟩:=hv
    have hlt:p<t.size:=hp p (by simp)
    obtain⟨k1,k2⟩:=Qjh ps xs vs' (up T p x) (t.setIfInBounds p v) (fun q hq=>by simpa using hp q (by simp[hq])) (by simpa using hl) h2 (fun i=>by
      rw[lk_up]
      by_cases e:i=p
      · subst e;rw[if_pos rfl];simpa[hlt]using h1
      · rw [if_neg e]
        have:=ht i
        simpa[Array.getElem?_setIfInBounds_ne (fun h=>e h.symm)]using this)
    exact⟨k1,by rw[List.zip_cons_cons,List.foldl_cons,k2];simp⟩
def stOf:SX->LSt
 | .normal=> .ready
 |e=> .done e
def SX.isNormal:SX->Bool
 | .normal=>true
 |_=>false
theorem RSpec.of_W {b g N : Nat} {T : Tmps} {ps : List Nat} {asg body : LCode} {args : List AV} {h h' : Heap} {v : AV} (hb : h.get b = some (.loop g N T ps asg body .ready)) (hl : b < lim) (hlen : args.length = ps.length) (hps : ∀ p ∈ ps, p < N)
    (hw : W P N asg.slim (fun e B => e = .normal /\ ∃ N1 T1 ps1 as1 body1, B.h.get b = some (.loop g N1 T1 ps1 as1 body1 .ready) /\
      W P N body.slim (fun e C => ∃ N2 T2 ps2 as2 body2, C.h.get b = some (.loop g N2 T2 ps2 as2 body2 .busy) /\ v = .bool e.isNormal /\ ∀ x, (C.h.set b (.loop g N2 T2 ps2 as2 body2 (stOf e))).get x = h'.get x)
        ⟨B.T,B.h.set b (.loop g N1 T1 ps1 as1 body1 .busy)⟩)
      ⟨upsT T ps args,h⟩):RSpec P b g args h v h':=by
  intro c w cargs cb H ha hcb
  obtain⟨cb0,r,h1,h2,h3,L⟩:=H.blk b _ hb
  rw[hcb]at h1;cases h1
  have hcs:cargs.size=r.params.size:=by
    have e1:=Qam ha
    have e2:r.params.toList.length=ps.length:=by rw[L.params]
    simp at e1 e2;omega
  refine⟨r.fn,_,r.assign,r.body,run_yield h3 hcs,roundIn_of_wpIn trivial ?_⟩
  have hfold:(r.params.zip cargs).foldl (fun tmps (x:Nat×Value)=>tmps.setIfInBounds x.1 x.2) r.tmps=(ps.zip cargs.toList).foldl (fun t (p:Nat×Value)=>t.setIfInBounds p.1 p.2) r.tmps:=by
    rw[<-Array.foldl_toList,Array.toList_zip,L.params]
  obtain⟨ht,hts⟩:=Qjh ps args cargs.toList T r.tmps (fun p hp=>by rw[L.size];exact hps p hp) hlen ha L.tmps
  refine hw r.assign L.okA.1 (c.rb 0) ⟨_,[]⟩ w ⟨H.rebase 0,fun i=>?_,?_,Nat.zero_le _⟩ (some cb) (fun e=>by rw[L.okA.2]at e;cases e) _ ?_
  · rw[hfold];exact(ht i).rebase 0
  · rw[hfold,hts,L.size]
  rintro e B c1 a1 w1 ⟨rfl,N1,T1,ps1,as1,body1,hB,hw2⟩ S1 E1
  obtain⟨cb1,r1,g1,g2,g3,L1⟩:=S1.heap.blk b _ hB
  have hcb1:c1.ρ b g=some (.loc cb 0):=E1.rho _ _ _ hcb
  rw[show c1.ρ b g=some (.loc cb1 0) from g1]at hcb1;cases hcb1
  refine⟨_,run_beginRound g3 L1.state,?_⟩
  obtain ⟨c2, E2, H2, hcb2⟩ := S1.heap.turnL (.loop { r1 with state := .busy }) (x := .loop g N1 T1 ps1 as1 body1 .busy) hl ⟨_, hB, rfl, fun k => by simp⟩ g1 g3 rfl (fun c' E' k1 k2 =>
    ⟨cb,_,k1,k2,World.putObj_heap_same (QaE g3),by
      have L':=L1.mono (E'.ext S1.heap.disj)
      exact⟨L'.params,L'.size,L'.tmps,L'.okA,L'.okB,rfl,L'.pend⟩⟩)
  refine hw2 r.body L.okB.1 c2 a1 _ ⟨H2,fun i=>VRel.mono (E2.ext S1.heap.disj) _ _ (S1.tmps i),S1.size,S1.defers.mono E2⟩ (some cb) (fun e=>by rw[L.okB.2]at e;cases e) _ ?_
  rintro e C c3 a3 w3 ⟨N2,T2,ps2,as2,body2,hC,rfl,hh⟩ S3 E3
  obtain⟨cb3,r3,q1,q2,q3,L3⟩:=S3.heap.blk b _ hC
  have hcb3:c3.ρ b g=some (.loc cb 0):=E3.rho _ _ _ hcb2
  rw[show c3.ρ b g=some (.loc cb3 0) from q1]at hcb3;cases hcb3
  have fin:∀(jump:Option Code),jump.isNone=e.isNormal->(stOf e).pend=jump->(stOf e).state=(if jump.isNone then .ready else .done)->
      ∃v w',(Instr.endRound cb jump).run P w3= .ok v w'/\Rets P c w h' (.bool e.isNormal) (.returned v) w':=by
    intro jump j1 j2 j3
    obtain ⟨c4, E4, H4, _⟩ := S3.heap.turnL (.loop { r3 with state := if jump.isNone then .ready else .done, pending := jump }) (x := .loop g N2 T2 ps2 as2 body2 (stOf e)) hl ⟨_, hC, rfl, fun k => by simp⟩ q1 q3 rfl (fun c' E' k1 k2 =>
      ⟨cb,_,k1,k2,World.putObj_heap_same (QaE q3),by
        have L':=L3.mono (E'.ext S3.heap.disj)
        exact⟨L'.params,L'.size,L'.tmps,L'.okA,L'.okB,j3.symm,j2.symm⟩⟩)
    have E:=((E1.trans E2).trans E3).trans E4
    exact⟨_,_,run_endRound jump q3,_,(c4.rb (c.base)),rfl,E.rebase,(Qck hh H4).rebase _,by simp[VRel,j1]⟩
  cases e with
  |normal=>exact fin none rfl rfl rfl
  |exit i=>exact fin (some (.exit i)) rfl rfl rfl
  |ret=>exact fin (some .ret) rfl rfl rfl
def leftQ (Q:SX->St->Prop) (B:St):LSt->Prop
 | .ready=>Q .normal B
 | .busy=>False
 | .done e=>e.isNormal=false/\Q e B
theorem W.rfunc {N : Nat} {Q : SX -> St -> Prop} {A : St} {g : Opd} {ps : List Nat} {asg body : SCode} {f b : Nat} {first cap : List AV} {v : AV} {h2 : Heap} {T2 : Tmps} {N2 : Nat} {ps2 : List Nat} {as2 body2 : LCode} {st : LSt} (las lbody : LCode) (hla : las.slim = asg) (hlb : lbody.slim = body)
    (hg:ev A.T g= .fn f first cap) (hb:A.h.get b=none) (hl:b<lim) (hs:HSpec P f (first++[.yld b 0]++cap) (A.h.set b (.loop 0 N A.T ps las lbody .ready)) v h2)
    (hst:h2.get b=some (.loop 0 N2 T2 ps2 as2 body2 st))
    (hQ:leftQ Q ⟨A.T,h2.set b (.dead 0)⟩ st):W P N (.rfunc g ps N asg body) Q A:=by
  intro code hok c a w S ro hro Q' hQ'
  cases code<;>simp only[okCode,Bool.false_eq_true,Bool.and_eq_true,beq_iff_eq,Bool.not_eq_true']at hok
  rename_i g' ps' asg' body'
  obtain⟨⟨⟨⟨⟨⟨⟨k1,k2⟩,_⟩,_⟩,k3⟩,k4⟩,k5⟩,k6⟩:=hok
  have:=hro rfl
  subst this
  have hg':=Qaf S.tmps k1
  rw[hg]at hg'
  simp only[VRel]at hg'
  obtain⟨x',y',hgv,hx,hy⟩:=hg'
  refine wpIn_rangeFunc fun fn _=>?_
  obtain⟨E0,H0⟩:=S.heap.grow (w':=w.alloc (.deferred (some []))) rfl rfl rfl (by simp) (fun k hk=>Go.RowKit.Below.heap_alloc w _ k hk)
  obtain⟨rec,hrec⟩:∃rec:Loop,rec={state:= .ready,pending:=none,fn,tmps:=a.tmps,params:=ps',assign:=asg',body:=body',defers:=w.heap.size}:=⟨_,rfl⟩
  have hsz1:(w.alloc (.deferred (some []))).heap.size=w.heap.size+1:=by simp
  obtain⟨E1,H1⟩:=H0.put (w':=(w.alloc (.deferred (some []))).alloc (.loop rec)) (b:=b) (cb:=w.heap.size+1) (base:=0) (x:= .loop 0 N A.T ps las lbody .ready) hl (fun y hy=>H0.fresh b hb y) (.inl (H0.fresh b hb _)) (.inl hsz1.symm)
    rfl rfl rfl (by simp) (by simp) (fun k hk _ => Go.RowKit.Below.heap_alloc _ _ k hk) (fun C e fr hc => by have := QaE hc; omega) (fun E =>
      ⟨w.heap.size+1,rec,by show(if b=b/\0=0 then _ else _)=_;exact if_pos ⟨rfl,rfl⟩,.inr rfl,by have:=World.alloc_heap_new (w.alloc (.deferred (some []))) (.loop rec);rwa [hsz1]at this,by
        subst hrec
        exact⟨k2,S.size,fun i=>VRel.mono (E0.trans E|>.ext S.heap.disj) _ _ (S.tmps i),by rw[hla];exact⟨k5,k3⟩,by rw[hlb];exact⟨k6,k4⟩,rfl,rfl⟩⟩)
  generalize hc1:c.with b (Blk.loop 0 N A.T ps las lbody .ready).gen (.loc (w.heap.size+1) 0) (some (w.heap.size+1))=c1 at E1 H1
  have hρ1:c1.ρ b 0=some (.loc (w.heap.size+1) 0):=by rw[<-hc1];show(if b=b/\0=0 then _ else _)=_;exact if_pos ⟨rfl,rfl⟩
  have hO1:∀k,c1.O k->c.O k\/k=w.heap.size+1:=by
    intro k hk;rw[<-hc1]at hk
    rcases hk with hk|hk
    · exact .inl hk
    · cases hk;exact .inr rfl
  have hF1:∀k,c1.F k->c.F k:=by intro k hk;rw[<-hc1]at hk;exact hk
  generalize hW1:(w.alloc (.deferred (some []))).alloc (.loop rec)=W1 at E1 H1
  have hD1:W1.heap[w.heap.size]?=some (.deferred (some [])):=by
    rw[<-hW1];exact(Go.RowKit.Below.heap_alloc _ _ _ (by simp)).trans (World.alloc_heap_new w _)
  have E01:=E0.trans E1
  have hargs:VRels c1 W1 (first++[.yld b 0]++cap) (x'++ #[Value.func (.yield (w.heap.size+1)) #[] #[]]++y').toList:=by
    have e1:=VRels.mono (E01.ext S.heap.disj) _ _ hx
    have e2:=VRels.mono (E01.ext S.heap.disj) _ _ hy
    have e3:VRels c1 W1 [.yld b 0] [.func (.yield (w.heap.size+1)) #[] #[]]:=by
      simp only[VRels,VRel];exact⟨_,_,rfl,⟨_,hρ1,rfl⟩,rfl⟩
    simpa using QaS (QaS e1 e3) e2
  refine⟨w.heap.size+1,[{target:= .collected w.heap.size,args:= #[]}],W1,{target:= .fn (.func f) y',args:=x'++ #[.func (.yield (w.heap.size+1)) #[] #[]]},W1,f,x'++ #[.func (.yield (w.heap.size+1)) #[] #[]]++y',W1,?_,?_,fun _ _=>trivial,?_,fun h=>by simp[FW,Fence.wide]at h,?_⟩
  · rw[<-hW1,hrec];exact run_enterLoop_outer _ _ _ _ _
  · simp only [resolve, hgv]
    simp[Deferred.ofValue,Act.eval]
  · simp only [invoke]
    exact Qey hs.1 _
  · refine callsFW ((hs.2 c1 W1 _ H1 hargs).mono ?_)
    rintro e w2 ⟨cv,c2,rfl,E2,H2,V2⟩
    obtain⟨cb,r,p1,p2,p3,L⟩:=H2.blk b _ hst
    have hρ2:c2.ρ b 0=some (.loc (w.heap.size+1) 0):=E2.rho _ _ _ hρ1
    rw[show c2.ρ b 0=some (.loc cb 0) from p1]at hρ2;cases hρ2
    have hbusy:r.state≠ .busy:=by
      rw[L.state]
      cases st<;>simp[LSt.state,leftQ]at hQ⊢
    obtain⟨c3,E3,H3,_⟩:=H2.turnL (.loop {r with state:= .exhausted}) (x:= .dead 0) hl ⟨_,hst,rfl,fun k=>by simp⟩ p1 p3 rfl (fun c' _ _ _=>trivial)
    have hel:=run_endLoop (P:=P) p3 hbusy
    generalize w2.putObj (w.heap.size+1) (.loop {r with state:= .exhausted})=W3 at E3 H3 hel
    refine⟨r.pending,W3,hel,?_⟩
    have E:=(E01.trans E2).trans E3
    have hlow:=S.defers.low
    have hD:w.heap.size<W1.heap.size:=QaE hD1
    have notO1:¬c1.O w.heap.size:=fun h=>by
      rcases hO1 _ h with h|h
      · have:=S.heap.inO _ h;omega
      · omega
    have M : Marks c3 W3 ({ target := .collected w.heap.size, args := #[] } :: a.defers) := by
      have notF1:¬c1.F w.heap.size:=fun h=>by have:=S.heap.inF _ (hF1 _ h);omega
      have step:=(E2.trans E3)
      have m1 : Marks c1 W1 ({ target := .collected w.heap.size, args := #[] } :: a.defers) := by
        refine⟨⟨w.heap.size,rfl,by rw[E01.base];exact hlow,notO1,notF1,hD1,fun d' hd' e=>?_⟩,S.defers.mono E01⟩
        have key:∀{ds:List Deferred},Marks c w ds->∀d∈ds,∀D,d.target= .collected D->D<w.heap.size:=by
          intro ds
          induction ds with
          |nil=>intro _ d hd;cases hd
          | cons x xs ih =>
            rintro⟨⟨D0,x1,x2,x3,x4,x5,x6⟩,hr⟩ d hd D e
            rcases List.mem_cons.1 hd with rfl|hd
            · rw[x1]at e;cases e;exact QaE x5
            · exact ih hr d hd D e
        have:=key S.defers d' hd' _ e
        omega
      exact m1.mono step
    have S3 : SRel N c3 ⟨A.T, h2.set b (.dead 0)⟩ { a with defers := { target := .collected w.heap.size, args := #[] } :: a.defers } W3 :=
      ⟨H3,fun i=>VRel.mono (E.ext S.heap.disj) _ _ (S.tmps i),S.size,M⟩
    have hpend:=L.pend
    cases st with
    | ready =>
      rw[show r.pending=none from hpend]
      exact hQ' .normal _ c3 _ _ hQ S3 E
    |busy=>exact hQ.elim
    | done e =>
      rw[show r.pending=some e.toCode from hpend]
      obtain⟨he,hq⟩:=hQ
      cases e with
      |normal=>cases he
      |exit i=>exact wpIn_exit (hQ' (.exit i) _ c3 _ _ hq S3 E)
      |ret=>exact wpIn_ret (hQ' .ret _ c3 _ _ hq S3 E)
end Go.AM
