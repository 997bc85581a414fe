/- A part of the proof of GuardsManyCardSaid: lemmas on the way (AmU, AmUa, AmQa, AmQd, AmQw, AmTe, AnDj, AnCm, AmTp, AnQb). Conditions: none of ours. -/
import Derived.OpenShut
import Derived.Test.YtgfnbkngfedlkaaGreatDoorAmG9
set_option linter.unusedSectionVars false
set_option maxHeartbeats 32000000
set_option maxRecDepth 100000
set_option linter.unusedVariables false
set_option linter.unusedSimpArgs false
namespace Go.AM
variable {ok:Okc}
open Go.ChangeShapes Go.WideShapes
def inF (w:World) (k:Nat):Prop:=k<w.heap.size
end Go.AM
namespace Go.AM
open Go.ChangeShapes Go.WideShapes
inductive Ty where
 |int (k:IntKind)
 |bool
 |str
 |arr (n:Nat) (t:Ty)
 |sl (t:Ty)
 |st (fs:Ty)
 |unit
 |pair (a b:Ty)
def Ty.sz:Ty->Nat
 | .int _| .bool| .str| .sl _=>1
 | .arr n t=>n*t.sz
 | .st fs=>fs.sz
 | .unit=>0
 | .pair a b=>a.sz+b.sz
abbrev Ty.D:Ty->Type
 | .int _=>Int
 | .bool=>Bool
 | .str=>List UInt8
 | .arr _ t| .sl t=>List t.D
 | .st fs=>fs.D
 | .unit=>Unit
 | .pair a b=>a.D×b.D
def Ty.cells:(t:Ty)->t.D->List AV
 | .int k,n=>[.int k n]
 | .bool,b=>[.bool b]
 | .str,s=>[.str s]
 | .arr _ t,l=>List.flatMap (Ty.cells t) l
 | .sl t,l=>[.fsl (List.flatMap (Ty.cells t) l) (List.length l) t.sz]
 | .st fs,d=>Ty.cells fs d
 | .unit,_=>[]
 | .pair a b,d=>Ty.cells a d.1++Ty.cells b d.2
def Ty.wf:(t:Ty)->t.D->Prop
 | .int k,n=>(Lit.int k n).wf=true
 | .bool,_=>True
 | .str,s=>List.length s<=9223372036854775807
 | .arr n t,l=>List.length l=n/\∀x∈(show List t.D from l),Ty.wf t x
 | .sl t,l=>List.length l<=9223372036854775807/\∀x∈(show List t.D from l),Ty.wf t x
 | .st fs,d=>Ty.wf fs d
 | .unit,_=>True
 | .pair a b,d=>Ty.wf a d.1/\Ty.wf b d.2
def eltT (P:Program) (ts:List TypeId):List TypeId:=match ts with
 |t::_=>(match P.underlying t with|some (.slice e)=>[e]|some (.array _ e)=>[e]|_=>[])
 |[]=>[]
def fldT (P:Program) (ts:List TypeId):List TypeId:=match ts with
 |t::_=>(match P.underlying t with|some (.struct l)=>l.toList.map (·.type)|_=>[])
 |[]=>[]
def Ty.sized (P:Program):(t:Ty)->List TypeId->t.D->Prop
 | .arr _ t,ts,l=>∀x∈(show List t.D from l),Ty.sized P t (eltT P ts) x
 | .sl t,ts,l=>(∀e∈eltT P ts,List.length l*P.bytesOf e<=reachBytes)/\∀x∈(show List t.D from l),Ty.sized P t (eltT P ts) x
 | .st fs,ts,d=>Ty.sized P fs (fldT P ts) d
 | .pair a b,ts,d=>Ty.sized P a (ts.take 1) d.1/\Ty.sized P b ts.tail d.2
 |_,_,_=>True
theorem Qbk {H:Type} {P:Program} {e:TypeId} {q:Nat->Bool}:∀{l:List (DataW H)} {d:DataW H},d∈l->(DataW.weightsAll P e l).all q=true->(d.weights P e).all q=true
 |x::l,d,hd,h=>by
  simp only[DataW.weightsAll,List.all_append,Bool.and_eq_true]at h
  rcases List.mem_cons.1 hd with rfl|hd
  ·exact h.1
  ·exact Qbk hd h.2
mutual
def okTy (P:Program):Ty->TypeId->Bool
 | .int k,t=>match P.underlying t with|some (.int k')=>k'==k|_=>false
 | .bool,t=>match P.underlying t with|some .bool=>true|_=>false
 | .str,t=>match P.underlying t with|some .string=>true|_=>false
 | .arr n e,t=>match P.underlying t with|some (.array m u)=>n==m&&okTy P e u&&P.cellsOf u==e.sz&&P.cellsOf t==n*e.sz|_=>false
 | .sl e,t=>match P.underlying t with|some (.slice u)=>okTy P e u&&P.cellsOf u==e.sz&&Nat.blt 0 e.sz|_=>false
 | .st fs,t=>match P.underlying t with|some (.struct l)=>okFs P fs l.toList 0&&P.cellsOf t==fs.sz|_=>false
 |_,_=>false
termination_by structural ty=>ty
def okFs (P:Program):Ty->List Field->Nat->Bool
 | .unit,l,_=>match l with|[]=>true|_=>false
 | .pair a b,l,off=>match l with|f::l=>f.offset==off&&okTy P a f.type&&P.cellsOf f.type==a.sz&&okFs P b l (off+a.sz)|_=>false
 |_,_,_=>false
termination_by structural ty=>ty
end
section
variable {ok:Okc} {H:Type} {enc:TypeId×Value->H} {P:Program} {W:World} {spare:Nat->Bool}
theorem Qbt:∀(t:Ty) (d:t.D),t.wf d->(t.cells d).length=t.sz
 | .int _,_,_=>rfl
 | .bool,_,_=>rfl
 | .str,_,_=>rfl
 | .sl _,_,_=>rfl
 | .unit,_,_=>rfl
 | .st fs,d,h=>Qbt fs d h
 | .pair a b,d,h=>by
  simp only[Ty.cells,Ty.sz,List.length_append,Qbt a d.1 h.1,Qbt b d.2 h.2]
 | .arr n t, l, h => by
  obtain⟨h1,h2⟩:=h
  simp only[Ty.cells,Ty.sz,<-h1]
  have:∀(l:List t.D),(∀x∈l,t.wf x)->(l.flatMap t.cells).length=l.length*t.sz:=by
   intro l
   induction l with
   |nil=>intro _;simp
   |cons x l ih=>intro hl;simp[List.flatMap_cons,Qbt t x (hl x (by simp)),ih fun y hy=>hl y (by simp[hy]),Nat.succ_mul];omega
  exact this l h2
theorem Qdp {α β:Type} {f:α->Option β}:∀{l:List α} {r:List β},l.mapM f=some r->r.length=l.length/\∀(i:Nat) (x:α),l[i]?=some x->∃y,f x=some y/\r[i]?=some y
 |[],r,h=>by simp_all
 |a::l,r,h=>by
  simp only[List.mapM_cons,Option.bind_eq_bind,Option.bind_eq_some_iff]at h
  obtain⟨y,hy,ys,hys,e⟩:=h
  simp at e;subst e
  obtain⟨h1,h2⟩:=Qdp hys
  grind
theorem many {ok:Okc} {t:Ty} {R:t.D->Prop} {c:Ctx ok} {n:Nat}:∀{cs:List Value},(∀i,i<n->∃x:t.D,R x/\VRels c W (t.cells x) ((cs.drop (i*t.sz)).take t.sz))->n*t.sz<=cs.length->
  ∃l:List t.D,l.length=n/\(∀x∈l,R x)/\VRels c W (l.flatMap t.cells) (cs.take (n*t.sz)):=by
 induction n with
 |zero=>intro cs _ _;exact⟨[],rfl,by simp,by simp[VRels]⟩
 | succ n ih =>
  intro cs hx hl
  obtain⟨x,h1,h2⟩:=hx 0 (by omega)
  rw[Nat.succ_mul]at hl
  obtain⟨l,h3,h4,h5⟩:=ih (cs:=cs.drop t.sz) (fun i hi=>by
   grind [List.drop_drop]) (by simp;omega)
  refine⟨x::l,by simp[h3],by simp_all,?_⟩
  rw[List.flatMap_cons,Nat.succ_mul,Nat.add_comm,List.take_add]
  refine Qat ?_ h5
  simpa using h2
mutual
theorem QcG : ∀ (ty : Ty) (t : TypeId) (fuel : Nat) (cs : List Value) (x : DataW H × List MemPlace), (∀ b, spare b = true) -> okTy P ty t = true -> DataW.trod enc P W 0 spare true fuel t cs = some x ->
    ∃d:ty.D,(ty.wf d/\((x.1.weights P t).all (· <=reachBytes)=true->ty.sized P [t] d))/\VRels (only (ok:=ok) (inF W)) W (ty.cells d) cs:=by
  intro ty t fuel cs x hs ho h
  match ty with
  | .int k =>
    simp only[okTy]at ho
    split at ho<;>try (cases ho;done)
    rename_i k' hu
    simp only[beq_iff_eq]at ho
    subst ho
    obtain⟨n,rfl,_,hw⟩:=DataW.trod_int hu h
    exact⟨n,⟨hw,fun _=>trivial⟩,by simp[Ty.cells,VRels,VRel]⟩
  | .bool =>
    simp only[okTy]at ho
    split at ho<;>try (cases ho;done)
    rename_i hu
    obtain⟨b,rfl,_⟩:=DataW.trod_bool hu h
    exact⟨b,⟨trivial,fun _=>trivial⟩,by simp[Ty.cells,VRels,VRel]⟩
  | .str =>
    simp only[okTy]at ho
    split at ho<;>try (cases ho;done)
    rename_i hu
    obtain⟨s,rfl,_,hl⟩:=DataW.trod_string hu h
    refine⟨s.data.toList,⟨?_,fun _=>trivial⟩,?_⟩
    · simp only [ByteArray.size, maxLen] at hl
      simp_all [Ty.wf]
    · simp[Ty.cells,VRels,VRel]
  | .unit=>simp[okTy]at ho
  | .pair a b=>simp[okTy]at ho
  | .st fs =>
    simp only[okTy]at ho
    split at ho<;>try (cases ho;done)
    rename_i l hu
    simp only[Bool.and_eq_true,beq_iff_eq]at ho
    obtain⟨ho,hsz⟩:=ho
    cases fuel with
    |zero=>simp[DataW.trod]at h
    | succ n =>
      unfold DataW.trod at h
      rw[hu]at h
      split at h<;>first|(simp_all;done)|skip
      rename_i fs' he
      injection he with he;injection he with he;subst he
      split at h
      · rename_i hl
        simp only[Option.map_eq_some_iff]at h
        obtain⟨xs,hm,rfl⟩:=h
        obtain⟨d,⟨h1,h3⟩,h2⟩:=QgB fs l.toList 0 n _ xs hs ho hm (by omega)
        refine⟨d,⟨h1,fun hw=>?_⟩,?_⟩
        · simp only [DataW.weights, hu] at hw
          show Ty.sized P fs (fldT P [t]) d
          simp only[fldT,hu]
          exact h3 hw
        grind [Ty.cells]
      · cases h
  | .arr m e =>
    simp only[okTy]at ho
    split at ho<;>try (cases ho;done)
    rename_i m' u hu
    simp only[Bool.and_eq_true,beq_iff_eq]at ho
    obtain⟨⟨⟨rfl,ho⟩,hsz⟩,hst⟩:=ho
    cases fuel with
    |zero=>simp[DataW.trod]at h
    | succ n =>
      unfold DataW.trod at h
      rw[hu]at h
      split at h<;>first|(simp_all;done)|skip
      rename_i m' u' he
      injection he with he;injection he with he1 he2;subst he1;subst he2
      split at h
      · rename_i hl
        simp only[Option.map_eq_some_iff]at h
        obtain⟨xs,hm,rfl⟩:=h
        obtain⟨g1,g2⟩:=Qdp hm
        rw[hst]at hl
        obtain⟨l,k1,k2,k3⟩:=many (t:=e) (R:=fun x=>e.wf x/\((DataW.weightsAll P u (xs.map (·.1))).all (· <=reachBytes)=true->e.sized P [u] x)) (c:=only (inF W)) (n:=m) (fun i hi=>by
          obtain⟨y,hy,hyx⟩:=g2 i i (by simp[hi])
          rw[hsz]at hy
          obtain⟨d,⟨j1,j2⟩,j3⟩:=QcG e u n _ y hs ho hy
          exact⟨d,⟨j1,fun hw=>j2 (Qbk (List.mem_map.2 ⟨y,List.mem_of_getElem? hyx,rfl⟩) hw)⟩,j3⟩) (by omega)
        refine⟨l,⟨⟨k1,fun x hx=>(k2 x hx).1⟩,fun hw=>?_⟩,?_⟩
        · simp only [DataW.weights, hu] at hw
          show ∀x∈l,Ty.sized P e (eltT P [t]) x
          simp only[eltT,hu]
          exact fun x hx=>(k2 x hx).2 hw
        rw[<-hl,List.take_length]at k3
        exact k3
      · cases h
  | .sl e =>
    simp only[okTy]at ho
    split at ho<;>try (cases ho;done)
    rename_i u hu
    simp only[Bool.and_eq_true,beq_iff_eq,Nat.blt_eq]at ho
    obtain⟨⟨ho,hsz⟩,hpos⟩:=ho
    rcases DataW.trod_slice hu h with⟨rfl,_⟩|⟨a,len,cap,elems,rest,n,_,rfl,rfl,_,hl,hm,hlen,hel,hsp,hns⟩
    · exact⟨[],⟨⟨by simp,by simp⟩,fun _=>⟨fun _ _=>by simp,by simp⟩⟩,by simp[Ty.cells,VRels,VRel]⟩
    obtain⟨hrl,hr⟩:=hsp (hs _)
    have each:∀i,i<cap->∃cs,(w':W.cells? 0 (a.add (i*e.sz)) e.sz=some cs)->True:=fun _ _=>⟨[],fun _=>trivial⟩
    have each:∀i,i<cap->∃cs y,W.cells? 0 (a.add (i*e.sz)) e.sz=some cs/\DataW.trod enc P W 0 spare true n u cs=some y:=by
      intro i hi
      by_cases hil:i<len
      · grind [Option.bind_eq_some_iff]
      · have h1 := hr (i - len) (by omega)
        grind [Option.bind_eq_some_iff]
    by_cases h0:cap=0
    · have : len = 0 := by omega
      subst h0;subst this
      exact⟨[],⟨⟨by simp,by simp⟩,fun _=>⟨fun _ _=>by simp,by simp⟩⟩,by simp[Ty.cells,VRels,VRel]⟩
    have cellsAt:∀i cs,W.cells? 0 (a.add (i*e.sz)) e.sz=some cs->cs.length=e.sz/\∀j,j<e.sz->W.cell? ((a.add (i*e.sz)).add j)=cs[j]?:=by
      intro i cs hcs
      unfold World.cells? at hcs
      rw[if_pos (Nat.zero_le _)]at hcs
      obtain⟨g1,g2⟩:=Qdp hcs
      refine⟨by simpa using g1,fun j hj=>?_⟩
      obtain⟨y,k1,k2⟩:=g2 j j (by simp[hj])
      rw[k1,k2]
    obtain⟨cs0,y0,hc0,_⟩:=each 0 (by omega)
    obtain⟨q1,q2⟩:=cellsAt 0 cs0 hc0
    have hcell0:=q2 0 hpos
    rw[List.getElem?_eq_getElem (by omega)]at hcell0
    obtain⟨b,off,spot⟩:=a
    have hspot:spot=none:=by simpa[Addr.add]using World.cell?_spot hcell0
    subst hspot
    have hb:∃C e fr,W.heap[b]?=some (.cells C e fr):=by
      grind [World.cell?,Addr.add]
    obtain⟨C,et,fr,hb⟩:=hb
    have hcell:∀i cs,W.cells? 0 ((⟨b,off,none⟩:Addr).add (i*e.sz)) e.sz=some cs->i<cap->(C.toList.drop (off+i*e.sz)).take e.sz=cs:=by
      intro i cs hcs hi
      obtain⟨k1,k2⟩:=cellsAt i cs hcs
      refine List.ext_getElem? fun j=>?_
      by_cases hj:j<e.sz
      · simp_all [Go.WideShapes.add_plain,World.cell?]
      grind
    have hCs:len*e.sz<=(C.toList.drop off).length:=by
      by_cases hl0:len=0
      · subst hl0;simp
      obtain⟨cs,y,hcs,_⟩:=each (len-1) (by omega)
      have h1:=hcell (len-1) cs hcs (by omega)
      obtain⟨k1,_⟩:=cellsAt (len-1) cs hcs
      have h2:=congrArg List.length h1
      rw[k1,List.length_take,List.length_drop]at h2
      rw[List.length_drop]
      have h3:len*e.sz=(len-1)*e.sz+e.sz:=by
        rw[<-Nat.succ_mul];congr 1;omega
      omega
    have eachL:∀i,i<len->∃cs y,W.cells? 0 ((⟨b,off,none⟩:Addr).add (i*e.sz)) e.sz=some cs/\DataW.trod enc P W 0 spare true n u cs=some y/\y∈elems:=by
      intro i hi
      have h1:=hel i hi
      rw[List.getElem?_eq_getElem (by omega),hsz,Option.bind_eq_some_iff]at h1
      obtain⟨cs,hcs,hy⟩:=h1
      exact⟨cs,_,hcs,hy,List.getElem_mem _⟩
    obtain⟨l,k1,k2,k3⟩:=many (t:=e) (R:=fun x=>e.wf x/\((DataW.weightsAll P u (elems.map (·.1))).all (· <=reachBytes)=true->e.sized P [u] x)) (c:=only (inF W)) (n:=len) (cs:=C.toList.drop off) (fun i hi=>by
      obtain⟨cs,y,hcs,hy,hyx⟩:=eachL i hi
      rw[List.drop_drop,hcell i cs hcs (by omega)]
      obtain⟨d,⟨j1,j2⟩,j3⟩:=QcG e u n cs y hs ho hy
      exact⟨d,⟨j1,fun hw=>j2 (Qbk (List.mem_map.2 ⟨y,hyx,rfl⟩) hw)⟩,j3⟩) hCs
    have k2':∀x∈l,e.wf x:=fun x hx=>(k2 x hx).1
    refine⟨l,⟨⟨by grind [maxLen],k2'⟩,fun hw=>?_⟩,?_⟩
    · replace hw : (DataW.weights P t (.slice (elems.map (·.1)) (rest.map (·.1)))).all (· <= reachBytes) = true := hw
      simp only[DataW.weights,hu,List.all_cons,List.all_append,Bool.and_eq_true,decide_eq_true_eq,List.length_map]at hw
      refine⟨fun v hv=>?_,?_⟩
      · simp only [eltT, hu, List.mem_singleton] at hv
        subst hv
        refine Nat.le_trans (Nat.mul_le_mul_right _ ?_) hw.1
        show List.length l<=_
        omega
      · show ∀ x ∈ l, Ty.sized P e (eltT P [t]) x
        simp only[eltT,hu]
        exact fun x hx=>(k2 x hx).2 hw.2.1
    simp only[Ty.cells,VRels,VRel]
    have hll:(l.flatMap e.cells).length=l.length*e.sz:=Qbt (.arr l.length e) l ⟨rfl,k2'⟩
    refine⟨_,[],rfl,.inr ⟨b,off,cap,C,et,fr,by rw[k1],by omega,hll,Qan hb,hb,?_⟩,rfl⟩
    have:=Qc7 (vs:=(C.toList.drop off).drop (len*e.sz)) k3
    rwa [List.take_append_drop]at this
termination_by structural ty=>ty
theorem QgB : ∀ (ty : Ty) (fs : List Field) (off fuel : Nat) (cs : List Value) (xs : List (DataW H × List MemPlace)), (∀ b, spare b = true) -> okFs P ty fs off = true ->
    (fs.mapM fun f=>DataW.trod enc P W 0 spare true fuel f.type ((cs.drop f.offset).take (P.cellsOf f.type)))=some xs->off+ty.sz<=cs.length->
    ∃d:ty.D,(ty.wf d/\((DataW.weightsEach P (fs.map (·.type)) (xs.map (·.1))).all (· <=reachBytes)=true->ty.sized P (fs.map (·.type)) d))/\VRels (only (ok:=ok) (inF W)) W (ty.cells d) ((cs.drop off).take ty.sz):=by
  intro ty fs off fuel cs xs hs ho h hl
  match ty with
  | .unit=>exact⟨(),⟨trivial,fun _=>trivial⟩,by simp[Ty.cells,VRels,Ty.sz]⟩
  | .pair a b =>
    cases fs with
    |nil=>simp[okFs]at ho
    | cons f fs =>
      simp only[okFs,Bool.and_eq_true,beq_iff_eq]at ho
      obtain⟨⟨⟨rfl,h1⟩,h2⟩,h3⟩:=ho
      simp only[List.mapM_cons,Option.bind_eq_bind,Option.bind_eq_some_iff]at h
      obtain⟨y,hy,ys,hys,hxs⟩:=h
      have hxs:y::ys=xs:=by simpa using hxs
      subst hxs
      rw[h2]at hy
      simp only[Ty.sz]at hl
      obtain⟨d1,⟨g1,w1⟩,g2⟩:=QcG a f.type fuel _ y hs h1 hy
      obtain⟨d2,⟨g3,w2⟩,g4⟩:=QgB b fs (f.offset+a.sz) fuel cs ys hs h3 hys (by omega)
      refine⟨(d1,d2),⟨⟨g1,g3⟩,fun hw=>?_⟩,?_⟩
      · simp only [List.map_cons, DataW.weightsEach, List.all_append, Bool.and_eq_true] at hw
        exact⟨w1 hw.1,w2 hw.2⟩
      simp only[Ty.cells,Ty.sz]
      rw[List.take_add]
      refine Qat g2 ?_
      rw[List.drop_drop]
      exact g4
  | .int _=>simp[okFs]at ho
  | .bool=>simp[okFs]at ho
  | .str=>simp[okFs]at ho
  | .arr _ _=>simp[okFs]at ho
  | .sl _=>simp[okFs]at ho
  | .st _=>simp[okFs]at ho
termination_by structural ty=>ty
end
def Ty.val:(t:Ty)->t.D->AV
 | .arr n t,d=> .agg (Ty.cells (.arr n t) d)
 | .st fs,d=> .agg (Ty.cells (.st fs) d)
 | .int k,n=> .int k n
 | .bool,b=> .bool b
 | .str,s=> .str s
 | .sl t,l=> .fsl (List.flatMap (Ty.cells t) l) (List.length l) t.sz
 | .unit,_=> .any
 | .pair _ _,_=> .any
theorem Qio (ty:Ty) {t:TypeId} {base:Nat} {v:Value} {d0:DataW H} {ps:List MemPlace} (ho:okTy P ty t=true) (hv:Value.okWide P W .any base t v) (h:DataW.Trod enc P W 0 (fun _=>true) true t v d0 ps):
  ∃d:ty.D,(ty.wf d/\((d0.weights P t).all (· <=reachBytes)=true->ty.sized P [t] d))/\VRel (only (ok:=ok) (inF W)) W (ty.val d) v:=by
 obtain⟨fuel,h⟩:=h
 obtain⟨d,h1,h2⟩:=QcG (spare:=fun _=>true) ty t fuel _ _ (fun _=>rfl) ho h
 refine⟨d,h1,?_⟩
 have one:∀(u:AV),VRels (only (ok:=ok) (inF W)) W [u] v.cells.toList->(∀cs,v≠ .agg cs)->VRel (only (ok:=ok) (inF W)) W u v:=by
  intro u hu hn
  have:v.cells= #[v]:=by cases v<;>first|rfl|exact absurd rfl (hn _)
  simp_all [VRels]
 cases ty with
 |unit=>simp[okTy]at ho
 |pair a b=>simp[okTy]at ho
 |arr n e=>
  simp only[okTy]at ho
  split at ho<;>try (cases ho;done)
  rename_i hu
  simp only[Value.okWide,hu]at hv
  obtain⟨cs,rfl,_⟩:=hv
  simp only[Ty.val,VRel]
  exact⟨_,rfl,h2⟩
 |st fs=>
  simp only[okTy]at ho
  split at ho<;>try (cases ho;done)
  rename_i hu
  simp only[Value.okWide,hu]at hv
  obtain⟨cs,rfl,_⟩:=hv
  simp only[Ty.val,VRel]
  exact⟨_,rfl,h2⟩
 |int k=>
  refine one _ h2 ?_
  rintro cs rfl
  simp only[okTy]at ho
  split at ho<;>try (cases ho;done)
  rename_i hu
  simp[Value.okWide,hu,Cell.okWide,Cell.ok]at hv
 |bool=>
  refine one _ h2 ?_
  rintro cs rfl
  simp only[okTy]at ho
  split at ho<;>try (cases ho;done)
  rename_i hu
  simp[Value.okWide,hu,Cell.okWide,Cell.ok]at hv
 |str=>
  refine one _ h2 ?_
  rintro cs rfl
  simp only[okTy]at ho
  split at ho<;>try (cases ho;done)
  rename_i hu
  simp[Value.okWide,hu,Cell.okWide,Cell.ok]at hv
 |sl e=>
  refine one _ h2 ?_
  rintro cs rfl
  simp only[okTy]at ho
  split at ho<;>try (cases ho;done)
  rename_i hu
  simp[Value.okWide,hu,Cell.okWide,Cell.ok]at hv
theorem arg_in (ty:Ty) {t:TypeId} {base:Nat} {v:Value} {d:DataW H} {ps:List MemPlace} (ho:okTy P ty t=true) (hv:Value.okWide P W .any base t v) (h:DataW.Trod enc P W 0 (fun _=>true) true t v d ps):
  ∃d:ty.D,ty.wf d/\VRel (only (ok:=ok) (inF W)) W (ty.val d) v:=by
 obtain⟨e,h1,h2⟩:=Qio (ok:=ok) ty ho hv h
 exact⟨e,h1.1,h2⟩
end
end Go.AM
namespace Go.AM
variable {P:Program}
section
variable {N:NM} {n:Nat} {d:Option Nat} {af dead:List Nat} {r:List SOper} {T:Tmps} {h:Heap} {Q:QC} {fs:List Fr}
def wL (P:Program) (N:NM) (o:Option (List AV)) (len:Nat) (v:AV) (d:Option Nat) (ops:List SOper) (dead:List Nat) (fs:List Fr) (n:Nat) (T:Tmps) (h:Heap) (Q:QC):Prop:=
 ∃cs,o=some cs/\cs.length=len/\wN P N cs v d ops dead fs n T h Q
theorem Qd1 {cs:List AV} {len:Nat} {v:AV}:wL P N (some cs) len v d r dead fs n T h Q=if cs.length=len then wN P N cs v d r dead fs n T h Q else False:=by
 simp_all [wL]
theorem wN_go {x:List AV} {v:AV} (hl:n<1099511627775):wN P N x v d r dead fs n T h Q=if h.get n=none then wR P N r dead fs (n+1) (putD T d v) (h.set n (.cells 0 x)) Q else False:=by
 split
 ·rename_i hn;exact Qiw hn hl
 simp_all [wN]
theorem wB_go {x:Blk} {b:Nat} {v:AV} (hl:b<1099511627775):wB P N (some x) b v d r dead fs n T h Q=wR P N r dead fs (n+1) (putD T d v) (h.set b x) Q:=QdV hl
theorem QfH {k:Nat} {x:Blk} (hk:k<1099511627775):(h.set k x).get k=some x:=by rw[Tr.Qai h hk];simp
theorem QhK {j k:Nat} {x:Blk} (hk:k<1099511627775) (hj:j≠k):(h.set k x).get j=h.get j:=by rw[Tr.Qai h hk];simp[hj]
theorem QhL {x:Nat->Blk} {y:List AV} (hx:x 0= .cells 0 y) {w:Nat->Nat->AV}:wM P N (HM.new .dyn n x fun b g=> .ret (w b g)) d r dead fs n T h Q=wN P N y (w n 0) d r dead fs n T h Q:=by
 apply propext;constructor
 ·rintro ⟨v', h1, hm, hk⟩
  unfold HM.new at hm
  simp only[HM.run]at hm
  cases hn:h.get n with
  |none=>
   rw[hn]at hm
   obtain⟨hl,hm⟩:=Qak hm
   simp only[HM.run,Option.some.injEq,Prod.mk.injEq]at hm
   obtain⟨rfl,rfl⟩:=hm
   rw[hx]at hk
   exact⟨hn,hl,hk⟩
  |some z=>rw[hn]at hm;cases hm
 ·rintro ⟨hn, hl, hk⟩
  refine⟨_,_,?_,by rw[<-hx]at hk;exact hk⟩
  unfold HM.new
  simp only[HM.run,hn]
  have hl':Nat.blt n lim=true:=by simp_all
  rw[hl'];rfl
theorem QfI {x:AV}:wM P N (aBox .dyn n x) d r dead fs n T h Q=if x.boxable=true then wN P N x.cells (.ptr n 0 0) d r dead fs n T h Q else False:=by
 split
 ·simp_all [Qh1]
 simp_all [aBox,Qby]
theorem QbQ {sz len:Nat} {z:List AV} {ps:List (Nat×Nat×AV)}:wM P N (aBuildSlice false .dyn n sz len z ps) d r dead fs n T h Q=wL P N (fillA z ps) (len*sz) (.sl n 0 0 len sz) d r dead fs n T h Q:=by
 unfold aBuildSlice
 cases fillA z ps with
 |none=>simp[Qby,wL]
 |some cs=>
  simp only[Qd1,Bool.false_eq_true,if_false]
  split
  ·exact QhL rfl
  ·exact Qby
theorem Qb3 {sz bytes:Nat} {z:List AV} {k1 k2:IntKind} {l c:Int}:wM P N (aMakeSlice .dyn n sz bytes z (.int k1 l) (.int k2 c)) d r dead fs n T h Q=
  if 0<=l/\l<=c/\bytes*c<=140737488355328/\c<=140737488355328 then wN P N (List.replicate c.toNat z).flatten (.sl n 0 0 l.toNat sz) d r dead fs n T h Q else False:=by
 by_cases hc:0<=l/\l<=c/\bytes*c<=140737488355328/\c<=140737488355328
 ·simp only[aMakeSlice,if_pos hc];exact QhL (x:=fun g=> .cells g (List.replicate c.toNat z).flatten) rfl
 simp_all [aMakeSlice,if_neg,Qby]
theorem Qey {cs:List AV}:fillA cs []=some cs:=rfl
theorem QdP {cs:List AV} {off size:Nat} {v:AV} {r:List (Nat×Nat×AV)}:fillA cs ((off,size,v)::r)=if v.cells.length=size/\off+size<=cs.length/\v.boxable=true then fillA (putR cs off v.cells) r else none:=rfl
theorem Qez {z:List AV} {ps:List (Nat×Nat×AV)}:aBuild z ps=(fillA z ps).map AV.agg:=by grind [aBuild]
theorem QeA {k:IntKind} {a:Int}:(AV.int k a).cells=[.int k a]:=rfl
theorem QeB {cs:List AV}:(AV.agg cs).cells=cs:=rfl
theorem QfJ {b g off len sz:Nat}:(AV.sl b g off len sz).cells=[.sl b g off len sz]:=rfl
theorem QeC {cs:List AV} {len sz:Nat}:(AV.fsl cs len sz).cells=[.fsl cs len sz]:=rfl
theorem Qc5:AV.nilsl.cells=[.nilsl]:=rfl
theorem QgC {k:IntKind} {a:Int}:(AV.int k a).boxable=true:=rfl
theorem QgD {cs:List AV}:(AV.agg cs).boxable=true:=rfl
theorem QhM {b g off len sz:Nat}:(AV.sl b g off len sz).boxable=true:=rfl
theorem QgE {cs:List AV} {len sz:Nat}:(AV.fsl cs len sz).boxable=true:=rfl
theorem QeD:AV.nilsl.boxable=true:=rfl
theorem QgF {k:IntKind} {a:Int}:(AV.int k a).one=true:=rfl
theorem QhN {b g off len sz:Nat}:(AV.sl b g off len sz).one=true:=rfl
theorem QgG {cs:List AV} {len sz:Nat}:(AV.fsl cs len sz).one=true:=rfl
theorem QeE:AV.nilsl.one=true:=rfl
theorem QfK {cs:List AV} {off:Nat} {v:AV}:putR cs off [v]=cs.set off v:=rfl
theorem QeF {cs:List AV} {off:Nat} {v w:AV} {vs:List AV}:putR cs off (v::w::vs)=cs.take off++(v::w::vs)++cs.drop (off+(v::w::vs).length):=rfl
def srcB (o:Option Blk) (g off len sz:Nat):Option (List AV):=
 match o with
 |some (.cells g' cs)=>if g'=g/\off+len*sz<=cs.length then some ((cs.drop off).take (len*sz))else none
 |_=>none
theorem QcD {g g' off len sz:Nat} {cs:List AV}:srcB (some (.cells g' cs)) g off len sz=if g'=g/\off+len*sz<=cs.length then some ((cs.drop off).take (len*sz))else none:=rfl
theorem Qg2 {sz bytes b g off len b2 g2 off2 len2:Nat}:wM P N (aAppend .dyn n sz bytes (.sl b2 g2 off2 len2 sz) (.sl b g off len sz)) d r dead fs n T h Q=
  ∃ys zs,srcB (h.get b) g off len sz=some ys/\srcB (h.get b2) g2 off2 len2 sz=some zs/\((len2+len)*bytes<=140737488355328/\len2+len<=140737488355328)/\ys.all AV.one=true/\
   wB P N (some (.cells (g2+1) (zs++ys))) b2 (.sl b2 (g2+1) 0 (len2+len) sz) d r dead fs n T h Q:=by
 simp only[aAppend,aSrc,if_true,slLen,Qdf,Qcx,Qfu]
 apply propext;constructor
 ·rintro ⟨cs, hb, h1, h2, cs2, hb2, h3, h4⟩
  rw[hb,hb2,QcD,QcD,if_pos ⟨rfl,h1⟩,if_pos ⟨rfl,h3⟩]
  simp_all
 ·rintro ⟨ys, zs, hy, hz, h2, h3, h4⟩
  unfold srcB at hy hz
  grind
end
end Go.AM
namespace Go.AM
variable {P:Program}
abbrev HL:=List (Nat×Blk)
def hp:HL->Heap
 |[]=> .e
 |p::r=>(hp r).set p.1 p.2
theorem QhO:hp []= .e:=rfl
theorem QgH {b:Nat} {x:Blk} {r:HL}:hp ((b,x)::r)=(hp r).set b x:=rfl
theorem get_e {b:Nat}:Tr.get (α:=Blk) .e b=none:=by simp[Tr.get]
def lkS:List (Nat×Src)->Nat->Option Src
 |[],_=>none
 |(b,s)::r,k=>if k=b then some s else lkS r k
def srcNew (s:Src):List (Nat×Src)->Bool
 |[]=>true
 |(_,t)::r=>(match s,t with| .blk b _,.blk b' _=> !Nat.beq b b'|_,_=>true)&&srcNew s r
def okPs (m:Nat):List (Nat×Src)->HL->Bool
 |[],[]=>true
 |(b,s)::r,(b',_)::l=>Nat.beq b b'&&Nat.blt b 1099511627775&&(Nat.blt b m||((match s with| .blk k _=>Nat.ble m k| .nil=>true)&&srcNew s r))&&(r.all fun p=> !Nat.beq p.1 b)&&okPs m r l
 |_,_=>false
def ow (m:Nat) (ps:List (Nat×Src)):Nat->Option Src:=fun b=>if b<m then none else lkS ps b
def RB (m:Nat) (π:Nat->Option Src) (h:Heap):HL->Prop
 |[]=>True
 |(b',x)::r=>((b'<m/\BRn m π h (some (.blk b' x.gen)) x)\/(m<=b'/\x.gen=0/\(∀g,x≠ .dead g)/\BRn m π h (π b') x))/\RB m π h r
section
variable {m:Nat} {π:Nat->Option Src} {h:Heap}
def RO (m:Nat) (L:HL) (h:Heap):Prop:=∀b,b<m->(∀p∈L,p.1≠b)->h.get b=none
def Rec (m:Nat) (T':Tmps) (L:HL) (T:Tmps) (h:Heap):Prop:=∃ps,okPs m ps L=true/\RO m L h/\RB m (ow m ps) h L/\RT m (ow m ps) h T' T
end
section
variable {m:Nat} {π:Nat->Option Src} {h:Heap}
end
section
variable {k m n:Nat} {T:Tmps} {h:Heap} {Q:QC} {fs:List Fr} {α:Type} {env:α->Tmps} {H:α->HL} {I:α->Prop} {μ:α->Nat} {a:α}
def loopR (P:Program) (k m:Nat) {α:Type} (env:α->Tmps) (H:α->HL) (I:α->Prop) (μ:α->Nat) (a:α) (fs:List Fr) (Q:QC):QC:=fun e T h n=>
 match e with
 | .normal=>∃a',μ a'<μ a/\I a'/\Rec m (env a') (H a') T h
 |e=>wX P ⟨k,m⟩ e fs n T h Q
theorem QcE:loopR P k m env H I μ a fs Q .normal T h n=∃a',μ a'<μ a/\I a'/\Rec m (env a') (H a') T h:=rfl
theorem QdQ {i:Nat}:loopR P k m env H I μ a fs Q (.exit i) T h n=wX P ⟨k,m⟩ (.exit i) fs n T h Q:=rfl
theorem QeG:loopR P k m env H I μ a fs Q .ret T h n=wX P ⟨k,m⟩ .ret fs n T h Q:=rfl
def loopX (P:Program) (k m:Nat) {α β:Type} (env:α->Tmps) (H:α->HL) (I:α->Prop) (μ:α->Nat) (i:Nat) (T1:β->Tmps) (L1:β->HL) (J:β->Prop) (a:α) (fs:List Fr) (Q:QC):QC:=fun e T h n=>
 match e with
 | .normal=>∃a',μ a'<μ a/\I a'/\Rec m (env a') (H a') T h
 | .exit j=>if j=i then ∃b,J b/\Rec m (T1 b) (L1 b) T h else wX P ⟨k,m⟩ (.exit j) fs n T h Q
 | .ret=>wX P ⟨k,m⟩ .ret fs n T h Q
section
variable {β:Type} {i:Nat} {T1:β->Tmps} {L1:β->HL} {J:β->Prop}
theorem QcF:loopX P k m env H I μ i T1 L1 J a fs Q .normal T h n=∃a',μ a'<μ a/\I a'/\Rec m (env a') (H a') T h:=rfl
theorem QdR {j:Nat}:loopX P k m env H I μ i T1 L1 J a fs Q (.exit j) T h n=if j=i then ∃b,J b/\Rec m (T1 b) (L1 b) T h else wX P ⟨k,m⟩ (.exit j) fs n T h Q:=rfl
theorem QeH:loopX P k m env H I μ i T1 L1 J a fs Q .ret T h n=wX P ⟨k,m⟩ .ret fs n T h Q:=rfl
end
end
section
variable {N:NM} {n:Nat} {d:Option Nat} {af dead:List Nat} {r:List SOper} {T:Tmps} {h:Heap} {Q:QC} {fs:List Fr}
def wA (P:Program) (N:NM) (zs ys:Option (List AV)) (g len2 len sz bytes b:Nat) (d:Option Nat) (ops:List SOper) (dead:List Nat) (fs:List Fr) (n:Nat) (T:Tmps) (h:Heap) (Q:QC):Prop:=
 ∃ y z, ys = some y /\ zs = some z /\ ((len2 + len) * bytes <= 140737488355328 /\ len2 + len <= 140737488355328) /\ y.all AV.one = true /\
   wB P N (some (.cells (g+1) (z++y))) b (.sl b (g+1) 0 (len2+len) sz) d ops dead fs n T h Q
theorem Qc6 {sz bytes b g off len b2 g2 off2 len2:Nat}:wM P N (aAppend .dyn n sz bytes (.sl b2 g2 off2 len2 sz) (.sl b g off len sz)) d r dead fs n T h Q=
  wA P N (srcB (h.get b2) g2 off2 len2 sz) (srcB (h.get b) g off len sz) g2 len2 len sz bytes b2 d r dead fs n T h Q:=by
 rw[Qg2]
 apply propext;constructor
 ·rintro⟨ys,zs,h1,h2,h3,h4,h5⟩;exact⟨ys,zs,h1,h2,h3,h4,h5⟩
 ·rintro⟨ys,zs,h1,h2,h3,h4,h5⟩;simp_all
theorem QgI {zs ys:List AV} {g len2 len sz bytes b:Nat} (h1:(len2+len)*bytes<=140737488355328) (h2:len2+len<=140737488355328):
  wA P N (some zs) (some ys) g len2 len sz bytes b d r dead fs n T h Q=if ys.all AV.one=true then wB P N (some (.cells (g+1) (zs++ys))) b (.sl b (g+1) 0 (len2+len) sz) d r dead fs n T h Q else False:=by
 by_cases ho:ys.all AV.one=true
 ·rw [if_pos ho]; apply propext; constructor
  ·rintro⟨y,z,e1,e2,_,_,h5⟩;simp_all
  ·intro h5;exact⟨ys,zs,rfl,rfl,⟨h1,h2⟩,ho,h5⟩
 ·rw [if_neg ho]; apply propext; constructor
  ·rintro⟨y,z,e1,e2,_,h4,h5⟩;grind
  simp_all
theorem QfL {g len sz:Nat} {cs:List AV} (hl:cs.length=len*sz):srcB (some (.cells g cs)) g 0 len sz=some cs:=by
 rw[QcD,if_pos ⟨rfl,by omega⟩,List.drop_zero,<-hl,List.take_length]
end
end Go.AM
namespace Go.AM
theorem words:type_of% @Qgd/\type_of% @Qhn/\type_of% @Qge/\type_of% @Qee/\type_of% @Qho/\type_of% @Qgf/\type_of% @Qfb/\type_of% @Qgg/\type_of% @Qfc/\type_of% @Qgh/\type_of% @Qhp/\type_of% @wX_sq/\type_of% @Qef/\type_of% @Qdz/\type_of% @Qhq/\type_of% @QdA/\type_of% @QcR/\type_of% @QcA/\type_of% @QdK/\type_of% @Qev/\type_of% @ev_t/\type_of% @ev_c/\type_of% @ev_f/\type_of% @Qhr/\type_of% @Qa4/\type_of% @QdU/\type_of% @Qhs/\type_of% @Qht/\type_of% @rm_no/\type_of% @Qgi/\type_of% @Qeg/\type_of% @Qeh/\type_of% @Qfd/\type_of% @Qei/\type_of% @Qgj/\type_of% @Qfe/\type_of% @Qff/\type_of% @Qfg/\type_of% @QcS/\type_of% @Qcw/\type_of% @Qhu/\type_of% @Qfh/\type_of% @Qgk/\type_of% @Qgl/\type_of% @Qhv/\type_of% @Qgm/\type_of% @Qgn/\type_of% @Qfi/\type_of% @Qej/\type_of% @Qhw/\type_of% @wR_eq/\type_of% @wR_un/\type_of% @Qgo/\type_of% @Qfj/\type_of% @Qfk/\type_of% @Qfl/\type_of% @Qfm/\type_of% @Qfn/\type_of% @Qfo/\type_of% @QdB/\type_of% @Qek/\type_of% @Qfp/\type_of% @Qhx/\type_of% @Qel/\type_of% @Qgp/\type_of% @Qfq/\type_of% @Qfr/\type_of% @QdC/\type_of% @Qem/\type_of% @Qgq/\type_of% @Qhy/\type_of% @Qen/\type_of% @Qgr/\type_of% @Qgs/\type_of% @Qbx/\type_of% @Qfs/\type_of% @Qhz/\type_of% @QaS/\type_of% @QdV/\type_of% @Qeq/\type_of% @QcT/\type_of% @QcU/\type_of% @QdD/\type_of% @Qer/\type_of% @Qfv/\type_of% @Qes/\type_of% @QcV/\type_of% @Qet/\type_of% @Qeo/\type_of% @Qep/\type_of% @Qdg/\type_of% @Qdh/\type_of% @Qdi/\type_of% @Qdj/\type_of% @Qfw/\type_of% @Qfx/\type_of% @QbG/\type_of% @QbH/\type_of% @QbI/\type_of% @QbJ/\type_of% @QbK/\type_of% @QbL/\type_of% @Qgu/\type_of% @Qgv/\type_of% @Qcy/\type_of% @QdF/\type_of% @QcW/\type_of% @QdE/\type_of% @Qcz/\type_of% @Qfy/\type_of% @Qfz/\type_of% @QhA/\type_of% @wr_u8/\type_of% @QhC/\type_of% @QhD/\type_of% @QhB/\type_of% @QhE/\type_of% @QdG/\type_of% @Qeu/\type_of% @QdH/\type_of% @QcX/\type_of% @QdI/\type_of% @QcY/\type_of% @QcZ/\type_of% @Qc0/\type_of% @List.elem_cons.{0}/\type_of% @List.elem_nil.{0}/\type_of% @Bool.false_eq_true/\type_of% @Bool.true_eq_false/\type_of% @List.getElem?_cons_zero.{0}/\type_of% @List.getElem?_cons_succ.{0}/\type_of% @decide_eq_true_eq/\type_of% @decide_eq_false_iff_not/\type_of% @decide_true/\type_of% @decide_false/\type_of% @Bool.not_true/\type_of% @Bool.not_false/\type_of% @Bool.not_eq_true'/\type_of% @Bool.not_eq_eq_eq_not/\type_of% @List.nil_append.{0}/\type_of% @List.append_nil.{0}/\type_of% @List.cons_append.{0}/\type_of% @and_true/\type_of% @true_and/\type_of% @Int.natCast_nonneg/\type_of% @Int.toNat_natCast/\type_of% @Nat.mul_one/\type_of% @Nat.zero_add/\type_of% @Int.toNat_zero/\type_of% @QdL/\type_of% @QfA/\type_of% @Qgw/\type_of% @QdJ:=
 ⟨@Qgd,@Qhn,@Qge,@Qee,@Qho,@Qgf,@Qfb,@Qgg,@Qfc,@Qgh,@Qhp,@wX_sq,@Qef,@Qdz,@Qhq,@QdA,@QcR,@QcA,@QdK,@Qev,@ev_t,@ev_c,@ev_f,@Qhr,@Qa4,@QdU,@Qhs,@Qht,@rm_no,@Qgi,@Qeg,@Qeh,@Qfd,@Qei,@Qgj,@Qfe,@Qff,@Qfg,@QcS,@Qcw,@Qhu,@Qfh,@Qgk,@Qgl,@Qhv,@Qgm,@Qgn,@Qfi,@Qej,@Qhw,@wR_eq,@wR_un,@Qgo,@Qfj,@Qfk,@Qfl,@Qfm,@Qfn,@Qfo,@QdB,@Qek,@Qfp,@Qhx,@Qel,@Qgp,@Qfq,@Qfr,@QdC,@Qem,@Qgq,@Qhy,@Qen,@Qgr,@Qgs,@Qbx,@Qfs,@Qhz,@QaS,@QdV,@Qeq,@QcT,@QcU,@QdD,@Qer,@Qfv,@Qes,@QcV,@Qet,@Qeo,@Qep,@Qdg,@Qdh,@Qdi,@Qdj,@Qfw,@Qfx,@QbG,@QbH,@QbI,@QbJ,@QbK,@QbL,@Qgu,@Qgv,@Qcy,@QdF,@QcW,@QdE,@Qcz,@Qfy,@Qfz,@QhA,@wr_u8,@QhC,@QhD,@QhB,@QhE,@QdG,@Qeu,@QdH,@QcX,@QdI,@QcY,@QcZ,@Qc0,@List.elem_cons.{0},@List.elem_nil.{0},@Bool.false_eq_true,@Bool.true_eq_false,@List.getElem?_cons_zero.{0},@List.getElem?_cons_succ.{0},@decide_eq_true_eq,@decide_eq_false_iff_not,@decide_true,@decide_false,@Bool.not_true,@Bool.not_false,@Bool.not_eq_true',@Bool.not_eq_eq_eq_not,@List.nil_append.{0},@List.append_nil.{0},@List.cons_append.{0},@and_true,@true_and,@Int.natCast_nonneg,@Int.toNat_natCast,@Nat.mul_one,@Nat.zero_add,@Int.toNat_zero,@QdL,@QfA,@Qgw,@QdJ⟩
theorem wordsN:type_of% @QfI/\type_of% @Qb3/\type_of% @QbQ/\type_of% @Qez/\type_of% @Option.map_some.{0,0}/\type_of% @Qd1/\type_of% @wN_go/\type_of% @wB_go/\type_of% @QfH/\type_of% @QhK/\type_of% @Qey/\type_of% @QdP/\type_of% @QeA/\type_of% @QeB/\type_of% @QfJ/\type_of% @QeC/\type_of% @Qc5/\type_of% @QgC/\type_of% @QgD/\type_of% @QhM/\type_of% @QgE/\type_of% @QeD/\type_of% @QgF/\type_of% @QhN/\type_of% @QgG/\type_of% @QeE/\type_of% @QfK/\type_of% @List.set_cons_zero.{0}/\type_of% @List.set_cons_succ.{0}/\type_of% @List.length_cons.{0}/\type_of% @List.length_nil.{0}/\type_of% @List.all_cons.{0}/\type_of% @List.all_nil.{0}/\type_of% @Bool.and_true/\type_of% @Bool.true_and/\type_of% @List.drop_zero.{0}/\type_of% @List.drop_succ_cons.{0}/\type_of% @List.take_succ_cons.{0}/\type_of% @List.take_zero.{0}/\type_of% @List.head?_cons.{0}/\type_of% @QeF/\type_of% @Nat.le_refl/\type_of% @Int.cast_ofNat_Int/\type_of% @Int.natCast_zero/\type_of% @Int.natCast_one:=
 ⟨@QfI,@Qb3,@QbQ,@Qez,@Option.map_some.{0,0},@Qd1,@wN_go,@wB_go,@QfH,@QhK,@Qey,@QdP,@QeA,@QeB,@QfJ,@QeC,@Qc5,@QgC,@QgD,@QhM,@QgE,@QeD,@QgF,@QhN,@QgG,@QeE,@QfK,@List.set_cons_zero.{0},@List.set_cons_succ.{0},@List.length_cons.{0},@List.length_nil.{0},@List.all_cons.{0},@List.all_nil.{0},@Bool.and_true,@Bool.true_and,@List.drop_zero.{0},@List.drop_succ_cons.{0},@List.take_succ_cons.{0},@List.take_zero.{0},@List.head?_cons.{0},@QeF,@Nat.le_refl,@Int.cast_ofNat_Int,@Int.natCast_zero,@Int.natCast_one⟩
theorem wordsR:type_of% @QhO/\type_of% @QgH/\type_of% @get_e/\type_of% @QcE/\type_of% @QdQ/\type_of% @QeG/\type_of% @QcF/\type_of% @QdR/\type_of% @QeH/\type_of% @Qc6/\type_of% @QgI/\type_of% @QfL/\type_of% @Int.ofNat_lt/\type_of% @Int.ofNat_le/\type_of% @Int.ofNat_inj/\type_of% @Int.natCast_pos/\type_of% @Int.natCast_add/\type_of% @List.length_map.{0,0}/\type_of% @List.length_append.{0}/\type_of% @List.take_length.{0}/\type_of% @Nat.zero_mul/\type_of% @Nat.one_mul/\type_of% @Nat.add_zero/\type_of% @Int.zero_add/\type_of% @Nat.not_lt_zero/\type_of% @Int.le_refl/\type_of% @not_true/\type_of% @not_false_iff/\type_of% @Nat.lt_irrefl/\type_of% @Int.lt_irrefl:=
 ⟨@QhO,@QgH,@get_e,@QcE,@QdQ,@QeG,@QcF,@QdR,@QeH,@Qc6,@QgI,@QfL,@Int.ofNat_lt,@Int.ofNat_le,@Int.ofNat_inj,@Int.natCast_pos,@Int.natCast_add,@List.length_map.{0,0},@List.length_append.{0},@List.take_length.{0},@Nat.zero_mul,@Nat.one_mul,@Nat.add_zero,@Int.zero_add,@Nat.not_lt_zero,@Int.le_refl,@not_true,@not_false_iff,@Nat.lt_irrefl,@Int.lt_irrefl⟩
end Go.AM
namespace Go.AM
variable {P:Program}
def setL:HL->Heap->Heap
 |[],h=>h
 |(k,x)::r,h=>(setL r h).set k x
theorem Qh5 {h:Heap}:setL [] h=h:=rfl
theorem QhP {k:Nat} {x:Blk} {r:HL} {h:Heap}:setL ((k,x)::r) h=(setL r h).set k x:=rfl
end Go.AM
namespace Go.AM
end Go.AM
namespace Go.AM.SD
open Go.AM
def ints (l:List Int):List AV:=l.map (.int .i64)
theorem QfM {l:List Int}:(ints l).length=l.length:=by simp[ints]
theorem lenW:type_of% @List.length_map.{0,0}/\type_of% @List.length_append.{0}/\type_of% @List.length_cons.{0}/\type_of% @List.length_nil.{0}/\type_of% @QfM:=⟨@List.length_map.{0,0},@List.length_append.{0},@List.length_cons.{0},@List.length_nil.{0},@QfM⟩
end Go.AM.SD
namespace Go.AM.SD
end Go.AM.SD
namespace Go.AM
open SD
end Go.AM
namespace Go.AM.SO
open Go.Proofs Go.AM.SD
structure Pln where
 L:List Nat
 X:List Nat
 xn:Nat
 f0:Int
 f1:Int
 f2:Int
 bd:Int
variable (p:Pln)
variable {p}
end Go.AM.SO
namespace Go.AM
variable {P:Program}
section
variable {k m n:Nat} {T:Tmps} {h:Heap} {Q:QC} {fs:List Fr}
theorem cy {N:NM} {b g:Nat} {args:List AV} {v:AV} {h1:Heap} {d:Option Nat} {ops:List SOper} {dead:List Nat} (hR:RSpec P b g args h v h1) (hk:wR P N ops dead fs (n+1) (putD T d v) h1 Q):wCall P N .heap (.yld b g) args d ops dead fs n T h Q:=⟨_,_,hR,hk⟩
section
variable {α:Type} {env:α->Tmps} {H:α->Heap} {I:α->Prop} {μ:α->Nat} {a:α}
end
end
end Go.AM
namespace Go.AM.QA
open Go.Proofs Go.AM.RX Go.AM.SO Go.AM.SD
noncomputable section
theorem QiA:∀x:Int,(Lit.int .u8 x).wf=true->∃y:Nat,y<256/\x=Int.ofNat y:=by
 intro x hx
 have h1:0<=x/\x<=255:=by
  simp[Lit.wf]at hx
  revert hx
  simp[IntKind.min,IntKind.max,IntKind.signed,IntKind.bits]
 exact⟨x.toNat,by omega,by simp;omega⟩
def F:FFn:=match ft.get 5 with|some f=>f|none=>⟨0,[],.skip⟩
theorem okF:okFn Tryz.prog 5 F.slim=true:=FT2.ok ft_ok 5 F (by kernel_rfl)
theorem resF:F.res=[.tmp 2]:=by kernel_rfl
def c1:FCode:=hdC F.body
def c2:FCode:=hdC (restC F.body)
def c3:FCode:=hdC (restC (restC F.body))
def cT:FCode:=restC (restC (restC F.body))
theorem F_is:F.body= .seq c1 (.seq c2 (.seq c3 cT)):=by kernel_rfl
def x3:SCode:= .region [Zm 13 0 [],Zz 14 (.bin .rem (.t 13) (.c (.int .u8 8))) [0],Zz 15 (.conv .i64 (.t 14)) [1],Zz 16 (.bin .add (.c (.int .i64 1)) (.t 15)) [2],Zm 3 16 [3,0,1,2,3]] [] []
theorem c3_is:c3.slim=x3:=by kernel_rfl
def tailB (n:Nat):Bool:=exR ansB noOrc ft.get 100000 cT [(3,.int .i64 (Int.ofNat n))] .e 64 (kTrue 2)
theorem tail1:tailB 1=true:=by kernel_rfl
theorem tail2:tailB 2=true:=by kernel_rfl
theorem tail3:tailB 3=true:=by kernel_rfl
theorem tail4:tailB 4=true:=by kernel_rfl
theorem tail5:tailB 5=true:=by kernel_rfl
theorem tail6:tailB 6=true:=by kernel_rfl
theorem tail7:tailB 7=true:=by kernel_rfl
theorem tail8:tailB 8=true:=by kernel_rfl
theorem tails (n:Nat) (h0:0<n) (h8:n<=8):tailB n=true:=by
 have h:n=1\/n=2\/n=3\/n=4\/n=5\/n=6\/n=7\/n=8:=by omega
 rcases h with rfl|rfl|rfl|rfl|rfl|rfl|rfl|rfl
 ·exact tail1
 ·exact tail2
 ·exact tail3
 ·exact tail4
 ·exact tail5
 ·exact tail6
 ·exact tail7
 ·exact tail8
def G2 (a:Int) (T:Tmps) (h:Heap) (_:Nat):Prop:=lk T 0= .int .u8 a/\h= .e
def G1 (a:Int) (T:Tmps) (h:Heap) (m:Nat):Prop:=exR ansP (orc1 29 (.bool true)) ft.get 1000 c2 T h m (fun e T h m=>e= .normal/\G2 a T h m)
theorem front (a:Int):(SX.normal=SX.normal/\(([]:List AV)=[]/\(SX.normal=SX.normal/\(AV.int .u8 a= .int .u8 a/\(Tr.e:Heap)= .e))))=
  exR ansP (orc1 29 (.bool true)) ft.get 1000 c1 [(0,.int .u8 a)] .e 64 (fun e T h m=>e= .normal/\G1 a T h m):=by kernel_rfl
theorem sub1 {T:Tmps} {i:Nat} {x:AV} (h1:lk T i=x):Sub [(i,x)] T:=by
 intro k
 rw[Qa4]
 by_cases e:i=k
 ·subst e;exact .inr (by rw[if_pos rfl];exact h1.symm)
 ·rw[if_neg e];exact .inl rfl
theorem walk3 (a:Nat) (ha:a<256):W2 Tryz.prog ⟨F.n,0⟩ x3 (fun e B=>e= .normal/\lk B.T 3= .int .i64 (Int.ofNat (1+a % 8))/\B.h= .e) ⟨[(0,.int .u8 (Int.ofNat a))],.e⟩:=by
 refine(wpC.toW (n:=40) (Q:=fun e T h _=>e= .normal/\lk T 3= .int .i64 (Int.ofNat (1+a % 8))/\h= .e) (show wS Tryz.prog ⟨F.n,0⟩ x3 [] 40 _ _ _ from ?_)).mono fun e B ⟨_,h⟩=>h
 have e1:(Int.ofNat a).tmod 8=Int.ofNat (a % 8):=by
  show(Int.ofNat a).tmod (Int.ofNat 8)=_
  simp[Int.tmod]
 have e2:Int.ofNat (1+a % 8)=1+Int.ofNat (a % 8):=rfl
 have h8:(Int.ofNat (a % 8):Int)<8:=Int.ofNat_lt.2 (Nat.mod_lt a (by omega:0<8))
 have h0:(0:Int)<=Int.ofNat (a % 8):=Int.natCast_nonneg _
 rw[e2]
 generalize Int.ofNat (a % 8)=R at*
 simp(maxSteps:=1000000) (disch:=first|omega|(simp only[lenW]<;>omega)) only[x3,e1,wordsN,Int.reduceGT,wordsR,ne_eq,QhP,Qh5,words,Nat.reduceAdd,Nat.reduceEqDiff,Nat.reduceBEq,↓reduceIte,reduceCtorEq,SX.exit.injEq,if_true,if_false,Int.reduceAdd,Int.reduceSub,Int.reduceMul,Int.reduceLT,Int.reduceLE,Int.reduceEq,Int.reduceNe,Int.reduceNeg,Int.reduceToNat,Nat.reduceMul,Nat.reduceLT,Nat.reduceSub,Nat.reduceLeDiff]
theorem law5 (a:Int) (wa:(Lit.int .u8 a).wf=true):
  W2 Tryz.prog ⟨F.slim.n,0⟩ F.slim.body (fun e B=>(e= .normal\/e= .ret)/\resV B.T B.h F.slim.res=some [.bool true]) ⟨argT 0 [.int .u8 a],.e⟩:=by
 obtain⟨a,ha,rfl⟩:=QiA a wa
 show W2 Tryz.prog ⟨F.n,0⟩ F.body.slim (fun e B=>(e= .normal\/e= .ret)/\resV B.T B.h F.res=some [.bool true]) ⟨[(0,.int .u8 (Int.ofNat a))],.e⟩
 rw[resF,F_is]
 have hx:=(front (Int.ofNat a)).mp ⟨rfl,rfl,rfl,rfl,rfl⟩
 refine W2.seq (W2_ex ft_ok (QgA GJ.known29) hx fun T h m hG=>?_)
 refine W2.seq (W2_ex ft_ok (QgA GJ.known29) hG fun T h m hG=>?_)
 obtain⟨g0,rfl⟩:=hG
 refine W2.weak (sub1 g0) ?_
 refine W2.seq ?_
 rw[c3_is]
 refine(walk3 a ha).mono ?_
 rintro e ⟨T,h⟩ ⟨rfl,g3,rfl⟩
 refine W2.weak (sub1 g3) ?_
 refine Qiz ft_ok QfG _ (tails (1+a % 8) (by omega) (by omega)) fun e T h k hk=>?_
 obtain⟨rfl,hk2⟩:=Qh4 hk
 refine⟨.inr rfl,?_⟩
 show resV T h [.tmp 2]=_
 rw[show resV T h [.tmp 2]=some [lk T 2] from rfl,hk2]
end
end Go.AM.QA
