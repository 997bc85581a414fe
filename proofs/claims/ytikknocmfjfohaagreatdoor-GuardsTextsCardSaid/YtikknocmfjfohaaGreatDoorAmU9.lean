/- A part of the proof of GuardsTextsCardSaid: lemmas on the way (AmU, AmUa, AmQa, AmQb, AmQd, AmQw, AmQe, AmTb, AmTc, AmTd, AmTe, AmTw, AnDj, AmR, AmLr). Conditions: none of ours. -/
import Derived.OpenShut
import Derived.Test.YtikknocmfjfohaaGreatDoorAmU8
set_option linter.unusedSectionVars false
set_option maxHeartbeats 32000000
set_option maxRecDepth 100000
set_option linter.unusedVariables false
set_option linter.unusedSimpArgs false
namespace Go.AM
variable {ok:Okc}
open Go.ChangeShapes Go.WideShapes
def inF (w:World) (k:Nat):Prop:=k<w.heap.size
end Go.AM
namespace Go.AM
open Go.ChangeShapes Go.WideShapes
inductive Ty where
 |int (k:IntKind)
 |bool
 |str
 |arr (n:Nat) (t:Ty)
 |sl (t:Ty)
 |st (fs:Ty)
 |unit
 |pair (a b:Ty)
def Ty.sz:Ty->Nat
 | .int _| .bool| .str| .sl _=>1
 | .arr n t=>n*t.sz
 | .st fs=>fs.sz
 | .unit=>0
 | .pair a b=>a.sz+b.sz
abbrev Ty.D:Ty->Type
 | .int _=>Int
 | .bool=>Bool
 | .str=>List UInt8
 | .arr _ t| .sl t=>List t.D
 | .st fs=>fs.D
 | .unit=>Unit
 | .pair a b=>a.D×b.D
def Ty.cells:(t:Ty)->t.D->List AV
 | .int k,n=>[.int k n]
 | .bool,b=>[.bool b]
 | .str,s=>[.str s]
 | .arr _ t,l=>List.flatMap (Ty.cells t) l
 | .sl t,l=>[.fsl (List.flatMap (Ty.cells t) l) (List.length l) t.sz]
 | .st fs,d=>Ty.cells fs d
 | .unit,_=>[]
 | .pair a b,d=>Ty.cells a d.1++Ty.cells b d.2
def Ty.wf:(t:Ty)->t.D->Prop
 | .int k,n=>(Lit.int k n).wf=true
 | .bool,_=>True
 | .str,s=>List.length s<=9223372036854775807
 | .arr n t,l=>List.length l=n/\∀x∈(show List t.D from l),Ty.wf t x
 | .sl t,l=>List.length l<=9223372036854775807/\∀x∈(show List t.D from l),Ty.wf t x
 | .st fs,d=>Ty.wf fs d
 | .unit,_=>True
 | .pair a b,d=>Ty.wf a d.1/\Ty.wf b d.2
def eltT (P:Program) (ts:List TypeId):List TypeId:=match ts with
 |t::_=>(match P.underlying t with|some (.slice e)=>[e]|some (.array _ e)=>[e]|_=>[])
 |[]=>[]
def fldT (P:Program) (ts:List TypeId):List TypeId:=match ts with
 |t::_=>(match P.underlying t with|some (.struct l)=>l.toList.map (·.type)|_=>[])
 |[]=>[]
def Ty.sized (P:Program):(t:Ty)->List TypeId->t.D->Prop
 | .arr _ t,ts,l=>∀x∈(show List t.D from l),Ty.sized P t (eltT P ts) x
 | .sl t,ts,l=>(∀e∈eltT P ts,List.length l*P.bytesOf e<=reachBytes)/\∀x∈(show List t.D from l),Ty.sized P t (eltT P ts) x
 | .st fs,ts,d=>Ty.sized P fs (fldT P ts) d
 | .pair a b,ts,d=>Ty.sized P a (ts.take 1) d.1/\Ty.sized P b ts.tail d.2
 |_,_,_=>True
theorem Qc8 {H:Type} {P:Program} {e:TypeId} {q:Nat->Bool}:∀{l:List (DataW H)} {d:DataW H},d∈l->(DataW.weightsAll P e l).all q=true->(d.weights P e).all q=true
 |x::l,d,hd,h=>by
  simp only[DataW.weightsAll,List.all_append,Bool.and_eq_true]at h
  rcases List.mem_cons.1 hd with rfl|hd
  ·exact h.1
  ·exact Qc8 hd h.2
mutual
def okTy (P:Program):Ty->TypeId->Bool
 | .int k,t=>match P.underlying t with|some (.int k')=>k'==k|_=>false
 | .bool,t=>match P.underlying t with|some .bool=>true|_=>false
 | .str,t=>match P.underlying t with|some .string=>true|_=>false
 | .arr n e,t=>match P.underlying t with|some (.array m u)=>n==m&&okTy P e u&&P.cellsOf u==e.sz&&P.cellsOf t==n*e.sz|_=>false
 | .sl e,t=>match P.underlying t with|some (.slice u)=>okTy P e u&&P.cellsOf u==e.sz&&Nat.blt 0 e.sz|_=>false
 | .st fs,t=>match P.underlying t with|some (.struct l)=>okFs P fs l.toList 0&&P.cellsOf t==fs.sz|_=>false
 |_,_=>false
termination_by structural ty=>ty
def okFs (P:Program):Ty->List Field->Nat->Bool
 | .unit,l,_=>match l with|[]=>true|_=>false
 | .pair a b,l,off=>match l with|f::l=>f.offset==off&&okTy P a f.type&&P.cellsOf f.type==a.sz&&okFs P b l (off+a.sz)|_=>false
 |_,_,_=>false
termination_by structural ty=>ty
end
section
variable {ok:Okc} {H:Type} {enc:TypeId×Value->H} {P:Program} {W:World} {spare:Nat->Bool}
theorem Qdn:∀(t:Ty) (d:t.D),t.wf d->(t.cells d).length=t.sz
 | .int _,_,_=>rfl
 | .bool,_,_=>rfl
 | .str,_,_=>rfl
 | .sl _,_,_=>rfl
 | .unit,_,_=>rfl
 | .st fs,d,h=>Qdn fs d h
 | .pair a b,d,h=>by
  simp only[Ty.cells,Ty.sz,List.length_append,Qdn a d.1 h.1,Qdn b d.2 h.2]
 | .arr n t, l, h => by
  obtain⟨h1,h2⟩:=h
  simp only[Ty.cells,Ty.sz,<-h1]
  have:∀(l:List t.D),(∀x∈l,t.wf x)->(l.flatMap t.cells).length=l.length*t.sz:=by
   intro l
   induction l with
   |nil=>intro _;simp
   |cons x l ih=>intro hl;simp[List.flatMap_cons,Qdn t x (hl x (by simp)),ih fun y hy=>hl y (by simp[hy]),Nat.succ_mul];omega
  exact this l h2
theorem Qgz {α β:Type} {f:α->Option β}:∀{l:List α} {r:List β},l.mapM f=some r->r.length=l.length/\∀(i:Nat) (x:α),l[i]?=some x->∃y,f x=some y/\r[i]?=some y
 |[],r,h=>by simp_all
 |a::l,r,h=>by
  simp only[List.mapM_cons,Option.bind_eq_bind,Option.bind_eq_some_iff]at h
  obtain⟨y,hy,ys,hys,e⟩:=h
  simp at e;subst e
  obtain⟨h1,h2⟩:=Qgz hys
  grind
theorem many {ok:Okc} {t:Ty} {R:t.D->Prop} {c:Ctx ok} {n:Nat}:∀{cs:List Value},(∀i,i<n->∃x:t.D,R x/\VRels c W (t.cells x) ((cs.drop (i*t.sz)).take t.sz))->n*t.sz<=cs.length->
  ∃l:List t.D,l.length=n/\(∀x∈l,R x)/\VRels c W (l.flatMap t.cells) (cs.take (n*t.sz)):=by
 induction n with
 |zero=>intro cs _ _;exact⟨[],rfl,by simp,by simp[VRels]⟩
 | succ n ih =>
  intro cs hx hl
  obtain⟨x,h1,h2⟩:=hx 0 (by omega)
  rw[Nat.succ_mul]at hl
  obtain⟨l,h3,h4,h5⟩:=ih (cs:=cs.drop t.sz) (fun i hi=>by
   grind [List.drop_drop]) (by simp;omega)
  refine⟨x::l,by simp[h3],by simp_all,?_⟩
  rw[List.flatMap_cons,Nat.succ_mul,Nat.add_comm,List.take_add]
  refine QbA ?_ h5
  simpa using h2
mutual
theorem QfB : ∀ (ty : Ty) (t : TypeId) (fuel : Nat) (cs : List Value) (x : DataW H × List MemPlace), (∀ b, spare b = true) -> okTy P ty t = true -> DataW.trod enc P W 0 spare true fuel t cs = some x ->
    ∃d:ty.D,(ty.wf d/\((x.1.weights P t).all (· <=reachBytes)=true->ty.sized P [t] d))/\VRels (only (ok:=ok) (inF W)) W (ty.cells d) cs:=by
  intro ty t fuel cs x hs ho h
  match ty with
  | .int k =>
    simp only[okTy]at ho
    split at ho<;>try (cases ho;done)
    rename_i k' hu
    simp only[beq_iff_eq]at ho
    subst ho
    obtain⟨n,rfl,_,hw⟩:=DataW.trod_int hu h
    exact⟨n,⟨hw,fun _=>trivial⟩,by simp[Ty.cells,VRels,VRel]⟩
  | .bool =>
    simp only[okTy]at ho
    split at ho<;>try (cases ho;done)
    rename_i hu
    obtain⟨b,rfl,_⟩:=DataW.trod_bool hu h
    exact⟨b,⟨trivial,fun _=>trivial⟩,by simp[Ty.cells,VRels,VRel]⟩
  | .str =>
    simp only[okTy]at ho
    split at ho<;>try (cases ho;done)
    rename_i hu
    obtain⟨s,rfl,_,hl⟩:=DataW.trod_string hu h
    refine⟨s.data.toList,⟨?_,fun _=>trivial⟩,?_⟩
    · simp only [ByteArray.size, maxLen] at hl
      simp_all [Ty.wf]
    · simp[Ty.cells,VRels,VRel]
  | .unit=>simp[okTy]at ho
  | .pair a b=>simp[okTy]at ho
  | .st fs =>
    simp only[okTy]at ho
    split at ho<;>try (cases ho;done)
    rename_i l hu
    simp only[Bool.and_eq_true,beq_iff_eq]at ho
    obtain⟨ho,hsz⟩:=ho
    cases fuel with
    |zero=>simp[DataW.trod]at h
    | succ n =>
      unfold DataW.trod at h
      rw[hu]at h
      split at h<;>first|(simp_all;done)|skip
      rename_i fs' he
      injection he with he;injection he with he;subst he
      split at h
      · rename_i hl
        simp only[Option.map_eq_some_iff]at h
        obtain⟨xs,hm,rfl⟩:=h
        obtain⟨d,⟨h1,h3⟩,h2⟩:=Qlr fs l.toList 0 n _ xs hs ho hm (by omega)
        refine⟨d,⟨h1,fun hw=>?_⟩,?_⟩
        · simp only [DataW.weights, hu] at hw
          show Ty.sized P fs (fldT P [t]) d
          simp only[fldT,hu]
          exact h3 hw
        grind [Ty.cells]
      · cases h
  | .arr m e =>
    simp only[okTy]at ho
    split at ho<;>try (cases ho;done)
    rename_i m' u hu
    simp only[Bool.and_eq_true,beq_iff_eq]at ho
    obtain⟨⟨⟨rfl,ho⟩,hsz⟩,hst⟩:=ho
    cases fuel with
    |zero=>simp[DataW.trod]at h
    | succ n =>
      unfold DataW.trod at h
      rw[hu]at h
      split at h<;>first|(simp_all;done)|skip
      rename_i m' u' he
      injection he with he;injection he with he1 he2;subst he1;subst he2
      split at h
      · rename_i hl
        simp only[Option.map_eq_some_iff]at h
        obtain⟨xs,hm,rfl⟩:=h
        obtain⟨g1,g2⟩:=Qgz hm
        rw[hst]at hl
        obtain⟨l,k1,k2,k3⟩:=many (t:=e) (R:=fun x=>e.wf x/\((DataW.weightsAll P u (xs.map (·.1))).all (· <=reachBytes)=true->e.sized P [u] x)) (c:=only (inF W)) (n:=m) (fun i hi=>by
          obtain⟨y,hy,hyx⟩:=g2 i i (by simp[hi])
          rw[hsz]at hy
          obtain⟨d,⟨j1,j2⟩,j3⟩:=QfB e u n _ y hs ho hy
          exact⟨d,⟨j1,fun hw=>j2 (Qc8 (List.mem_map.2 ⟨y,List.mem_of_getElem? hyx,rfl⟩) hw)⟩,j3⟩) (by omega)
        refine⟨l,⟨⟨k1,fun x hx=>(k2 x hx).1⟩,fun hw=>?_⟩,?_⟩
        · simp only [DataW.weights, hu] at hw
          show ∀x∈l,Ty.sized P e (eltT P [t]) x
          simp only[eltT,hu]
          exact fun x hx=>(k2 x hx).2 hw
        rw[<-hl,List.take_length]at k3
        exact k3
      · cases h
  | .sl e =>
    simp only[okTy]at ho
    split at ho<;>try (cases ho;done)
    rename_i u hu
    simp only[Bool.and_eq_true,beq_iff_eq,Nat.blt_eq]at ho
    obtain⟨⟨ho,hsz⟩,hpos⟩:=ho
    rcases DataW.trod_slice hu h with⟨rfl,_⟩|⟨a,len,cap,elems,rest,n,_,rfl,rfl,_,hl,hm,hlen,hel,hsp,hns⟩
    · exact⟨[],⟨⟨by simp,by simp⟩,fun _=>⟨fun _ _=>by simp,by simp⟩⟩,by simp[Ty.cells,VRels,VRel]⟩
    obtain⟨hrl,hr⟩:=hsp (hs _)
    have each:∀i,i<cap->∃cs,(w':W.cells? 0 (a.add (i*e.sz)) e.sz=some cs)->True:=fun _ _=>⟨[],fun _=>trivial⟩
    have each:∀i,i<cap->∃cs y,W.cells? 0 (a.add (i*e.sz)) e.sz=some cs/\DataW.trod enc P W 0 spare true n u cs=some y:=by
      intro i hi
      by_cases hil:i<len
      · grind [Option.bind_eq_some_iff]
      · have h1 := hr (i - len) (by omega)
        grind [Option.bind_eq_some_iff]
    by_cases h0:cap=0
    · have : len = 0 := by omega
      subst h0;subst this
      exact⟨[],⟨⟨by simp,by simp⟩,fun _=>⟨fun _ _=>by simp,by simp⟩⟩,by simp[Ty.cells,VRels,VRel]⟩
    have cellsAt:∀i cs,W.cells? 0 (a.add (i*e.sz)) e.sz=some cs->cs.length=e.sz/\∀j,j<e.sz->W.cell? ((a.add (i*e.sz)).add j)=cs[j]?:=by
      intro i cs hcs
      unfold World.cells? at hcs
      rw[if_pos (Nat.zero_le _)]at hcs
      obtain⟨g1,g2⟩:=Qgz hcs
      refine⟨by simpa using g1,fun j hj=>?_⟩
      obtain⟨y,k1,k2⟩:=g2 j j (by simp[hj])
      rw[k1,k2]
    obtain⟨cs0,y0,hc0,_⟩:=each 0 (by omega)
    obtain⟨q1,q2⟩:=cellsAt 0 cs0 hc0
    have hcell0:=q2 0 hpos
    rw[List.getElem?_eq_getElem (by omega)]at hcell0
    obtain⟨b,off,spot⟩:=a
    have hspot:spot=none:=by simpa[Addr.add]using World.cell?_spot hcell0
    subst hspot
    have hb:∃C e fr,W.heap[b]?=some (.cells C e fr):=by
      grind [World.cell?,Addr.add]
    obtain⟨C,et,fr,hb⟩:=hb
    have hcell:∀i cs,W.cells? 0 ((⟨b,off,none⟩:Addr).add (i*e.sz)) e.sz=some cs->i<cap->(C.toList.drop (off+i*e.sz)).take e.sz=cs:=by
      intro i cs hcs hi
      obtain⟨k1,k2⟩:=cellsAt i cs hcs
      refine List.ext_getElem? fun j=>?_
      by_cases hj:j<e.sz
      · simp_all [Go.WideShapes.add_plain,World.cell?]
      grind
    have hCs:len*e.sz<=(C.toList.drop off).length:=by
      by_cases hl0:len=0
      · subst hl0;simp
      obtain⟨cs,y,hcs,_⟩:=each (len-1) (by omega)
      have h1:=hcell (len-1) cs hcs (by omega)
      obtain⟨k1,_⟩:=cellsAt (len-1) cs hcs
      have h2:=congrArg List.length h1
      rw[k1,List.length_take,List.length_drop]at h2
      rw[List.length_drop]
      have h3:len*e.sz=(len-1)*e.sz+e.sz:=by
        rw[<-Nat.succ_mul];congr 1;omega
      omega
    have eachL:∀i,i<len->∃cs y,W.cells? 0 ((⟨b,off,none⟩:Addr).add (i*e.sz)) e.sz=some cs/\DataW.trod enc P W 0 spare true n u cs=some y/\y∈elems:=by
      intro i hi
      have h1:=hel i hi
      rw[List.getElem?_eq_getElem (by omega),hsz,Option.bind_eq_some_iff]at h1
      obtain⟨cs,hcs,hy⟩:=h1
      exact⟨cs,_,hcs,hy,List.getElem_mem _⟩
    obtain⟨l,k1,k2,k3⟩:=many (t:=e) (R:=fun x=>e.wf x/\((DataW.weightsAll P u (elems.map (·.1))).all (· <=reachBytes)=true->e.sized P [u] x)) (c:=only (inF W)) (n:=len) (cs:=C.toList.drop off) (fun i hi=>by
      obtain⟨cs,y,hcs,hy,hyx⟩:=eachL i hi
      rw[List.drop_drop,hcell i cs hcs (by omega)]
      obtain⟨d,⟨j1,j2⟩,j3⟩:=QfB e u n cs y hs ho hy
      exact⟨d,⟨j1,fun hw=>j2 (Qc8 (List.mem_map.2 ⟨y,hyx,rfl⟩) hw)⟩,j3⟩) hCs
    have k2':∀x∈l,e.wf x:=fun x hx=>(k2 x hx).1
    refine⟨l,⟨⟨by grind [maxLen],k2'⟩,fun hw=>?_⟩,?_⟩
    · replace hw : (DataW.weights P t (.slice (elems.map (·.1)) (rest.map (·.1)))).all (· <= reachBytes) = true := hw
      simp only[DataW.weights,hu,List.all_cons,List.all_append,Bool.and_eq_true,decide_eq_true_eq,List.length_map]at hw
      refine⟨fun v hv=>?_,?_⟩
      · simp only [eltT, hu, List.mem_singleton] at hv
        subst hv
        refine Nat.le_trans (Nat.mul_le_mul_right _ ?_) hw.1
        show List.length l<=_
        omega
      · show ∀ x ∈ l, Ty.sized P e (eltT P [t]) x
        simp only[eltT,hu]
        exact fun x hx=>(k2 x hx).2 hw.2.1
    simp only[Ty.cells,VRels,VRel]
    have hll:(l.flatMap e.cells).length=l.length*e.sz:=Qdn (.arr l.length e) l ⟨rfl,k2'⟩
    refine⟨_,[],rfl,.inr ⟨b,off,cap,C,et,fr,by rw[k1],by omega,hll,Qbh hb,hb,?_⟩,rfl⟩
    have:=Qgk (vs:=(C.toList.drop off).drop (len*e.sz)) k3
    rwa [List.take_append_drop]at this
termination_by structural ty=>ty
theorem Qlr : ∀ (ty : Ty) (fs : List Field) (off fuel : Nat) (cs : List Value) (xs : List (DataW H × List MemPlace)), (∀ b, spare b = true) -> okFs P ty fs off = true ->
    (fs.mapM fun f=>DataW.trod enc P W 0 spare true fuel f.type ((cs.drop f.offset).take (P.cellsOf f.type)))=some xs->off+ty.sz<=cs.length->
    ∃d:ty.D,(ty.wf d/\((DataW.weightsEach P (fs.map (·.type)) (xs.map (·.1))).all (· <=reachBytes)=true->ty.sized P (fs.map (·.type)) d))/\VRels (only (ok:=ok) (inF W)) W (ty.cells d) ((cs.drop off).take ty.sz):=by
  intro ty fs off fuel cs xs hs ho h hl
  match ty with
  | .unit=>exact⟨(),⟨trivial,fun _=>trivial⟩,by simp[Ty.cells,VRels,Ty.sz]⟩
  | .pair a b =>
    cases fs with
    |nil=>simp[okFs]at ho
    | cons f fs =>
      simp only[okFs,Bool.and_eq_true,beq_iff_eq]at ho
      obtain⟨⟨⟨rfl,h1⟩,h2⟩,h3⟩:=ho
      simp only[List.mapM_cons,Option.bind_eq_bind,Option.bind_eq_some_iff]at h
      obtain⟨y,hy,ys,hys,hxs⟩:=h
      have hxs:y::ys=xs:=by simpa using hxs
      subst hxs
      rw[h2]at hy
      simp only[Ty.sz]at hl
      obtain⟨d1,⟨g1,w1⟩,g2⟩:=QfB a f.type fuel _ y hs h1 hy
      obtain⟨d2,⟨g3,w2⟩,g4⟩:=Qlr b fs (f.offset+a.sz) fuel cs ys hs h3 hys (by omega)
      refine⟨(d1,d2),⟨⟨g1,g3⟩,fun hw=>?_⟩,?_⟩
      · simp only [List.map_cons, DataW.weightsEach, List.all_append, Bool.and_eq_true] at hw
        exact⟨w1 hw.1,w2 hw.2⟩
      simp only[Ty.cells,Ty.sz]
      rw[List.take_add]
      refine QbA g2 ?_
      rw[List.drop_drop]
      exact g4
  | .int _=>simp[okFs]at ho
  | .bool=>simp[okFs]at ho
  | .str=>simp[okFs]at ho
  | .arr _ _=>simp[okFs]at ho
  | .sl _=>simp[okFs]at ho
  | .st _=>simp[okFs]at ho
termination_by structural ty=>ty
end
def Ty.val:(t:Ty)->t.D->AV
 | .arr n t,d=> .agg (Ty.cells (.arr n t) d)
 | .st fs,d=> .agg (Ty.cells (.st fs) d)
 | .int k,n=> .int k n
 | .bool,b=> .bool b
 | .str,s=> .str s
 | .sl t,l=> .fsl (List.flatMap (Ty.cells t) l) (List.length l) t.sz
 | .unit,_=> .any
 | .pair _ _,_=> .any
theorem Qpe (ty:Ty) {t:TypeId} {base:Nat} {v:Value} {d0:DataW H} {ps:List MemPlace} (ho:okTy P ty t=true) (hv:Value.okWide P W .any base t v) (h:DataW.Trod enc P W 0 (fun _=>true) true t v d0 ps):
  ∃d:ty.D,(ty.wf d/\((d0.weights P t).all (· <=reachBytes)=true->ty.sized P [t] d))/\VRel (only (ok:=ok) (inF W)) W (ty.val d) v:=by
 obtain⟨fuel,h⟩:=h
 obtain⟨d,h1,h2⟩:=QfB (spare:=fun _=>true) ty t fuel _ _ (fun _=>rfl) ho h
 refine⟨d,h1,?_⟩
 have one:∀(u:AV),VRels (only (ok:=ok) (inF W)) W [u] v.cells.toList->(∀cs,v≠ .agg cs)->VRel (only (ok:=ok) (inF W)) W u v:=by
  intro u hu hn
  have:v.cells= #[v]:=by cases v<;>first|rfl|exact absurd rfl (hn _)
  simp_all [VRels]
 cases ty with
 |unit=>simp[okTy]at ho
 |pair a b=>simp[okTy]at ho
 |arr n e=>
  simp only[okTy]at ho
  split at ho<;>try (cases ho;done)
  rename_i hu
  simp only[Value.okWide,hu]at hv
  obtain⟨cs,rfl,_⟩:=hv
  simp only[Ty.val,VRel]
  exact⟨_,rfl,h2⟩
 |st fs=>
  simp only[okTy]at ho
  split at ho<;>try (cases ho;done)
  rename_i hu
  simp only[Value.okWide,hu]at hv
  obtain⟨cs,rfl,_⟩:=hv
  simp only[Ty.val,VRel]
  exact⟨_,rfl,h2⟩
 |int k=>
  refine one _ h2 ?_
  rintro cs rfl
  simp only[okTy]at ho
  split at ho<;>try (cases ho;done)
  rename_i hu
  simp[Value.okWide,hu,Cell.okWide,Cell.ok]at hv
 |bool=>
  refine one _ h2 ?_
  rintro cs rfl
  simp only[okTy]at ho
  split at ho<;>try (cases ho;done)
  rename_i hu
  simp[Value.okWide,hu,Cell.okWide,Cell.ok]at hv
 |str=>
  refine one _ h2 ?_
  rintro cs rfl
  simp only[okTy]at ho
  split at ho<;>try (cases ho;done)
  rename_i hu
  simp[Value.okWide,hu,Cell.okWide,Cell.ok]at hv
 |sl e=>
  refine one _ h2 ?_
  rintro cs rfl
  simp only[okTy]at ho
  split at ho<;>try (cases ho;done)
  rename_i hu
  simp[Value.okWide,hu,Cell.okWide,Cell.ok]at hv
theorem arg_in (ty:Ty) {t:TypeId} {base:Nat} {v:Value} {d:DataW H} {ps:List MemPlace} (ho:okTy P ty t=true) (hv:Value.okWide P W .any base t v) (h:DataW.Trod enc P W 0 (fun _=>true) true t v d ps):
  ∃d:ty.D,ty.wf d/\VRel (only (ok:=ok) (inF W)) W (ty.val d) v:=by
 obtain⟨e,h1,h2⟩:=Qpe (ok:=ok) ty ho hv h
 exact⟨e,h1.1,h2⟩
end
end Go.AM
namespace Go.AM
variable {P:Program}
section
variable {N:NM} {n:Nat} {d:Option Nat} {af dead:List Nat} {r:List SOper} {T:Tmps} {h:Heap} {Q:QC} {fs:List Fr}
def wL (P:Program) (N:NM) (o:Option (List AV)) (len:Nat) (v:AV) (d:Option Nat) (ops:List SOper) (dead:List Nat) (fs:List Fr) (n:Nat) (T:Tmps) (h:Heap) (Q:QC):Prop:=
 ∃cs,o=some cs/\cs.length=len/\wN P N cs v d ops dead fs n T h Q
theorem QhD {cs:List AV} {len:Nat} {v:AV}:wL P N (some cs) len v d r dead fs n T h Q=if cs.length=len then wN P N cs v d r dead fs n T h Q else False:=by
 simp_all [wL]
theorem wN_go {x:List AV} {v:AV} (hl:n<1099511627775):wN P N x v d r dead fs n T h Q=if h.get n=none then wR P N r dead fs (n+1) (putD T d v) (h.set n (.cells 0 x)) Q else False:=by
 split
 ·rename_i hn;exact Qp2 hn hl
 simp_all [wN]
theorem wB_go {x:Blk} {b:Nat} {v:AV} (hl:b<1099511627775):wB P N (some x) b v d r dead fs n T h Q=wR P N r dead fs (n+1) (putD T d v) (h.set b x) Q:=QhC hl
theorem Qbj {k:Nat} {x:Blk} (hk:k<1099511627775):(h.set k x).get k=some x:=by rw[Tr.QaZ h hk];simp
theorem Qbt {j k:Nat} {x:Blk} (hk:k<1099511627775) (hj:j≠k):(h.set k x).get j=h.get j:=by rw[Tr.QaZ h hk];simp[hj]
theorem Qep {x:Nat->Blk} {y:List AV} (hx:x 0= .cells 0 y) {w:Nat->Nat->AV}:wM P N (HM.new .dyn n x fun b g=> .ret (w b g)) d r dead fs n T h Q=wN P N y (w n 0) d r dead fs n T h Q:=by
 apply propext;constructor
 ·rintro ⟨v', h1, hm, hk⟩
  unfold HM.new at hm
  simp only[HM.run]at hm
  cases hn:h.get n with
  |none=>
   rw[hn]at hm
   obtain⟨hl,hm⟩:=Qa2 hm
   simp only[HM.run,Option.some.injEq,Prod.mk.injEq]at hm
   obtain⟨rfl,rfl⟩:=hm
   rw[hx]at hk
   exact⟨hn,hl,hk⟩
  |some z=>rw[hn]at hm;cases hm
 ·rintro ⟨hn, hl, hk⟩
  refine⟨_,_,?_,by rw[<-hx]at hk;exact hk⟩
  unfold HM.new
  simp only[HM.run,hn]
  have hl':Nat.blt n lim=true:=by simp_all
  rw[hl'];rfl
theorem QjY {x:AV}:wM P N (aBox .dyn n x) d r dead fs n T h Q=if x.boxable=true then wN P N x.cells (.ptr n 0 0) d r dead fs n T h Q else False:=by
 split
 ·simp_all [Qop]
 simp_all [aBox,QdE]
theorem Qd8 {sz len:Nat} {z:List AV} {ps:List (Nat×Nat×AV)}:wM P N (aBuildSlice false .dyn n sz len z ps) d r dead fs n T h Q=wL P N (fillA z ps) (len*sz) (.sl n 0 0 len sz) d r dead fs n T h Q:=by
 unfold aBuildSlice
 cases fillA z ps with
 |none=>simp[QdE,wL]
 |some cs=>
  simp only[QhD,Bool.false_eq_true,if_false]
  split
  ·exact Qep rfl
  ·exact QdE
theorem Qeq {sz bytes:Nat} {z:List AV} {k1 k2:IntKind} {l c:Int}:wM P N (aMakeSlice .dyn n sz bytes z (.int k1 l) (.int k2 c)) d r dead fs n T h Q=
  if 0<=l/\l<=c/\bytes*c<=140737488355328/\c<=140737488355328 then wN P N (List.replicate c.toNat z).flatten (.sl n 0 0 l.toNat sz) d r dead fs n T h Q else False:=by
 by_cases hc:0<=l/\l<=c/\bytes*c<=140737488355328/\c<=140737488355328
 ·simp only[aMakeSlice,if_pos hc];exact Qep (x:=fun g=> .cells g (List.replicate c.toNat z).flatten) rfl
 simp_all [aMakeSlice,if_neg,QdE]
theorem Qit {cs:List AV}:fillA cs []=some cs:=rfl
theorem Qhc {cs:List AV} {off size:Nat} {v:AV} {r:List (Nat×Nat×AV)}:fillA cs ((off,size,v)::r)=if v.cells.length=size/\off+size<=cs.length/\v.boxable=true then fillA (putR cs off v.cells) r else none:=rfl
theorem Qiu {z:List AV} {ps:List (Nat×Nat×AV)}:aBuild z ps=(fillA z ps).map AV.agg:=by grind [aBuild]
theorem Qiv {k:IntKind} {a:Int}:(AV.int k a).cells=[.int k a]:=rfl
theorem Qiw {cs:List AV}:(AV.agg cs).cells=cs:=rfl
theorem QjZ {b g off len sz:Nat}:(AV.sl b g off len sz).cells=[.sl b g off len sz]:=rfl
theorem Qix {cs:List AV} {len sz:Nat}:(AV.fsl cs len sz).cells=[.fsl cs len sz]:=rfl
theorem Qf7:AV.nilsl.cells=[.nilsl]:=rfl
theorem Qls {k:IntKind} {a:Int}:(AV.int k a).boxable=true:=rfl
theorem Qlt {cs:List AV}:(AV.agg cs).boxable=true:=rfl
theorem Qnc {b g off len sz:Nat}:(AV.sl b g off len sz).boxable=true:=rfl
theorem Qlu {cs:List AV} {len sz:Nat}:(AV.fsl cs len sz).boxable=true:=rfl
theorem Qiy:AV.nilsl.boxable=true:=rfl
theorem Qlv {k:IntKind} {a:Int}:(AV.int k a).one=true:=rfl
theorem Qnd {b g off len sz:Nat}:(AV.sl b g off len sz).one=true:=rfl
theorem Qlw {cs:List AV} {len sz:Nat}:(AV.fsl cs len sz).one=true:=rfl
theorem Qiz:AV.nilsl.one=true:=rfl
theorem Qj0 {cs:List AV} {off:Nat} {v:AV}:putR cs off [v]=cs.set off v:=rfl
theorem QiA {cs:List AV} {off:Nat} {v w:AV} {vs:List AV}:putR cs off (v::w::vs)=cs.take off++(v::w::vs)++cs.drop (off+(v::w::vs).length):=rfl
def srcB (o:Option Blk) (g off len sz:Nat):Option (List AV):=
 match o with
 |some (.cells g' cs)=>if g'=g/\off+len*sz<=cs.length then some ((cs.drop off).take (len*sz))else none
 |_=>none
theorem Qcn {g g' off len sz:Nat} {cs:List AV}:srcB (some (.cells g' cs)) g off len sz=if g'=g/\off+len*sz<=cs.length then some ((cs.drop off).take (len*sz))else none:=rfl
theorem QkX {sz bytes b g off len:Nat}:wM P N (aAppend .dyn n sz bytes .nilsl (.sl b g off (len+1) sz)) d r dead fs n T h Q=
  ∃ys,srcB (h.get b) g off (len+1) sz=some ys/\((len+1)*bytes<=140737488355328/\len+1<=140737488355328)/\ys.all AV.one=true/\wN P N ys (.sl n 0 0 (len+1) sz) d r dead fs n T h Q:=by
 simp only[aAppend,aSrc,if_true,slLen,Nat.zero_add,Qc7,QcT]
 apply propext;constructor
 ·rintro ⟨cs, hb, h1, h2, h3⟩
  rw[hb,Qcn,if_pos ⟨rfl,h1⟩]
  exact⟨_,rfl,⟨h2.1,h2.2.1⟩,h2.2.2,by rw[Qep rfl]at h3;exact h3⟩
 ·rintro ⟨ys, hy, h2, h3, h4⟩
  unfold srcB at hy
  split at hy
  ·rename_i g' cs hb
   split at hy
   ·rename_i e
    obtain⟨rfl,e⟩:=e
    cases hy
    exact⟨cs,hb,e,⟨h2.1,h2.2,h3⟩,by rw[Qep rfl];exact h4⟩
   ·cases hy
  ·cases hy
theorem Qmn {sz bytes b g off len b2 g2 off2 len2:Nat}:wM P N (aAppend .dyn n sz bytes (.sl b2 g2 off2 len2 sz) (.sl b g off len sz)) d r dead fs n T h Q=
  ∃ys zs,srcB (h.get b) g off len sz=some ys/\srcB (h.get b2) g2 off2 len2 sz=some zs/\((len2+len)*bytes<=140737488355328/\len2+len<=140737488355328)/\ys.all AV.one=true/\
   wB P N (some (.cells (g2+1) (zs++ys))) b2 (.sl b2 (g2+1) 0 (len2+len) sz) d r dead fs n T h Q:=by
 simp only[aAppend,aSrc,if_true,slLen,Qc7,QcT,Qfi]
 apply propext;constructor
 ·rintro ⟨cs, hb, h1, h2, cs2, hb2, h3, h4⟩
  rw[hb,hb2,Qcn,Qcn,if_pos ⟨rfl,h1⟩,if_pos ⟨rfl,h3⟩]
  simp_all
 ·rintro ⟨ys, zs, hy, hz, h2, h3, h4⟩
  unfold srcB at hy hz
  grind
end
def Fresh (n:Nat) (h:Heap):Prop:=∀b,n<=b->h.get b=none
theorem Fresh.e {n:Nat}:Fresh n .e:=fun b _=>by simp[Tr.get]
theorem Fresh.le {n m:Nat} {h:Heap} (hf:Fresh n h) (hl:n<=m):Fresh m h:=fun b hb=>hf b (Nat.le_trans hl hb)
theorem Fresh.set {n k:Nat} {h:Heap} {x:Blk} (hf:Fresh n h) (hk:k<1099511627775) (hl:k<n):Fresh n (h.set k x):=fun b hb=>by
 rw[Qbt hk (by omega)];exact hf b hb
end Go.AM
namespace Go.AM
variable {P:Program}
def FrzTo (h:Heap) (x y:AV):Prop:=∀(ok:Okc) (c:Ctx ok) (w:World) (v:Value),HRel c h w->VRel c w x v->VRel (lent c) w y v
def FrzL (h:Heap):List AV->List AV->Prop
 |[],[]=>True
 |x::xs,y::ys=>FrzTo h x y/\FrzL h xs ys
 |_,_=>False
variable {h:Heap}
theorem FrzTo.same (x:AV):FrzTo h x x:=fun _ c w v _ hv=>VRel.mono (Qgq c w) _ _ hv
theorem FrzL.same:∀(xs:List AV),FrzL h xs xs
 |[]=>trivial
 |x::xs=>⟨.same x,FrzL.same xs⟩
theorem FrzL.length:∀{xs ys:List AV},FrzL h xs ys->ys.length=xs.length
 |[],[],_=>rfl
 |[],_::_,hh=>hh.elim
 |_::_,[],hh=>hh.elim
 |x::xs,y::ys,hh=>by simp[FrzL.length hh.2]
theorem FrzL.pre {ok:Okc} {c:Ctx ok} {w:World} (H:HRel c h w):∀{xs ys:List AV} {vs:List Value},FrzL h xs ys->VPre c w xs vs->VPre (lent c) w ys vs
 |[],[],_,_,_=>by simp[VPre]
 |[],_::_,_,hh,_=>hh.elim
 |_::_,[],_,hh,_=>hh.elim
 |x::xs,y::ys,vs,hh,hv=>by
  simp only[VPre]at hv⊢
  obtain⟨v,vs',rfl,g1,g2⟩:=hv
  exact⟨v,vs',rfl,hh.1 _ c w v H g1,FrzL.pre H hh.2 g2⟩
theorem FrzL.rels {ok:Okc} {c:Ctx ok} {w:World} (H:HRel c h w):∀{xs ys:List AV} {vs:List Value},FrzL h xs ys->VRels c w xs vs->VRels (lent c) w ys vs
 |[],[],_,_,hv=>by grind [VRels]
 |[],_::_,_,hh,_=>hh.elim
 |_::_,[],_,hh,_=>hh.elim
 |x::xs,y::ys,vs,hh,hv=>by
  simp only[VRels]at hv⊢
  obtain⟨v,vs',rfl,g1,g2⟩:=hv
  exact⟨v,vs',rfl,hh.1 _ c w v H g1,FrzL.rels H hh.2 g2⟩
theorem FrzTo.sl {b g off len sz : Nat} {cs ys : List AV} (hb : h.get b = some (.cells g cs)) (hl : off + len * sz <= cs.length) (hL : FrzL h ((cs.drop off).take (len * sz)) ys) :
    FrzTo h (.sl b g off len sz) (.fsl ys len sz):=fun _ c w v H hv=>by
  have hlen:=hL.length
  simp only[VRel]at hv
  rcases hv with⟨hp,rfl,rfl,rfl⟩|⟨cb,base,o,cap,C,e,fr,hp,rfl,hlc,hC,hcap⟩
  · simp_all [VRel]
  · obtain ⟨C', e', fr', hO, hC', hfr, hbs, hpre⟩ := H.here hb hp
    rw[hC]at hC';cases hC'
    by_cases h0:cap=0
    · have hl0 : len = 0 := by omega
      subst hl0
      have hys:ys=[]:=by
        simp_all
      subst hys
      simp only[VRel]
      simp_all
    · obtain ⟨rfl, hbd⟩ := hcap.resolve_left h0
      have hp2:=Qb5 (len*sz) (Qbp off hpre)
      rw[List.drop_drop]at hp2
      simp only[VRel]
      exact .inr ⟨cb,base+off,cap,C,e,fr,rfl,hlc,by grind,.inr hO,hC,hL.pre H hp2⟩
section
variable {N:NM} {n:Nat} {d:Option Nat} {af dead:List Nat} {r:List SOper} {T:Tmps} {Q:QC} {fs:List Fr}
end
end Go.AM
namespace Go.AM
variable {P:Program}
abbrev HL:=List (Nat×Blk)
def hp:HL->Heap
 |[]=> .e
 |p::r=>(hp r).set p.1 p.2
theorem Qne:hp []= .e:=rfl
theorem QcI {b:Nat} {x:Blk} {r:HL}:hp ((b,x)::r)=(hp r).set b x:=rfl
theorem get_e {b:Nat}:Tr.get (α:=Blk) .e b=none:=by simp[Tr.get]
def lkS:List (Nat×Src)->Nat->Option Src
 |[],_=>none
 |(b,s)::r,k=>if k=b then some s else lkS r k
def srcNew (s:Src):List (Nat×Src)->Bool
 |[]=>true
 |(_,t)::r=>(match s,t with| .blk b _,.blk b' _=> !Nat.beq b b'|_,_=>true)&&srcNew s r
def okPs (m:Nat):List (Nat×Src)->HL->Bool
 |[],[]=>true
 |(b,s)::r,(b',_)::l=>Nat.beq b b'&&Nat.blt b 1099511627775&&(Nat.blt b m||((match s with| .blk k _=>Nat.ble m k| .nil=>true)&&srcNew s r))&&(r.all fun p=> !Nat.beq p.1 b)&&okPs m r l
 |_,_=>false
def ow (m:Nat) (ps:List (Nat×Src)):Nat->Option Src:=fun b=>if b<m then none else lkS ps b
def RB (m:Nat) (π:Nat->Option Src) (h:Heap):HL->Prop
 |[]=>True
 |(b',x)::r=>((b'<m/\BRn m π h (some (.blk b' x.gen)) x)\/(m<=b'/\x.gen=0/\(∀g,x≠ .dead g)/\BRn m π h (π b') x))/\RB m π h r
section
variable {m:Nat} {π:Nat->Option Src} {h:Heap}
theorem Qnf:∀{L:HL} {ps:List (Nat×Src)},okPs m ps L=true->∀{b:Nat} {x:Blk},(hp L).get b=some x->(b,x)∈L
 |[],[],_,b,x,hx=>by simp[hp,Tr.get]at hx
 |[],_::_,hh,_,_,_=>by simp[okPs]at hh
 |(b',x')::L,[],hh,_,_,_=>by simp[okPs]at hh
 | (b', x') :: L, (k, s) :: ps, hh, b, x, hx => by
  simp only[okPs,Bool.and_eq_true,Nat.blt_eq,Nat.beq_eq]at hh
  obtain⟨⟨⟨⟨rfl,h3⟩,_⟩,_⟩,h4⟩:=hh
  simp only[hp]at hx
  by_cases e:b=k
  ·simp_all [Qbj]
  ·rw [Qbt h3 e] at hx
   simp[Qnf h4 hx]
theorem Qlx:∀{L:HL} {ps:List (Nat×Src)},okPs m ps L=true->∀{b:Nat},(hp L).get b=none->lkS ps b=none
 |[],[],_,b,_=>rfl
 |[],_::_,hh,_,_=>by simp[okPs]at hh
 |(b',x')::L,[],hh,_,_=>by simp[okPs]at hh
 | (b', x') :: L, (k, s) :: ps, hh, b, hx => by
  simp only[okPs,Bool.and_eq_true,Nat.blt_eq,Nat.beq_eq]at hh
  obtain⟨⟨⟨⟨rfl,h3⟩,_⟩,_⟩,h4⟩:=hh
  simp only[hp]at hx
  by_cases e:b=k
  ·simp_all [Qbj]
  ·rw [Qbt h3 e] at hx
   simp only[lkS,if_neg e]
   exact Qlx h4 hx
theorem RB.mem:∀{L:HL},RB m π h L->∀{b:Nat} {x:Blk},(b,x)∈L->(b<m/\BRn m π h (some (.blk b x.gen)) x)\/(m<=b/\x.gen=0/\(∀g,x≠ .dead g)/\BRn m π h (π b) x)
 |[],_,_,_,hm=>by cases hm
 |(b',x')::L,hh,b,x,hm=>by
  rcases List.mem_cons.1 hm with e|hm
  ·cases e;exact hh.1
  ·exact RB.mem hh.2 hm
theorem Qj1:∀{ps:List (Nat×Src)} {L:HL},okPs m ps L=true->∀{b b1 g:Nat},m<=b->lkS ps b=some (.blk b1 g)->m<=b1
 |[],_,_,_,_,_,_,hs=>by simp[lkS]at hs
 |_::_,[],hh,_,_,_,_,_=>by simp[okPs]at hh
 | (k, s) :: ps, (b', x') :: L, hh, b, b1, g, hb, hs => by
  simp only[okPs,Bool.and_eq_true,Bool.or_eq_true,Nat.blt_eq]at hh
  obtain⟨⟨⟨_,h3⟩,_⟩,h4⟩:=hh
  simp only[lkS]at hs
  split at hs
  ·rename_i e
   cases hs
   rcases h3 with h3|h3
   ·omega
   simp_all
  ·exact Qj1 h4 hb hs
theorem Qfm:∀{ps:List (Nat×Src)} {b g b' g' k:Nat},srcNew (.blk b g) ps=true->lkS ps k=some (.blk b' g')->b≠b'
 |[],_,_,_,_,_,_,hs=>by simp[lkS]at hs
 | (j, s) :: ps, b, g, b', g', k, hh, hs => by
  simp only[srcNew,Bool.and_eq_true]at hh
  simp only[lkS]at hs
  split at hs
  ·cases hs
   have:=hh.1
   simp only[Bool.not_eq_true']at this
   intro e;simp_all
  ·exact Qfm hh.2 hs
theorem Qj2:∀{ps:List (Nat×Src)} {L:HL},okPs m ps L=true->∀{b1 b2 b g g2:Nat},m<=b1->m<=b2->lkS ps b1=some (.blk b g)->lkS ps b2=some (.blk b g2)->b1=b2
 |[],_,_,_,_,_,_,_,_,_,hs,_=>by simp[lkS]at hs
 |_::_,[],hh,_,_,_,_,_,_,_,_,_=>by simp[okPs]at hh
 | (k, s) :: ps, (b', x') :: L, hh, b1, b2, b, g, g2, m1, m2, h1, h2 => by
  simp only[okPs,Bool.and_eq_true,Bool.or_eq_true,Nat.blt_eq]at hh
  obtain⟨⟨⟨_,hn⟩,_⟩,h4⟩:=hh
  simp only[lkS]at h1 h2
  split at h1<;>split at h2
  ·omega
  ·rename_i e1 e2
   cases h1
   rcases hn with hn|hn
   ·omega
   ·exact absurd rfl (Qfm hn.2 h2)
  ·rename_i e1 e2
   cases h2
   rcases hn with hn|hn
   ·omega
   ·exact absurd rfl (Qfm hn.2 h1)
  ·exact Qj2 h4 m1 m2 h1 h2
theorem Qly:∀{ps:List (Nat×Src)} {L:HL},okPs m ps L=true->∀{b:Nat} {s:Src},lkS ps b=some s->∃x,(b,x)∈L
 |[],_,_,_,_,hs=>by simp[lkS]at hs
 |_::_,[],hh,_,_,_=>by simp[okPs]at hh
 | (k, t) :: ps, (b', x') :: L, hh, b, s, hs => by
  simp only[okPs,Bool.and_eq_true,Nat.beq_eq]at hh
  obtain⟨⟨⟨⟨rfl,_⟩,_⟩,_⟩,h4⟩:=hh
  simp only[lkS]at hs
  split at hs
  ·simp_all
  ·obtain ⟨x, hx⟩ := Qly h4 hs
   grind
def RO (m:Nat) (L:HL) (h:Heap):Prop:=∀b,b<m->(∀p∈L,p.1≠b)->h.get b=none
theorem RO.zero {L:HL}:RO 0 L h:=fun b hb=>absurd hb (Nat.not_lt_zero _)
theorem RO.e {L:HL}:RO m L .e:=fun b _ _=>get_e
theorem RO.set {L:HL} {k:Nat} {x:Blk} (hk:(Nat.blt k 1099511627775&&(Nat.ble m k||L.any fun p=>Nat.beq p.1 k))=true) (hr:RO m L h):RO m L (h.set k x):=fun b hb hn=>by
 simp only[Bool.and_eq_true,Bool.or_eq_true,Nat.blt_eq,Nat.ble_eq,List.any_eq_true,Nat.beq_eq]at hk
 obtain⟨h1,h2⟩:=hk
 have:b≠k:=by
  grind
 rw[Qbt h1 this];exact hr b hb hn
def Rec (m:Nat) (T':Tmps) (L:HL) (T:Tmps) (h:Heap):Prop:=∃ps,okPs m ps L=true/\RO m L h/\RB m (ow m ps) h L/\RT m (ow m ps) h T' T
theorem ow_ge {ps:List (Nat×Src)} {b:Nat} (hb:m<=b):ow m ps b=lkS ps b:=if_neg (by omega)
theorem Rec.maps {ps:List (Nat×Src)} {L:HL} (ho:okPs m ps L=true) (hb:RB m (ow m ps) h L):Maps m (ow m ps) h:=by
 refine⟨fun b' b g hm hs=>?_,fun b1 b2 b g g2 m1 m2 h1 h2=>Qj2 ho m1 m2 (by rw[<-ow_ge m1];exact h1) (by rw[<-ow_ge m2];exact h2)⟩
 rw[ow_ge hm]at hs
 refine⟨?_,Qj1 ho hm hs⟩
 obtain⟨x,hx⟩:=Qly ho hs
 rcases hb.mem hx with⟨q0,_⟩|⟨_,q1,q2,q3⟩
 ·omega
 rw[ow_ge hm,hs]at q3
 cases x with
 |cells g' cs=>obtain⟨ds,_,k1,_⟩:=q3;exact⟨_,k1,rfl,fun k=>by simp⟩
 |map g' es=>obtain⟨ds,k1,_⟩:=q3;exact⟨_,k1,rfl,fun k=>by simp⟩
 |loop g' N T ps asg body st=>obtain⟨T0,k1,_⟩:=q3;exact⟨_,k1,rfl,fun k=>by simp⟩
 |dead g'=>exact absurd rfl (q2 g')
theorem Rec.heap {ps:List (Nat×Src)} {L:HL} (ho:okPs m ps L=true) (hb:RB m (ow m ps) h L):RH m (ow m ps) h (hp L):=fun b' x' hx=>hb.mem (Qnf ho hx)
theorem Qng:∀{L:HL} {ps:List (Nat×Src)},okPs m ps L=true->∀{b:Nat},(hp L).get b=none->∀p∈L,p.1≠b
 |[],_,_,_,_,p,hp=>by cases hp
 |(b',x')::L,[],hh,_,_,_,_=>by simp[okPs]at hh
 | (b', x') :: L, (k, s) :: ps, hh, b, hx, p, hpm => by
  simp only[okPs,Bool.and_eq_true,Nat.blt_eq,Nat.beq_eq]at hh
  obtain⟨⟨⟨⟨rfl,h3⟩,_⟩,_⟩,h4⟩:=hh
  simp only[hp]at hx
  by_cases e:b=k
  ·simp_all [Qbj]
  ·rw [Qbt h3 e] at hx
   rcases List.mem_cons.1 hpm with rfl|hpm
   ·omega
   ·exact Qng h4 hx p hpm
theorem Rec.dom {ps:List (Nat×Src)} {L:HL} (ho:okPs m ps L=true) (hr:RO m L h):RD m (ow m ps) h (hp L):=fun b' hx=>
 ⟨fun hlt=>hr b' hlt (Qng ho hx),fun hge=>by grind [ow_ge,Qlx]⟩
theorem W2.recL {sc:SCode} {n:Nat} {Q:SX->St->Prop} {T T':Tmps} {L:HL} (hr:Rec m T' L T h) (hw:W2 P ⟨n,m⟩ sc Q ⟨T',hp L⟩):W2 P ⟨n,m⟩ sc Q ⟨T,h⟩:=by
 obtain⟨ps,ho,hro,hb,ht⟩:=hr
 exact W2.recast (N:=⟨n,m⟩) (Rec.maps ho hb) (Rec.heap ho hb) (Rec.dom ho hro) ht hw
theorem W2.post {sc:SCode} {k:Nat} {Q:SX->St->Prop} {A:St} (hw:W2 P ⟨k,m⟩ sc (fun e B=>Q e B\/∃T' L,Rec m T' L B.T B.h/\Q e ⟨T',hp L⟩) A):W2 P ⟨k,m⟩ sc Q A:=by
 intro code hok c a w S ro hro Q' hQ
 refine hw code hok c a w S ro hro Q' ?_
 rintro e B c' a' w' (hq|⟨T',L,⟨ps,ho,hro,hb,ht⟩,hq⟩) S' E'
 ·grind
 ·have M := Rec.maps ho hb
  exact hQ e ⟨T',hp L⟩ (nctx m (ow m ps) B.h c') a' w' hq ⟨(Rec.heap ho hb).hrel (Rec.dom ho hro) M S'.heap,fun i=>ht i _ c' w' _ S'.heap M (S'.tmps i),S'.size,S'.defers.mono2 (QdS (m:=m) (π:=ow m ps) (h:=B.h) c' w')⟩ (E'.trans (QdS c' w'))
theorem RT.nil {T:Tmps}:RT m π h [] T:=fun _=>Rn.any
theorem RT.cons {T' T:Tmps} {j:Nat} {v:AV} (hv:Rn m π h v (lk T j)) (hr:RT m π h T' T):RT m π h ((j,v)::T') T:=by
 intro i
 rw[Qa7]
 split
 ·simp_all
 ·exact hr i
theorem RB.nil:RB m π h []:=trivial
theorem RB.cells {b b' g:Nat} {cs ds:List AV} {r:HL} (hm:Nat.ble m b'=true) (hp:π b'=some (.blk b g)) (hg:h.get b=some (.cells g ds)) (hc:RnL m π h cs ds) (hr:RB m π h r):RB m π h ((b',.cells 0 cs)::r):=
 ⟨.inr ⟨Nat.le_of_ble_eq_true hm,rfl,fun _=>by simp,by rw[hp];exact⟨ds,ds.length,hg,by simp_all⟩⟩,hr⟩
theorem RB.newnil {b':Nat} {r:HL} (hm:Nat.ble m b'=true) (hp:π b'=some .nil) (hr:RB m π h r):RB m π h ((b',.cells 0 [])::r):=⟨.inr ⟨Nat.le_of_ble_eq_true hm,rfl,fun _=>by simp,by rw[hp];rfl⟩,hr⟩
theorem RB.map {b b' g:Nat} {es fs:List (AV×AV)} {r:HL} (hm:Nat.ble m b'=true) (hp:π b'=some (.blk b g)) (hg:h.get b=some (.map g fs)) (hc:RnM m π h es fs) (hr:RB m π h r):RB m π h ((b',.map 0 es)::r):=
 ⟨.inr ⟨Nat.le_of_ble_eq_true hm,rfl,fun _=>by simp,by rw[hp];exact⟨fs,hg,hc⟩⟩,hr⟩
theorem RB.cellsB {b g:Nat} {cs ds:List AV} {r:HL} (hm:Nat.blt b m=true) (hg:h.get b=some (.cells g ds)) (hc:RnL m π h cs ds) (hr:RB m π h r):RB m π h ((b,.cells g cs)::r):=
 ⟨.inl ⟨by simpa using hm,ds,ds.length,hg,by simp_all⟩,hr⟩
theorem RB.mapB {b g:Nat} {es fs:List (AV×AV)} {r:HL} (hm:Nat.blt b m=true) (hg:h.get b=some (.map g fs)) (hc:RnM m π h es fs) (hr:RB m π h r):RB m π h ((b,.map g es)::r):=
 ⟨.inl ⟨by simpa using hm,fs,hg,hc⟩,hr⟩
theorem Qlz {s:Src}:∀{ps:List (Nat×Src)},srcNew s ps=true->∀b' g',lkS ps b'=some g'->(match s,g' with| .blk b _,.blk b2 _=>b≠b2|_,_=>True)
 |[],_,b',g',hs=>by simp[lkS]at hs
 | (j, t) :: ps, hh, b', g', hs => by
  simp only[srcNew,Bool.and_eq_true]at hh
  simp only[lkS]at hs
  split at hs
  ·cases hs
   have:=hh.1
   cases s<;>cases t<;>simp_all
   intro e;simp_all
  ·exact Qlz hh.2 b' g' hs
theorem RnL.nil {m:Nat} {π:Nat->Option Src} {h:Heap}:RnL m π h [] []:=trivial
theorem RnL.cons {m:Nat} {π:Nat->Option Src} {h:Heap} {x y:AV} {xs ys:List AV} (h1:Rn m π h x y) (h2:RnL m π h xs ys):RnL m π h (x::xs) (y::ys):=⟨h1,h2⟩
theorem Rn.fz {ps:List (Nat×Src)} {b g len sz:Nat} {cs ds:List AV} (hb:h.get b=some (.cells g ds)) (hn:srcNew (.blk b g) ps=true) (hm:Nat.ble m b=true) (hl:ds.length=len*sz)
  (hL:RnL m (ow m ps) h cs ds):Rn m (ow m ps) h (.fsl cs len sz) (.sl b g 0 len sz):=by
 refine Rn.frz hb (by simpa using hm) (fun b' g' hb' e=>?_) (by omega) ?_
 ·rw[ow_ge hb']at e;exact Qlz hn b' _ e rfl
 grind
theorem Rn.fzm {ps:List (Nat×Src)} {b g len sz k:Nat} {cs ds:List AV} (hb:h.get b=some (.cells g ds)) (hn:srcNew (.blk b g) ps=true) (hm:Nat.ble m b=true) (hk:k=len) (hl:ds.length=len*sz)
  (hL:RnL m (ow m ps) h cs ds):Rn m (ow m ps) h (.fsl cs k sz) (.sl b g 0 len sz):=by simp_all [Rn.fz]
theorem Rn.fz0 {b g len sz:Nat} {cs ds:List AV} (hb:h.get b=some (.cells g ds)) (hl:ds.length=len*sz)
  (hL:RnL 0 π0 h cs ds):Rn 0 π0 h (.fsl cs len sz) (.sl b g 0 len sz):=by
 refine Rn.frz hb (Nat.zero_le _) (fun b' g' _ e=>by simp[π0]at e) (by omega) ?_
 grind
end
theorem Rn.slot {m:Nat} {π:Nat->Option Src} {h:Heap} {T:Tmps} {j:Nat} {v:AV} (hv:lk T j=v) (hn:noRef v=true):Rn m π h v (lk T j):=by simp_all [Rn.same]
section
variable {m:Nat} {π:Nat->Option Src} {h:Heap}
theorem Rn.x1 {b' b g off len sz:Nat} (hm:Nat.ble m b'=true) (hp:π b'=some (.blk b g)):Rn m π h (.sl b' 0 off len sz) (.sl b g off len sz):=Rn.sl (Nat.le_of_ble_eq_true hm) hp
theorem Rn.x2 {b' b g off:Nat} (hm:Nat.ble m b'=true) (hp:π b'=some (.blk b g)):Rn m π h (.ptr b' 0 off) (.ptr b g off):=Rn.ptr (Nat.le_of_ble_eq_true hm) hp
theorem Rn.x3 {b' b g:Nat} (hm:Nat.ble m b'=true) (hp:π b'=some (.blk b g)):Rn m π h (.map b' 0) (.map b g):=Rn.map (Nat.le_of_ble_eq_true hm) hp
theorem Rn.x4 {b' sz:Nat} (hm:Nat.ble m b'=true) (hp:π b'=some .nil):Rn m π h (.sl b' 0 0 0 sz) .nilsl:=Rn.slnil (Nat.le_of_ble_eq_true hm) hp
theorem Rn.x5 {b g off len sz:Nat} (hm:Nat.ble (b+1) m=true):Rn m π h (.sl b g off len sz) (.sl b g off len sz):=Rn.slB (Nat.le_of_ble_eq_true hm)
theorem Rn.x6 {b g off:Nat} (hm:Nat.ble (b+1) m=true):Rn m π h (.ptr b g off) (.ptr b g off):=Rn.ptrB (Nat.le_of_ble_eq_true hm)
theorem Rn.x7 {b g:Nat} (hm:Nat.ble (b+1) m=true):Rn m π h (.map b g) (.map b g):=Rn.mapB (Nat.le_of_ble_eq_true hm)
end
section
variable {k m n:Nat} {T:Tmps} {h:Heap} {Q:QC} {fs:List Fr} {α:Type} {env:α->Tmps} {H:α->HL} {I:α->Prop} {μ:α->Nat} {a:α}
def loopR (P:Program) (k m:Nat) {α:Type} (env:α->Tmps) (H:α->HL) (I:α->Prop) (μ:α->Nat) (a:α) (fs:List Fr) (Q:QC):QC:=fun e T h n=>
 match e with
 | .normal=>∃a',μ a'<μ a/\I a'/\Rec m (env a') (H a') T h
 |e=>wX P ⟨k,m⟩ e fs n T h Q
theorem Qfn:loopR P k m env H I μ a fs Q .normal T h n=∃a',μ a'<μ a/\I a'/\Rec m (env a') (H a') T h:=rfl
theorem Qhd {i:Nat}:loopR P k m env H I μ a fs Q (.exit i) T h n=wX P ⟨k,m⟩ (.exit i) fs n T h Q:=rfl
theorem QiB:loopR P k m env H I μ a fs Q .ret T h n=wX P ⟨k,m⟩ .ret fs n T h Q:=rfl
theorem QaJ {b:SCode} (n0:Nat) (env:α->Tmps) (H:α->HL) (I:α->Prop) (μ:α->Nat) (a0:α)
  (h0:Rec m (env a0) (H a0) T h) (hI:I a0) (round:∀a,I a->wS P ⟨k,m⟩ b [] n0 (env a) (hp (H a)) (loopR P k m env H I μ a fs Q)):wS P ⟨k,m⟩ (.loop b) fs n T h Q:=by
 show W2 P ⟨k,m⟩ (.loop b) (fun e B=>∃n,ct P ⟨k,m⟩ fs Q e B.T B.h n) ⟨T,h⟩
 refine W2.loop (fun q B=>∃a,μ a=q/\I a/\Rec m (env a) (H a) B.T B.h) (μ a0) ⟨a0,rfl,hI,h0⟩ ?_
 rintro q B ⟨a,rfl,hi,hr⟩
 refine W2.recL hr ((wpC.toW (round a hi)).mono ?_)
 rintro e C ⟨n2,hq⟩
 cases e with
 |normal=>obtain⟨a',h1,h2,h3⟩:=hq;exact⟨μ a',h1,a',rfl,h2,h3⟩
 |exit i=>exact⟨n2,hq⟩
 |ret=>exact⟨n2,hq⟩
def loopX (P:Program) (k m:Nat) {α β:Type} (env:α->Tmps) (H:α->HL) (I:α->Prop) (μ:α->Nat) (i:Nat) (T1:β->Tmps) (L1:β->HL) (J:β->Prop) (a:α) (fs:List Fr) (Q:QC):QC:=fun e T h n=>
 match e with
 | .normal=>∃a',μ a'<μ a/\I a'/\Rec m (env a') (H a') T h
 | .exit j=>if j=i then ∃b,J b/\Rec m (T1 b) (L1 b) T h else wX P ⟨k,m⟩ (.exit j) fs n T h Q
 | .ret=>wX P ⟨k,m⟩ .ret fs n T h Q
section
variable {β:Type} {i:Nat} {T1:β->Tmps} {L1:β->HL} {J:β->Prop}
theorem Qfo:loopX P k m env H I μ i T1 L1 J a fs Q .normal T h n=∃a',μ a'<μ a/\I a'/\Rec m (env a') (H a') T h:=rfl
theorem QeM {j:Nat}:loopX P k m env H I μ i T1 L1 J a fs Q (.exit j) T h n=if j=i then ∃b,J b/\Rec m (T1 b) (L1 b) T h else wX P ⟨k,m⟩ (.exit j) fs n T h Q:=rfl
theorem QiC:loopX P k m env H I μ i T1 L1 J a fs Q .ret T h n=wX P ⟨k,m⟩ .ret fs n T h Q:=rfl
end
theorem Qaz {b:SCode} {β:Type} (n0:Nat) (env:α->Tmps) (H:α->HL) (I:α->Prop) (μ:α->Nat) (a0:α) (i n1:Nat) (T1:β->Tmps) (L1:β->HL) (J:β->Prop)
  (h0:Rec m (env a0) (H a0) T h) (hI:I a0) (round:∀a,I a->wS P ⟨k,m⟩ b [] n0 (env a) (hp (H a)) (loopX P k m env H I μ i T1 L1 J a fs Q))
  (cont:∀b,J b->wX P ⟨k,m⟩ (.exit i) fs n1 (T1 b) (hp (L1 b)) Q):wS P ⟨k,m⟩ (.loop b) fs n T h Q:=by
 show W2 P ⟨k,m⟩ (.loop b) (fun e B=>∃n,ct P ⟨k,m⟩ fs Q e B.T B.h n) ⟨T,h⟩
 refine W2.post ?_
 refine W2.loop (fun q B=>∃a,μ a=q/\I a/\Rec m (env a) (H a) B.T B.h) (μ a0) ⟨a0,rfl,hI,h0⟩ ?_
 rintro q B ⟨a,rfl,hi,hr⟩
 refine W2.recL hr ((wpC.toW (round a hi)).mono ?_)
 rintro e C ⟨n2,hq⟩
 cases e with
 |normal=>obtain⟨a',h1,h2,h3⟩:=hq;exact⟨μ a',h1,a',rfl,h2,h3⟩
 | exit j =>
  replace hq:loopX P k m env H I μ i T1 L1 J a fs Q (.exit j) C.T C.h n2:=hq
  rw[QeM]at hq
  split at hq
  ·rename_i e; subst e
   obtain⟨b,hJ,hr⟩:=hq
   exact .inr ⟨_,_,hr,n1,cont b hJ⟩
  ·exact .inl ⟨n2,hq⟩
 |ret=>exact .inl ⟨n2,hq⟩
end
section
variable {N:NM} {n:Nat} {d:Option Nat} {af dead:List Nat} {r:List SOper} {T:Tmps} {h:Heap} {Q:QC} {fs:List Fr}
def wA (P:Program) (N:NM) (zs ys:Option (List AV)) (g len2 len sz bytes b:Nat) (d:Option Nat) (ops:List SOper) (dead:List Nat) (fs:List Fr) (n:Nat) (T:Tmps) (h:Heap) (Q:QC):Prop:=
 ∃ y z, ys = some y /\ zs = some z /\ ((len2 + len) * bytes <= 140737488355328 /\ len2 + len <= 140737488355328) /\ y.all AV.one = true /\
   wB P N (some (.cells (g+1) (z++y))) b (.sl b (g+1) 0 (len2+len) sz) d ops dead fs n T h Q
theorem Qf8 {sz bytes b g off len b2 g2 off2 len2:Nat}:wM P N (aAppend .dyn n sz bytes (.sl b2 g2 off2 len2 sz) (.sl b g off len sz)) d r dead fs n T h Q=
  wA P N (srcB (h.get b2) g2 off2 len2 sz) (srcB (h.get b) g off len sz) g2 len2 len sz bytes b2 d r dead fs n T h Q:=by
 rw[Qmn]
 apply propext;constructor
 ·rintro⟨ys,zs,h1,h2,h3,h4,h5⟩;exact⟨ys,zs,h1,h2,h3,h4,h5⟩
 ·rintro⟨ys,zs,h1,h2,h3,h4,h5⟩;simp_all
theorem QlA {zs ys:List AV} {g len2 len sz bytes b:Nat} (h1:(len2+len)*bytes<=140737488355328) (h2:len2+len<=140737488355328):
  wA P N (some zs) (some ys) g len2 len sz bytes b d r dead fs n T h Q=if ys.all AV.one=true then wB P N (some (.cells (g+1) (zs++ys))) b (.sl b (g+1) 0 (len2+len) sz) d r dead fs n T h Q else False:=by
 by_cases ho:ys.all AV.one=true
 ·rw [if_pos ho]; apply propext; constructor
  ·rintro⟨y,z,e1,e2,_,_,h5⟩;simp_all
  ·intro h5;exact⟨ys,zs,rfl,rfl,⟨h1,h2⟩,ho,h5⟩
 ·rw [if_neg ho]; apply propext; constructor
  ·rintro⟨y,z,e1,e2,_,h4,h5⟩;grind
  simp_all
theorem QgA {g len sz:Nat} {cs:List AV} (hl:cs.length=len*sz):srcB (some (.cells g cs)) g 0 len sz=some cs:=by
 rw[Qcn,if_pos ⟨rfl,by omega⟩,List.drop_zero,<-hl,List.take_length]
end
end Go.AM
namespace Go.AM
theorem words:type_of% @Qk7/\type_of% @QmU/\type_of% @Qk8/\type_of% @Qib/\type_of% @QmV/\type_of% @Qk9/\type_of% @Qjy/\type_of% @Qla/\type_of% @Qjz/\type_of% @Qlb/\type_of% @QmW/\type_of% @wX_sq/\type_of% @Qic/\type_of% @QgY/\type_of% @QmX/\type_of% @QgZ/\type_of% @QfX/\type_of% @Qfl/\type_of% @Qha/\type_of% @Qis/\type_of% @ev_t/\type_of% @ev_c/\type_of% @ev_f/\type_of% @QmY/\type_of% @Qa7/\type_of% @QhB/\type_of% @QmZ/\type_of% @Qm0/\type_of% @rm_no/\type_of% @Qlc/\type_of% @Qid/\type_of% @Qie/\type_of% @QjA/\type_of% @Qif/\type_of% @Qld/\type_of% @QjB/\type_of% @QjC/\type_of% @QjD/\type_of% @QfY/\type_of% @Qfh/\type_of% @Qm1/\type_of% @QjE/\type_of% @Qle/\type_of% @Qlf/\type_of% @Qm2/\type_of% @Qlg/\type_of% @Qlh/\type_of% @QjF/\type_of% @Qig/\type_of% @Qm3/\type_of% @wR_eq/\type_of% @wR_un/\type_of% @Qli/\type_of% @QdT/\type_of% @QjI/\type_of% @QjJ/\type_of% @QjK/\type_of% @QjL/\type_of% @QjM/\type_of% @Qg0/\type_of% @Qih/\type_of% @QjN/\type_of% @Qm5/\type_of% @Qii/\type_of% @Qlj/\type_of% @QjO/\type_of% @QjP/\type_of% @Qg1/\type_of% @Qij/\type_of% @Qlk/\type_of% @Qm6/\type_of% @Qik/\type_of% @Qll/\type_of% @Qlm/\type_of% @QdD/\type_of% @QjQ/\type_of% @Qm7/\type_of% @Qcm/\type_of% @QhC/\type_of% @Qin/\type_of% @QfZ/\type_of% @Qf0/\type_of% @Qg2/\type_of% @Qio/\type_of% @QjS/\type_of% @Qip/\type_of% @Qf1/\type_of% @Qiq/\type_of% @Qil/\type_of% @Qim/\type_of% @Qgv/\type_of% @Qgw/\type_of% @Qgx/\type_of% @Qgy/\type_of% @QjT/\type_of% @QjU/\type_of% @QdU/\type_of% @QdV/\type_of% @QdW/\type_of% @QdX/\type_of% @QdY/\type_of% @QdZ/\type_of% @Qlo/\type_of% @Qlp/\type_of% @Qfj/\type_of% @Qg4/\type_of% @Qf2/\type_of% @Qg3/\type_of% @Qfk/\type_of% @QjV/\type_of% @QjW/\type_of% @Qg5/\type_of% @wr_u8/\type_of% @Qm9/\type_of% @Qna/\type_of% @Qm8/\type_of% @Qnb/\type_of% @Qg6/\type_of% @Qir/\type_of% @Qg7/\type_of% @Qf3/\type_of% @Qg8/\type_of% @Qf4/\type_of% @Qf5/\type_of% @Qf6/\type_of% @List.elem_cons.{0}/\type_of% @List.elem_nil.{0}/\type_of% @Bool.false_eq_true/\type_of% @Bool.true_eq_false/\type_of% @List.getElem?_cons_zero.{0}/\type_of% @List.getElem?_cons_succ.{0}/\type_of% @decide_eq_true_eq/\type_of% @decide_eq_false_iff_not/\type_of% @decide_true/\type_of% @decide_false/\type_of% @Bool.not_true/\type_of% @Bool.not_false/\type_of% @Bool.not_eq_true'/\type_of% @Bool.not_eq_eq_eq_not/\type_of% @List.nil_append.{0}/\type_of% @List.append_nil.{0}/\type_of% @List.cons_append.{0}/\type_of% @and_true/\type_of% @true_and/\type_of% @Int.natCast_nonneg/\type_of% @Int.toNat_natCast/\type_of% @Nat.mul_one/\type_of% @Nat.zero_add/\type_of% @Int.toNat_zero/\type_of% @Qhb/\type_of% @QjX/\type_of% @Qlq/\type_of% @Qg9:=
 ⟨@Qk7,@QmU,@Qk8,@Qib,@QmV,@Qk9,@Qjy,@Qla,@Qjz,@Qlb,@QmW,@wX_sq,@Qic,@QgY,@QmX,@QgZ,@QfX,@Qfl,@Qha,@Qis,@ev_t,@ev_c,@ev_f,@QmY,@Qa7,@QhB,@QmZ,@Qm0,@rm_no,@Qlc,@Qid,@Qie,@QjA,@Qif,@Qld,@QjB,@QjC,@QjD,@QfY,@Qfh,@Qm1,@QjE,@Qle,@Qlf,@Qm2,@Qlg,@Qlh,@QjF,@Qig,@Qm3,@wR_eq,@wR_un,@Qli,@QdT,@QjI,@QjJ,@QjK,@QjL,@QjM,@Qg0,@Qih,@QjN,@Qm5,@Qii,@Qlj,@QjO,@QjP,@Qg1,@Qij,@Qlk,@Qm6,@Qik,@Qll,@Qlm,@QdD,@QjQ,@Qm7,@Qcm,@QhC,@Qin,@QfZ,@Qf0,@Qg2,@Qio,@QjS,@Qip,@Qf1,@Qiq,@Qil,@Qim,@Qgv,@Qgw,@Qgx,@Qgy,@QjT,@QjU,@QdU,@QdV,@QdW,@QdX,@QdY,@QdZ,@Qlo,@Qlp,@Qfj,@Qg4,@Qf2,@Qg3,@Qfk,@QjV,@QjW,@Qg5,@wr_u8,@Qm9,@Qna,@Qm8,@Qnb,@Qg6,@Qir,@Qg7,@Qf3,@Qg8,@Qf4,@Qf5,@Qf6,@List.elem_cons.{0},@List.elem_nil.{0},@Bool.false_eq_true,@Bool.true_eq_false,@List.getElem?_cons_zero.{0},@List.getElem?_cons_succ.{0},@decide_eq_true_eq,@decide_eq_false_iff_not,@decide_true,@decide_false,@Bool.not_true,@Bool.not_false,@Bool.not_eq_true',@Bool.not_eq_eq_eq_not,@List.nil_append.{0},@List.append_nil.{0},@List.cons_append.{0},@and_true,@true_and,@Int.natCast_nonneg,@Int.toNat_natCast,@Nat.mul_one,@Nat.zero_add,@Int.toNat_zero,@Qhb,@QjX,@Qlq,@Qg9⟩
theorem wordsN:type_of% @QjY/\type_of% @Qeq/\type_of% @Qd8/\type_of% @Qiu/\type_of% @Option.map_some.{0,0}/\type_of% @QhD/\type_of% @wN_go/\type_of% @wB_go/\type_of% @Qbj/\type_of% @Qbt/\type_of% @Qit/\type_of% @Qhc/\type_of% @Qiv/\type_of% @Qiw/\type_of% @QjZ/\type_of% @Qix/\type_of% @Qf7/\type_of% @Qls/\type_of% @Qlt/\type_of% @Qnc/\type_of% @Qlu/\type_of% @Qiy/\type_of% @Qlv/\type_of% @Qnd/\type_of% @Qlw/\type_of% @Qiz/\type_of% @Qj0/\type_of% @List.set_cons_zero.{0}/\type_of% @List.set_cons_succ.{0}/\type_of% @List.length_cons.{0}/\type_of% @List.length_nil.{0}/\type_of% @List.all_cons.{0}/\type_of% @List.all_nil.{0}/\type_of% @Bool.and_true/\type_of% @Bool.true_and/\type_of% @List.drop_zero.{0}/\type_of% @List.drop_succ_cons.{0}/\type_of% @List.take_succ_cons.{0}/\type_of% @List.take_zero.{0}/\type_of% @List.head?_cons.{0}/\type_of% @QiA/\type_of% @Nat.le_refl/\type_of% @Int.cast_ofNat_Int/\type_of% @Int.natCast_zero/\type_of% @Int.natCast_one:=
 ⟨@QjY,@Qeq,@Qd8,@Qiu,@Option.map_some.{0,0},@QhD,@wN_go,@wB_go,@Qbj,@Qbt,@Qit,@Qhc,@Qiv,@Qiw,@QjZ,@Qix,@Qf7,@Qls,@Qlt,@Qnc,@Qlu,@Qiy,@Qlv,@Qnd,@Qlw,@Qiz,@Qj0,@List.set_cons_zero.{0},@List.set_cons_succ.{0},@List.length_cons.{0},@List.length_nil.{0},@List.all_cons.{0},@List.all_nil.{0},@Bool.and_true,@Bool.true_and,@List.drop_zero.{0},@List.drop_succ_cons.{0},@List.take_succ_cons.{0},@List.take_zero.{0},@List.head?_cons.{0},@QiA,@Nat.le_refl,@Int.cast_ofNat_Int,@Int.natCast_zero,@Int.natCast_one⟩
theorem wordsR:type_of% @Qne/\type_of% @QcI/\type_of% @get_e/\type_of% @Qfn/\type_of% @Qhd/\type_of% @QiB/\type_of% @Qfo/\type_of% @QeM/\type_of% @QiC/\type_of% @Qf8/\type_of% @QlA/\type_of% @QgA/\type_of% @Int.ofNat_lt/\type_of% @Int.ofNat_le/\type_of% @Int.ofNat_inj/\type_of% @Int.natCast_pos/\type_of% @Int.natCast_add/\type_of% @List.length_map.{0,0}/\type_of% @List.length_append.{0}/\type_of% @List.take_length.{0}/\type_of% @Nat.zero_mul/\type_of% @Nat.one_mul/\type_of% @Nat.add_zero/\type_of% @Int.zero_add/\type_of% @Nat.not_lt_zero/\type_of% @Int.le_refl/\type_of% @not_true/\type_of% @not_false_iff/\type_of% @Nat.lt_irrefl/\type_of% @Int.lt_irrefl:=
 ⟨@Qne,@QcI,@get_e,@Qfn,@Qhd,@QiB,@Qfo,@QeM,@QiC,@Qf8,@QlA,@QgA,@Int.ofNat_lt,@Int.ofNat_le,@Int.ofNat_inj,@Int.natCast_pos,@Int.natCast_add,@List.length_map.{0,0},@List.length_append.{0},@List.take_length.{0},@Nat.zero_mul,@Nat.one_mul,@Nat.add_zero,@Int.zero_add,@Nat.not_lt_zero,@Int.le_refl,@not_true,@not_false_iff,@Nat.lt_irrefl,@Int.lt_irrefl⟩
end Go.AM
namespace Go.AM
variable {P:Program}
section
variable {h:Heap}
end
section
variable {h:Heap}
theorem FrzTo.fn {f:Nat} {xs ys us vs:List AV} (hL:FrzL h xs ys) (hK:FrzL h us vs):FrzTo h (.fn f xs us) (.fn f ys vs):=fun _ c w v H hv=>by
 simp only[VRel]at hv⊢
 obtain⟨x',y',rfl,h1,h2⟩:=hv
 exact⟨x',y',rfl,hL.rels H h1,hK.rels H h2⟩
theorem FrzTo.ptr {b g off:Nat} {cs ys:List AV} (hb:h.get b=some (.cells g cs)) (hL:FrzL h (cs.drop off) ys):FrzTo h (.ptr b g off) (.fptr ys):=fun _ c w v H hv=>by
 simp only[VRel]at hv
 obtain⟨cb,base,hp,rfl⟩:=hv
 obtain⟨C',e',fr',hO,hC',hfr,hbs,hpre⟩:=H.here hb hp
 have hp2:=Qbp off hpre
 rw[List.drop_drop]at hp2
 simp only[VRel]
 exact⟨cb,base+off,C',e',fr',rfl,.inr hO,hC',hL.pre H hp2⟩
theorem HSpec.lend {f:Nat} {args bs:List AV} {v:AV} (hL:FrzL h args bs) (hp:PSpec P f bs v) (hv:flatV v=true):HSpec P f args h v h:=by
 obtain⟨h',hc,_⟩:=hp.2.2
 exact⟨hc,fun c w cargs H ha=>(hp.borrow hv H (hL.rels H ha)).2⟩
end
end Go.AM
namespace Go.AM
variable {P:Program}
section
variable {N:NM} {n:Nat} {d:Option Nat} {af dead:List Nat} {r:List SOper} {T:Tmps} {h:Heap} {Q:QC} {fs:List Fr}
theorem Qfp (hl:n<1099511627775):wM P N (aMakeMap .dyn n) d r dead fs n T h Q=if h.get n=none then wR P N r dead fs (n+1) (putD T d (.map n 0)) (h.set n (.map 0 [])) Q else False:=by
 have hl':Nat.blt n lim=true:=by simp[Nat.blt];unfold lim;omega
 apply propext;constructor
 ·rintro ⟨v', h1, hm, hk⟩
  unfold aMakeMap HM.new at hm
  simp only[HM.run]at hm
  cases hn:h.get n with
  |none=>
   rw[hn]at hm
   obtain⟨hl,hm⟩:=Qa2 hm
   simp only[HM.run,Option.some.injEq,Prod.mk.injEq]at hm
   obtain⟨rfl,rfl⟩:=hm
   rw[if_pos rfl];exact hk
  |some z=>rw[hn]at hm;cases hm
 ·split
  ·rename_i hn
   intro hk
   refine⟨_,_,?_,hk⟩
   grind [aMakeMap,HM.new,HM.run]
  simp_all
def keyM (k:IntKind) (v:AV) (l:List Nat):List (AV×AV):=l.map fun x:Nat=>(.int k (x:Int),v)
theorem RnM.keyM {m:Nat} {π:Nat->Option Src} {h:Heap} {k:IntKind} {v:AV} (hv:noRef v=true):∀{l:List Nat},RnM m π h (keyM k v l) (keyM k v l)
 |[]=>trivial
 |x::l=>⟨⟨Rn.same rfl,Rn.same hv⟩,RnM.keyM hv (l:=l)⟩
end
theorem wordsM:AV.nilmap.boxable=true/\AV.nilmap.cells=[.nilmap]/\(∀b g,(AV.map b g).cells=[.map b g])/\(∀b g,(AV.map b g).one=true)/\(∀b g,(AV.map b g).boxable=true)/\AV.nilmap.one=true:=
 ⟨rfl,rfl,fun _ _=>rfl,fun _ _=>rfl,fun _ _=>rfl,rfl⟩
theorem HSpec.QbB {f m:Nat} {sf:SFn} {args:List AV} {L0 L:HL} {v:AV} (n:Nat) (hok:okFn P f sf=true) (hl:Nat.ble args.length sf.n=true) (hm:(Nat.ble m 1099511627775&&L0.all fun p=>Nat.blt p.1 m)=true)
  (hv:noRef v=true) (hw:wS P ⟨sf.n,m⟩ sf.body [] n (argT 0 args) (hp L0) fun e T k _=>(e= .normal\/e= .ret)/\∃vs,resV T k sf.res=some vs/\resOf vs=v/\Rec m [] L T k):HSpec P f args (hp L0) v (hp L):=by
 simp only[Bool.and_eq_true,Nat.ble_eq]at hm
 refine HSpec.of_W2 hok (Nat.le_of_ble_eq_true hl) (fun b hb=>?_) ((wpC.toW hw).mono ?_)
 ·have : ∀ M : HL, M.all (fun p => Nat.blt p.1 m) = true -> (hp M).get b = none := by
   intro M
   induction M with
   |nil=>intro _;exact get_e
   |cons q M ih=>
    obtain⟨j,x⟩:=q
    intro hM
    simp only[List.all_cons,Bool.and_eq_true,Nat.blt,Nat.ble_eq]at hM
    rw[QcI,Qbt (by omega) (by omega)];exact ih (by grind [Nat.blt])
  grind
 ·rintro e B ⟨n', h1, vs, h2, h3, ps, ho, hro, hb, ht⟩
  exact⟨h1,vs,_,h2,Rec.maps ho hb,Rec.heap ho hb,Rec.dom ho hro,by simp_all [Rn.same]⟩
end Go.AM
namespace Go.AM
variable {P:Program}
section
variable {N:NM} {n:Nat} {d:Option Nat} {dead:List Nat} {r:List SOper} {T:Tmps} {h:Heap} {Q:QC} {fs:List Fr}
theorem Qf9 {sz bytes len b2 g2 off2 len2:Nat} {cs:List AV}:wM P N (aAppend .dyn n sz bytes (.sl b2 g2 off2 len2 sz) (.fsl cs len sz)) d r dead fs n T h Q=
  wA P N (srcB (h.get b2) g2 off2 len2 sz) (some cs) g2 len2 len sz bytes b2 d r dead fs n T h Q:=by
 simp only[aAppend,aSrc,if_true,slLen,Qc7,QcT,Qfi]
 apply propext;constructor
 ·rintro ⟨h2, cs2, hb2, h3, h4⟩
  rw[hb2,Qcn,if_pos ⟨rfl,h3⟩]
  exact⟨_,_,rfl,rfl,⟨h2.1,h2.2.1⟩,h2.2.2,h4⟩
 ·rintro ⟨ys, zs, hy, hz, h2, h3, h4⟩
  cases hy
  unfold srcB at hz
  grind
theorem Qee {sz bytes b2 g2 off2 len2:Nat}:wM P N (aAppend .dyn n sz bytes (.sl b2 g2 off2 len2 sz) .nilsl) d r dead fs n T h Q=
  wA P N (srcB (h.get b2) g2 off2 len2 sz) (some []) g2 len2 0 sz bytes b2 d r dead fs n T h Q:=by
 simp only[aAppend,aSrc,if_true,slLen,Qc7,QcT,Qfi]
 apply propext;constructor
 ·rintro ⟨h2, cs2, hb2, h3, h4⟩
  rw[hb2,Qcn,if_pos ⟨rfl,h3⟩]
  exact⟨_,_,rfl,rfl,⟨h2.1,h2.2.1⟩,h2.2.2,h4⟩
 ·rintro ⟨ys, zs, hy, hz, h2, h3, h4⟩
  cases hy
  unfold srcB at hz
  grind
end
theorem Qga {cs:List AV} {len sz:Nat} {k:IntKind} {a:Int}:aSliceC (some sz) (.fsl cs len sz) (some (.int k a)) none none=
  if 0<=a/\a<=len then some (.fsl ((cs.drop (a.toNat*sz)).take ((len-a.toNat)*sz)) (len-a.toNat) sz)else none:=by
 simp_all [aSliceC,aSlice,bnd]
theorem Qgb {cs:List AV} {len sz:Nat} {k:IntKind} {b:Int}:aSliceC (some sz) (.fsl cs len sz) none (some (.int k b)) none=
  if 0<=b/\b<=len then some (.fsl (cs.take (b.toNat*sz)) b.toNat sz)else none:=by
 simp_all [aSliceC,aSlice,bnd]
theorem Qgc {cs:List AV} {len sz:Nat} {k k2:IntKind} {a b:Int}:aSliceC (some sz) (.fsl cs len sz) (some (.int k a)) (some (.int k2 b)) none=
  if 0<=a/\a<=b/\b<=len then some (.fsl ((cs.drop (a.toNat*sz)).take ((b.toNat-a.toNat)*sz)) (b.toNat-a.toNat) sz)else none:=by
 simp_all [aSliceC,aSlice,bnd]
theorem Qhe {b g off len sz:Nat} {k:IntKind} {a:Int}:aSliceC (some sz) (.sl b g off len sz) (some (.int k a)) none none=
  if 0<=a/\a<=len then some (.sl b g (off+a.toNat*sz) (len-a.toNat) sz)else none:=by
 simp_all [aSliceC,aSlice,bnd]
theorem Qhf {b g off len sz:Nat} {k:IntKind} {c:Int}:aSliceC (some sz) (.sl b g off len sz) none (some (.int k c)) none=
  if 0<=c/\c<=len then some (.sl b g off c.toNat sz)else none:=by
 simp_all [aSliceC,aSlice,bnd]
theorem Qhg {b g off len sz:Nat} {k k2:IntKind} {a c:Int}:aSliceC (some sz) (.sl b g off len sz) (some (.int k a)) (some (.int k2 c)) none=
  if 0<=a/\a<=c/\c<=len then some (.sl b g (off+a.toNat*sz) (c.toNat-a.toNat) sz)else none:=by
 simp_all [aSliceC,aSlice,bnd]
end Go.AM
namespace Go.AM
variable {P:Program}
def HM.tch {α:Type} (B:Nat->Prop):HM α->Prop
 | .ret _=>True
 | .fail=>True
 | .look b k=>B b/\∀x,(k x).tch B
 | .put b _ k=>B b/\k.tch B
theorem HM.Qp3 {α:Type} {B:Nat->Prop} (m:HM α):m.tch B->∀h b,b∈(m.fp h).1\/b∈(m.fp h).2->B b:=by
 induction m with
 |ret a=>intro _ h b hb;simp[HM.fp]at hb
 |fail=>intro _ h b hb;simp[HM.fp]at hb
 |look b k ih=>
  rintro⟨h1,h2⟩ h b' hb
  simp only[HM.fp,List.mem_cons]at hb
  rcases hb with(rfl|hb)|hb
  ·exact h1
  ·grind
  ·grind
 |put b x k ih=>
  rintro⟨h1,h2⟩ h b' hb
  simp only[HM.fp,List.mem_cons]at hb
  rcases hb with hb|rfl|hb
  ·grind
  ·exact h1
  ·grind
theorem HM.Qoq {α β:Type} {B:Nat->Prop} {m:HM α} {f:α->HM β} (h1:m.tch B) (h2:∀a,(f a).tch B):(m.bind f).tch B:=by
 induction m with
 |ret a=>exact h2 a
 |fail=>trivial
 |look b k ih=>exact⟨h1.1,fun x=>ih x (h1.2 x)⟩
 |put b x k ih=>exact⟨h1.1,ih h1.2⟩
theorem QlB {α:Type} {B:Nat->Prop} (o:Option α):(HM.opt o).tch B:=by cases o<;>trivial
theorem Qdo {α:Type} {B:Nat->Prop} {b g:Nat} {k:List AV->HM α} (hb:B b) (hk:∀cs,(k cs).tch B):(HM.cells b g k).tch B:=by
 refine⟨hb,fun x=>?_⟩
 match x with
 |some (.cells g' cs)=>
  simp only
  cases Nat.beq g' g<;>first|exact trivial|exact hk cs
 |some (.map _ _)=>trivial
 |some (.dead _)=>trivial
 |some (.loop ..)=>trivial
 |none=>trivial
theorem QhE {α:Type} {B:Nat->Prop} {i:Nat} {x:Nat->Blk} {k:Nat->Nat->HM α} (hb:B i) (hk:∀b g,(k b g).tch B):(HM.new .dyn i x k).tch B:=by
 refine⟨hb,fun y=>?_⟩
 match y with
 |none=>exact⟨hb,hk _ _⟩
 |some z=>trivial
def blks:AV->Option (List Nat)
 | .ptr b _ _=>some [b]
 | .sl b _ _ _ _=>some [b]
 | .map b _=>some [b]
 | .any=>none
 | .agg _=>none
 | .tup []=>some []
 | .tup _=>none
 | .fn _ _ _=>none
 | .ifc _ _=>none
 | .typed _ _ _=>none
 |_=>some []
def Pts (v:AV) (bs:List Nat):Prop:=∃cs,blks v=some cs/\∀b∈cs,b∈bs
abbrev Abs:=List (Nat×Option (List Nat))
def absT (T:Tmps):Abs->Nat->Option (List Nat)
 |[],i=>blks (lk T i)
 |(j,a)::r,i=>bif Nat.beq j i then a else absT T r i
def absO (T:Tmps) (A:Abs):Opd->Option (List Nat)
 | .t i=>absT T A i
 | .c v=>blks v
 |_=>none
def SOp.absV (i:Nat) (ax:Opd->Option (List Nat)):SOp->Option (List Nat)
 | .mov x=>ax x
 | .slice _ x _ _ _=>ax x
 | .iaddr _ _ x _=>ax x
 | .faddr _ x=>ax x
 | .alloc .dyn _=>some [i]
 | .box .dyn _=>some [i]
 | .bslice false .dyn _ _ _ _=>some [i]
 | .mkslice .dyn _ _ _ _ _=>some [i]
 | .mkmap .dyn=>some [i]
 | .append .dyn _ _ x _=>(ax x).map fun bs=>i::bs
 |_=>none
def SOp.touch (i:Nat) (ax:Opd->Option (List Nat)):SOp->Option (List Nat)
 | .load _ x=>ax x
 | .store _ x _=>ax x
 | .len _ x=>ax x
 | .alloc .dyn _=>some [i]
 | .box .dyn _=>some [i]
 | .bslice _ .dyn _ _ _ _=>some [i]
 | .mkslice .dyn _ _ _ _ _=>some [i]
 | .mkmap .dyn=>some [i]
 | .append .dyn _ _ x y=>match ax x,ax y with
  |some a,some b=>some (i::(a++b))
  |_,_=>none
 | .copy _ x y=>match ax x,ax y with
  |some a,some b=>some (a++b)
  |_,_=>none
 | .lookup _ _ _ _ x _=>ax x
 | .mupd _ _ x _ _=>ax x
 |s=>bif Nat.beq s.cls 0 then some []else none
def touches (n:Nat) (T:Tmps):List SOper->Abs->List (Option (List Nat))
 |[],_=>[]
 |s::r,A=>s.op.touch n (absO T A)::touches (n+1) T r (match s.dst with|some d=>(d,s.op.absV n (absO T A))::A|none=>A)
def pairsOK (ts:List (Option (List Nat))) (ps:List (Nat×Nat)):Bool:=
 ps.all fun p=>match ts.getD p.1 none,ts.getD p.2 none with
  |some a,some b=>a.all fun x=> !b.elem x
  |_,_=>false
section
variable {i:Nat} {T:Tmps} {ax:Opd->Option (List Nat)} {B:Nat->Prop}
theorem Qor {n:Option Nat} {v:AV} {bs:List Nat} (h:Pts v bs):(aLoad n v).tch (· ∈bs):=by
 obtain⟨cs,h1,h2⟩:=h
 unfold aLoad
 split
 ·simp only [blks, Option.some.injEq] at h1
  subst h1
  refine Qdo (h2 _ (by simp)) fun cs=>?_
  split
  ·exact QlB _
  ·split<;>trivial
 ·split
  ·exact QlB _
  ·split<;>trivial
 ·trivial
theorem Qnh {n:Nat} {v u:AV} {bs:List Nat} (h:Pts v bs):(aStore n v u).tch (· ∈bs):=by
 obtain⟨cs,h1,h2⟩:=h
 unfold aStore
 split
 ·simp only [blks, Option.some.injEq] at h1
  subst h1
  have hb:=h2 _ (List.mem_singleton.2 rfl)
  refine Qdo hb fun cs=>?_
  split
  ·exact⟨hb,trivial⟩
  ·trivial
 ·trivial
theorem Qpf {k:Nat} {v:AV} {bs:List Nat} (h:Pts v bs):(aLenC k v).tch (· ∈bs):=by
 obtain⟨cs,h1,h2⟩:=h
 unfold aLenC
 split
 ·unfold aLen
  split<;>try trivial
  simp only[blks,Option.some.injEq]at h1
  subst h1
  refine⟨h2 _ (by simp),fun y=>?_⟩
  match y with
  |some (.map g' es)=>
   simp only
   generalize Nat.beq g' _=t
   cases t<;>trivial
  |some (.cells _ _)=>trivial
  |some (.dead _)=>trivial
  |some (.loop ..)=>trivial
  |none=>trivial
 ·trivial
theorem QfC {sz:Nat} {v:AV} {bs:List Nat} {k:List AV->Nat->HM AV} (h:Pts v bs) (hs:∀b∈bs,B b) (hk:∀ys n,(k ys n).tch B):(aSrc sz v k).tch B:=by
  obtain⟨cs,h1,h2⟩:=h
  unfold aSrc
  split
  · simp only [blks, Option.some.injEq] at h1
    subst h1
    split
    · refine Qdo (hs _ (h2 _ (by simp))) fun cs => ?_
      split
      · exact hk _ _
      · trivial
    · trivial
  · split
    · exact hk _ _
    · trivial
  · exact hk _ _
  · exact hk _ _
  · exact hk _ _
  · split
    · exact hk _ _
    · trivial
  · trivial
theorem Qmo {sz bytes : Nat} {x y : AV} {a b : List Nat} (hx : Pts x a) (hy : Pts y b) : (aAppend .dyn i sz bytes x y).tch (· ∈ i :: (a ++ b)) := by
  unfold aAppend
  refine QfC hy (fun c hc=>by simp[hc]) fun ys n=>?_
  split
  · obtain ⟨cs, h1, h2⟩ := hx
    split
    · split
      · trivial
      · exact QhE (by simp) fun _ _=>trivial
    · split
      · trivial
      · exact QhE (by simp) fun _ _=>trivial
    · split<;>trivial
    · simp only [blks, Option.some.injEq] at h1
      subst h1
      have hb:=h2 _ (List.mem_singleton.2 rfl)
      split
      · refine Qdo (by simp [hb]) fun cs => ?_
        split
        · exact⟨by simp[hb],trivial⟩
        · trivial
      · trivial
    · simp[blks]at h1
    · trivial
  · trivial
theorem Qos {sz:Nat} {x y:AV} {a b:List Nat} (hx:Pts x a) (hy:Pts y b):(aCopy sz x y).tch (· ∈a++b):=by
  obtain⟨cs,h1,h2⟩:=hx
  unfold aCopy
  split
  · simp only [blks, Option.some.injEq] at h1
    subst h1
    have hb:=h2 _ (List.mem_singleton.2 rfl)
    split
    · refine QfC hy (fun c hc => by simp [hc]) fun ys n => ?_
      refine Qdo (by simp[hb]) fun cs=>?_
      split
      · exact⟨by simp[hb],trivial⟩
      · trivial
    · trivial
  · exact QfC hy (fun c hc=>by simp[hc]) fun ys n=>trivial
  · exact QfC hy (fun c hc=>by simp[hc]) fun ys n=>trivial
  · trivial
theorem Qgd {α:Type} {b g:Nat} {k:List (AV×AV)->HM α} (hb:B b) (hk:∀es,(k es).tch B):(HM.entries b g k).tch B:=by
 refine⟨hb,fun x=>?_⟩
 match x with
 |some (.map g' es)=>
  simp only
  cases Nat.beq g' g<;>first|exact trivial|exact hk es
 |some (.cells _ _)=>trivial
 |some (.dead _)=>trivial
 |some (.loop ..)=>trivial
 |none=>trivial
theorem Qmp {row ok:Bool} {ks:List LK} {z x k:AV} {bs:List Nat} (h:Pts x bs):(aLookup row ks z ok x k).tch (· ∈bs):=by
 obtain⟨cs,h1,h2⟩:=h
 unfold aLookup
 split
 ·split
  ·trivial
  ·simp only [blks, Option.some.injEq] at h1
   subst h1
   refine Qgd (h2 _ (by simp)) fun es=>?_
   split<;>trivial
  ·split<;>trivial
  ·trivial
 ·trivial
theorem Qot {row:Bool} {ks:List LK} {x k v:AV} {bs:List Nat} (h:Pts x bs):(aMapUpd row ks x k v).tch (· ∈bs):=by
 obtain⟨cs,h1,h2⟩:=h
 unfold aMapUpd
 split
 ·split
  ·simp only [blks, Option.some.injEq] at h1
   subst h1
   have hb:=h2 _ (List.mem_singleton.2 rfl)
   refine Qgd hb fun es=>?_
   split
   ·exact⟨hb,trivial⟩
   ·exact⟨hb,trivial⟩
   ·trivial
  ·trivial
 ·trivial
theorem QbK {m:HM AV} (h:m.tch B):(hval m).tch B:=HM.Qoq h fun _=>trivial
theorem Qou {s:SOp} {ts:List Nat} (hax:∀x bs,ax x=some bs->Pts (ev T x) bs) (h:s.touch i ax=some ts):s.cls≠0->(aop i T s).tch (· ∈ts)/\∀m x asg,s≠ .call m x asg:=by
 intro h0
 have new1:∀{x:Nat->Blk} {r:Nat->Nat->AV},(HM.new .dyn i x fun b g=> .ret (r b g)).tch (· ∈[i]):=fun{x r}=>QhE (by simp) fun _ _=>trivial
 cases s<;>try (exact absurd rfl h0)
 ·rename_i s z
  cases s<;>simp only[SOp.touch,SOp.cls,show Nat.beq 2 0=false from rfl,cond_false,reduceCtorEq,Option.some.injEq]at h
  subst h
  refine⟨QbK ?_,fun _ _ _=>by simp⟩
  unfold aBox;split
  ·exact new1
  ·trivial
 ·simp only[SOp.touch,SOp.cls,show Nat.beq 2 0=false from rfl,cond_false,reduceCtorEq]at h
 ·rename_i s z
  cases s<;>simp only[SOp.touch,SOp.cls,show Nat.beq 2 0=false from rfl,cond_false,reduceCtorEq,Option.some.injEq]at h
  subst h
  refine⟨QbK ?_,fun _ _ _=>by simp⟩
  unfold aBox;split
  ·exact new1
  ·trivial
 ·rename_i fz s sz len z ps
  cases s<;>simp only[SOp.touch,SOp.cls,show Nat.beq 2 0=false from rfl,cond_false,reduceCtorEq,Option.some.injEq]at h
  subst h
  refine⟨QbK ?_,fun _ _ _=>by simp⟩
  unfold aBuildSlice
  split
  ·split
   ·split
    ·split<;>trivial
    ·exact new1
   ·trivial
  ·trivial
 ·exact⟨QbK (Qor (hax _ _ h)),fun _ _ _=>by simp⟩
 ·exact⟨QbK (Qnh (hax _ _ h)),fun _ _ _=>by simp⟩
 ·simp only[SOp.touch,SOp.cls,show Nat.beq 1 0=false from rfl,cond_false,reduceCtorEq]at h
 ·simp only[SOp.touch,SOp.cls,show Nat.beq 2 0=false from rfl,cond_false,reduceCtorEq]at h
 ·simp only[SOp.touch,SOp.cls,show Nat.beq 2 0=false from rfl,cond_false,reduceCtorEq]at h
 ·simp only[SOp.touch,SOp.cls,show Nat.beq 2 0=false from rfl,cond_false,reduceCtorEq]at h
 ·simp only[SOp.touch,SOp.cls,show Nat.beq 2 0=false from rfl,cond_false,reduceCtorEq]at h
 ·simp only[SOp.touch,SOp.cls,show Nat.beq 2 0=false from rfl,cond_false,reduceCtorEq]at h
 ·simp only[SOp.touch,SOp.cls,show Nat.beq 2 0=false from rfl,cond_false,reduceCtorEq]at h
 ·simp only[SOp.touch,SOp.cls,show Nat.beq 1 0=false from rfl,cond_false,reduceCtorEq]at h
 ·rename_i s
  cases s<;>simp only[SOp.touch,SOp.cls,show Nat.beq 2 0=false from rfl,cond_false,reduceCtorEq,Option.some.injEq]at h
  subst h
  exact⟨QbK new1,fun _ _ _=>by simp⟩
 ·rename_i s sz b z l c
  cases s<;>simp only[SOp.touch,SOp.cls,show Nat.beq 2 0=false from rfl,cond_false,reduceCtorEq,Option.some.injEq]at h
  subst h
  refine⟨QbK ?_,fun _ _ _=>by simp⟩
  unfold aMakeSlice
  split
  ·split
   ·exact new1
   ·trivial
  ·trivial
 ·exact⟨QbK (Qmp (hax _ _ h)),fun _ _ _=>by simp⟩
 ·exact⟨QbK (Qot (hax _ _ h)),fun _ _ _=>by simp⟩
 ·exact⟨QbK (Qpf (hax _ _ h)),fun _ _ _=>by simp⟩
 ·rename_i s sz b x y
  cases s<;>simp only[SOp.touch,SOp.cls,show Nat.beq 2 0=false from rfl,cond_false,reduceCtorEq]at h
  split at h
  ·rename_i a b ha hb
   cases h
   exact⟨QbK (Qmo (hax _ _ ha) (hax _ _ hb)),fun _ _ _=>by simp⟩
  ·cases h
 ·rename_i sz x y
  simp only[SOp.touch]at h
  split at h
  ·rename_i a b ha hb
   cases h
   exact⟨QbK (Qos (hax _ _ ha) (hax _ _ hb)),fun _ _ _=>by simp⟩
  ·cases h
 ·rename_i m x asg
  exfalso
  simp only[SOp.touch]at h
  have:Nat.beq (SOp.call m x asg).cls 0=false:=by cases m<;>rfl
  simp_all
theorem Qge {s : SOper} {h h1 : Heap} {v : AV} {f : FP} {ts : List Nat} (hax : ∀ x bs, ax x = some bs -> Pts (ev T x) bs) (ht : s.op.touch i ax = some ts) (hs : StepV P i s T h v h1 f) :
    f.all=false/\∀b,b∈f.R\/b∈f.W->b∈ts:=by
  by_cases h0:s.op.cls=0
  · obtain ⟨k1, k2, k3⟩ := hs.cls (by omega)
    simp_all
  obtain⟨t1,t2⟩:=Qou hax ht h0
  have key:∀{s':SOp},s'=s.op->StepX P i s' T h v h1 f->f.all=false/\∀b,b∈f.R\/b∈f.W->b∈ts:=by
    rintro s' rfl ⟨out,h2,hm,ho⟩
    have fin:f=fpOf ((aop i T s.op).fp h)->f.all=false/\∀b,b∈f.R\/b∈f.W->b∈ts:=by
      rintro rfl;exact⟨rfl,fun b hb=>HM.Qp3 _ t1 h b hb⟩
    match out,ho with
    | .val u,ho=>exact fin ho.2.2
    | .call .pure f' args,ho=>exact fin ho.2.2
    | .call .borrow f' args,ho=>exact fin ho.2.2.2
    | .call .heap f' args, ho =>
      exfalso
      cases hso:s.op with
      |call m x asg=>exact t2 m x asg hso
      | _ =>
        rw[hso]at hm
        first
          |(obtain⟨u,hu,he⟩:=QaW hm;cases he)
          |(obtain⟨u,h3,hu,he⟩:=QaU hm;cases he)
          |(simp[aop,HM.run]at hm)
    | .round b' g' args, ho =>
      exfalso
      cases hso:s.op with
      |call m x asg=>exact t2 m x asg hso
      | _ =>
        rw[hso]at hm
        first
          |(obtain⟨u,hu,he⟩:=QaW hm;cases he)
          |(obtain⟨u,h3,hu,he⟩:=QaU hm;cases he)
          |(simp[aop,HM.run]at hm)
  unfold StepV at hs
  grind
theorem Pts.slice {n:Option Nat} {x v:AV} {l h m:Option AV} {bs:List Nat} (hx:Pts x bs) (hv:aSliceC n x l h m=some v):Pts v bs:=by
 obtain⟨cs,h1,h2⟩:=hx
 have key : aSlice x l h m = some v -> Pts v bs := by
  intro hv
  unfold aSlice at hv
  have nil:∀{v:AV},blks v=some []->Pts v bs:=fun h=>⟨[],h,fun b hb=>by cases hb⟩
  split at hv
  ·cases hv
  ·split at hv
   ·split at hv
    ·split at hv
     ·split at hv<;>first|(cases hv;exact nil rfl)|cases hv
     ·split at hv<;>first|(split at hv<;>first|(cases hv;first|exact⟨cs,h1,h2⟩|exact nil rfl)|cases hv)|cases hv
    ·cases hv
   ·cases hv
   ·split at hv
    ·split at hv
     ·cases hv
     ·split at hv
      ·cases hv;exact⟨cs,h1,h2⟩
      ·cases hv
    ·split at hv
     ·cases hv
     ·split at hv
      ·cases hv;exact nil rfl
      ·cases hv
    ·split at hv
     ·cases hv
     ·split at hv
      ·cases hv;exact nil rfl
      ·cases hv
    ·split at hv
     ·cases hv
     ·split at hv
      ·cases hv;exact nil rfl
      ·cases hv
    ·split at hv
     ·cases hv
     ·split at hv
      ·cases hv;exact nil rfl
      ·cases hv
    ·cases hv
 unfold aSliceC at hv
 grind
theorem Pts.iaddr {a:Option Nat} {sz:Nat} {x j v:AV} {bs:List Nat} (hx:Pts x bs) (hv:aIAddr a sz x j=some v):Pts v bs:=by
 obtain⟨cs,h1,h2⟩:=hx
 have nil:∀{v:AV},blks v=some []->Pts v bs:=fun h=>⟨[],h,fun b hb=>by cases hb⟩
 unfold aIAddr at hv
 split at hv
 ·split at hv<;>first|(split at hv<;>first|(cases hv;first|exact⟨cs,h1,h2⟩|exact nil rfl)|cases hv)|cases hv
 ·cases hv
theorem Pts.faddr {off:Nat} {x v:AV} {bs:List Nat} (hx:Pts x bs) (hv:aFAddr off x=some v):Pts v bs:=by
 obtain⟨cs,h1,h2⟩:=hx
 have nil:∀{v:AV},blks v=some []->Pts v bs:=fun h=>⟨[],h,fun b hb=>by cases hb⟩
 unfold aFAddr at hv
 split at hv
 ·cases hv;exact⟨cs,h1,h2⟩
 ·cases hv;exact nil rfl
 ·simp[blks]at h1
 ·cases hv
def HM.gives {α:Type} (R:α->Prop):HM α->Prop
 | .ret a=>R a
 | .fail=>True
 | .look _ k=>∀x,(k x).gives R
 | .put _ _ k=>k.gives R
theorem HM.Qni {α:Type} {R:α->Prop} (m:HM α):m.gives R->∀h a h1,m.run h=some (a,h1)->R a:=by
 induction m with
 |ret a=>intro hr h b h1 hm;simp only[HM.run,Option.some.injEq,Prod.mk.injEq]at hm;rw[<-hm.1];exact hr
 |fail=>intro _ h b h1 hm;simp[HM.run]at hm
 |look b k ih=>intro hr h a h1 hm;exact ih _ (hr _) h a h1 hm
 |put b x k ih=>intro hr h a h1 hm;exact ih hr _ a h1 (Qa2 hm).2
theorem Qgf {α:Type} {R:α->Prop} {b g:Nat} {k:List AV->HM α} (hk:∀cs,(k cs).gives R):(HM.cells b g k).gives R:=by
 intro x
 match x with
 |some (.cells g' cs)=>
  simp only
  cases Nat.beq g' g<;>first|exact trivial|exact hk cs
 |some (.map _ _)=>trivial
 |some (.dead _)=>trivial
 |some (.loop ..)=>trivial
 |none=>trivial
theorem Qco {α:Type} {R:α->Prop} {i:Nat} {x:Nat->Blk} {k:Nat->Nat->HM α} (hk:(k i 0).gives R):(HM.new .dyn i x k).gives R:=by
 intro y
 match y with
 |none=>exact hk
 |some z=>trivial
theorem Qnj {R:AV->Prop} {sz:Nat} {v:AV} {k:List AV->Nat->HM AV} (hk:∀ys n,(k ys n).gives R):(aSrc sz v k).gives R:=by
 unfold aSrc
 split
 ·split
  ·refine Qgf fun cs => ?_
   split
   ·exact hk _ _
   ·trivial
  ·trivial
 ·split
  ·exact hk _ _
  ·trivial
 ·exact hk _ _
 ·exact hk _ _
 ·exact hk _ _
 ·split
  ·exact hk _ _
  ·trivial
 ·trivial
theorem Qj3 {sz bytes:Nat} {x y:AV} {a:List Nat} (hx:Pts x a):(aAppend .dyn i sz bytes x y).gives fun v=>Pts v (i::a):=by
 have nil:∀{v:AV},blks v=some []->Pts v (i::a):=fun h=>⟨[],h,fun b hb=>by cases hb⟩
 unfold aAppend
 refine Qnj fun ys n=>?_
 split
 ·obtain ⟨cs, h1, h2⟩ := hx
  split
  ·split
   ·exact nil rfl
   ·exact Qco ⟨_,rfl,fun b hb=>by simp_all⟩
  ·split
   ·exact nil rfl
   ·exact Qco ⟨_,rfl,fun b hb=>by simp_all⟩
  ·split
   ·exact nil rfl
   ·trivial
  ·simp only [blks, Option.some.injEq] at h1
   subst h1
   split
   ·refine Qgf fun cs => ?_
    split
    ·exact⟨_,rfl,fun b hb=>List.mem_cons_of_mem _ (h2 b hb)⟩
    ·trivial
   ·trivial
  ·simp[blks]at h1
  ·trivial
 ·trivial
theorem Qhh {s:SOper} {h h1:Heap} {v:AV} {f:FP} {bs:List Nat} (hax:∀x bs,ax x=some bs->Pts (ev T x) bs) (ht:s.op.absV i ax=some bs) (hs:StepV P i s T h v h1 f):Pts v bs:=by
 have self:∀{v:AV},blks v=some [i]->Pts v [i]:=fun h=>⟨_,h,fun b hb=>hb⟩
 have key:∀{s':SOp},s'.absV i ax=some bs->StepX P i s' T h v h1 f->Pts v bs:=by
  rintro s' ht ⟨out,h2,hm,ho⟩
  have hv:∀{m:HM AV},aop i T s'=hval m->(m.gives fun v=>Pts v bs)->Pts v bs:=by
   grind [QaU,HM.Qni]
  have hl:∀{o:Option AV},aop i T s'=lift o->(∀u,o=some u->Pts u bs)->Pts v bs:=by
   grind [QaW]
  cases s'<;>try (simp only[SOp.absV,reduceCtorEq]at ht;done)
  ·simp only [aop, HM.run, Option.some.injEq, Prod.mk.injEq] at hm
   obtain⟨rfl,rfl⟩:=hm
   rw[ho.1];exact hax _ _ ht
  ·rename_i s z
   cases s<;>simp only[SOp.absV,reduceCtorEq,Option.some.injEq]at ht
   subst ht
   refine hv rfl ?_
   unfold aBox;split
   ·exact Qco (self rfl)
   ·trivial
  ·rename_i s z
   cases s<;>simp only[SOp.absV,reduceCtorEq,Option.some.injEq]at ht
   subst ht
   refine hv rfl ?_
   unfold aBox;split
   ·exact Qco (self rfl)
   ·trivial
  ·rename_i fz s sz len z ps
   cases fz<;>cases s<;>simp only[SOp.absV,reduceCtorEq,Option.some.injEq]at ht
   subst ht
   refine hv rfl ?_
   unfold aBuildSlice
   split
   ·split
    ·rw[if_neg (by simp)];exact Qco (self rfl)
    ·trivial
   ·trivial
  ·rename_i s
   cases s<;>simp only[SOp.absV,reduceCtorEq,Option.some.injEq]at ht
   subst ht
   exact hv rfl (Qco (self rfl))
  ·rename_i s sz b z l c
   cases s<;>simp only[SOp.absV,reduceCtorEq,Option.some.injEq]at ht
   subst ht
   refine hv rfl ?_
   unfold aMakeSlice
   split
   ·split
    ·exact Qco (self rfl)
    ·trivial
   ·trivial
  ·exact hl rfl fun u hu=>(hax _ _ ht).slice hu
  ·exact hl rfl fun u hu=>(hax _ _ ht).faddr hu
  ·exact hl rfl fun u hu=>(hax _ _ ht).iaddr hu
  ·rename_i s sz b x y
   cases s<;>simp only[SOp.absV,reduceCtorEq,Option.map_eq_some_iff]at ht
   obtain⟨a,ha,rfl⟩:=ht
   exact hv rfl (Qj3 (hax _ _ ha))
 unfold StepV at hs
 split at hs
 ·exact key ht hs
 ·obtain ⟨t, _, hs⟩ := hs
  split at hs
  ·exact key ht hs
  ·obtain⟨rfl,_⟩:=hs;exact⟨[],rfl,fun b hb=>by cases hb⟩
end
def AbsOK (T0:Tmps) (A:Abs) (T:Tmps):Prop:=∀j bs,absT T0 A j=some bs->Pts (lk T j) bs
theorem AbsOK.opd {T0 T:Tmps} {A:Abs} (h:AbsOK T0 A T):∀x bs,absO T0 A x=some bs->Pts (ev T x) bs:=by
 intro x bs hx
 cases x with
 |t i=>exact h i bs hx
 |c v=>exact⟨bs,hx,fun b hb=>hb⟩
 |f n=>cases hx
 |g n=>cases hx
theorem AbsOK.nil {T:Tmps}:AbsOK T [] T:=fun j bs h=>⟨bs,h,fun b hb=>hb⟩
theorem AbsOK.up {T0 T:Tmps} {A:Abs} {d:Nat} {v:AV} {a:Option (List Nat)} (h:AbsOK T0 A T) (hv:∀bs,a=some bs->Pts v bs):AbsOK T0 ((d,a)::A) (up T d v):=by
 intro j bs hj
 rw[lk_up]
 simp only[absT]at hj
 by_cases e:d=j
 ·simp_all
 ·have : Nat.beq d j = false := by simp_all [Bool.eq_false_iff]
  rw[this]at hj
  rw[if_neg (fun h=>e h.symm)]
  exact h j bs hj
theorem QlC {T0:Tmps}:∀{r:List SOper} {n:Nat} {A:Abs} {T:Tmps} {h:Heap} {K:Tmps->Heap->Nat->Prop} (hA:AbsOK T0 A T) (K':List FP->Tmps->Heap->Nat->Prop),
  (∀fs T h n',fs.length=r.length->(∀(j:Nat) ts,(touches n T0 r A).getD j none=some ts->(fs.getD j ⟨false,[],[]⟩).all=false/\∀b,b∈(fs.getD j ⟨false,[],[]⟩).R\/b∈(fs.getD j ⟨false,[],[]⟩).W->b∈ts)->K T h n'->K' fs T h n')->
  wpR P n r T h K->wpRF P n r T h K'
 |[],n,A,T,h,K,hA,K',hK,hw=>hK [] T h n rfl (fun j ts hj=>by simp_all) hw
 | s :: r, n, A, T, h, K, hA, K', hK, hw => by
  obtain⟨v,h1,f,hs,hr⟩:=hw
  refine⟨v,h1,f,hs,?_⟩
  have hA2:AbsOK T0 (match s.dst with|some d=>(d,s.op.absV n (absO T0 A))::A|none=>A) (putD T s.dst v):=by
   cases s.dst with
   |none=>exact hA
   |some d=>exact AbsOK.up hA fun bs hb=>Qhh hA.opd hb hs
  refine QlC hA2 (fun fs T h n=>K' (f::fs) T h n) (fun fs T h n' hl hf hk=>?_) hr
  refine hK (f::fs) T h n' (by simp[hl]) (fun j ts hj=>?_) hk
  cases j with
  |zero=>
   simp only[touches,List.getD_cons_zero]at hj⊢
   exact Qge hA.opd hj hs
  |succ j=>
   simp only[touches,List.getD_cons_succ]at hj⊢
   exact hf j ts hj
inductive PairsOK (n:Nat) (T:Tmps) (ops:List SOper) (ps:List (Nat×Nat)):Prop
 |mk (h:pairsOK (touches n T ops []) ps=true)
theorem Qhi {N:NM} {ops:List SOper} {p:Nat×Nat} {ps:List (Nat×Nat)} {dead:List Nat} {fs:List Fr} {n:Nat} {T:Tmps} {h:Heap} {Q:QC} (hp:PairsOK n T ops (p::ps)):
  wS P N (.region ops (p::ps) dead) fs n T h Q=wR P N ops dead fs n T h Q:=by
 obtain⟨hp⟩:=hp
 apply propext;constructor
 ·intro hw
  have:∀{r:List SOper} {n:Nat} {T:Tmps} {h:Heap} {K:List FP->Tmps->Heap->Nat->Prop} {K':Tmps->Heap->Nat->Prop},(∀fs T h n,K fs T h n->K' T h n)->wpRF P n r T h K->wpR P n r T h K':=by
   intro r
   induction r with
   |nil=>intro n T h K K' hK hw;exact hK _ _ _ _ hw
   |cons s r ih=>
    rintro n T h K K' hK ⟨v,h1,f,hs,hr⟩
    exact⟨v,h1,f,hs,ih (fun fs T h n hk=>hK _ _ _ _ hk) hr⟩
  exact this (fun fs' T h n hk=>hk.2) hw
 ·intro hw
  refine QlC AbsOK.nil _ (fun fs' T h n' hl hf hk=>⟨?_,hk⟩) hw
  rw[List.all_eq_true]
  intro q hq
  have:=List.all_eq_true.1 hp q hq
  split at this
  ·rename_i a b ha hb
   obtain⟨f1,f2⟩:=hf _ _ ha
   obtain⟨g1,g2⟩:=hf _ _ hb
   have hd:∀x y,x∈a->y∈b->x≠y:=by
    grind
   have dj:∀xs ys:List Nat,(∀x∈xs,∀y∈ys,x≠y)->disj xs ys=true:=by
    intro xs ys hh
    unfold disj
    grind
   grind [FP.apart]
  ·cases this
theorem FrzL.nil {h:Heap}:FrzL h [] []:=trivial
theorem FrzL.cons {h:Heap} {x y:AV} {xs ys:List AV} (h1:FrzTo h x y) (h2:FrzL h xs ys):FrzL h (x::xs) (y::ys):=⟨h1,h2⟩
end Go.AM
namespace Go.AM
variable {P:Program}
def setL:HL->Heap->Heap
 |[],h=>h
 |(k,x)::r,h=>(setL r h).set k x
theorem Qj4 {h:Heap}:setL [] h=h:=rfl
theorem QiD {k:Nat} {x:Blk} {r:HL} {h:Heap}:setL ((k,x)::r) h=(setL r h).set k x:=rfl
theorem Qj5 {b:Nat} {h:Heap} (hf:Fresh b h):∀{L:HL},(L.all fun p=>Nat.ble b p.1&&Nat.blt p.1 1099511627775)=true->∀k,(setL L h).get k=if k<b then h.get k else(hp L).get k
 |[],_,k=>by
  simp only[setL,hp]
  split
  ·rfl
  ·rw[hf k (by omega),get_e]
 |(j,x)::r,hL,k=>by
  simp only[List.all_cons,Bool.and_eq_true,Nat.ble_eq,Nat.blt_eq]at hL
  obtain⟨⟨h1,h2⟩,h3⟩:=hL
  have ih:=Qj5 hf (L:=r) (by simpa using h3) k
  simp only[setL,hp]
  by_cases e:k=j
  ·simp_all [Qbj,if_neg]
  simp_all [Qbt]
theorem HSpec.of_O {f b:Nat} {args:List AV} {v:AV} {h:Heap} {L:HL} (hn:noRefs args=true) (hs:HSpec P f args .e v (hp L)) (hf:Fresh b h) (hL:(L.all fun p=>Nat.ble b p.1&&Nat.blt p.1 1099511627775)=true):HSpec P f args h v (setL L h):=by
 obtain⟨hc,hs⟩:=hs
 refine⟨hc,fun c w cargs H ha=>?_⟩
 refine(hs (only c.F) w cargs (HRel.only H.inF) (VRels.noRef (c:=c) (c':=only c.F) (fun _ h=>h) _ _ hn ha)).mono ?_
 rintro e w' ⟨cv,c',rfl,E,H',V⟩
 have hnewO:∀k,c'.O k->w.heap.size<=k:=fun k hO=>(E.own k hO).elim (fun h=>h.elim) id
 have hnewF:∀k,c'.F k->c.F k\/w.heap.size<=k:=fun k hF=>(E.frzNew k hF).elim .inl fun h=>h.elim (fun h=>h.elim) .inr
 have hkeep:∀k,k<w.heap.size->w'.heap[k]?=w.heap[k]?:=fun k hk=>E.keep k hk (fun h=>h)
 have hg:=Qj5 hf hL
 have hlow:∀k,(hp L).get k≠none->b<=k:=fun k hk=>by
  rcases Nat.lt_or_ge k b with h1|h1
  ·exfalso
   apply hk
   have:∀{M:HL},(M.all fun p=>Nat.ble b p.1&&Nat.blt p.1 1099511627775)=true->(hp M).get k=none:=by
    intro M
    induction M with
    |nil=>intro _;exact get_e
    |cons q M ih=>
     obtain⟨j,x⟩:=q
     intro hM
     simp only[List.all_cons,Bool.and_eq_true,Nat.ble_eq,Nat.blt_eq]at hM
     rw[QcI,Qbt hM.1.2 (by omega)];exact ih (by grind)
   exact this hL
  ·exact h1
 have hrlow:∀k g,k<b->c'.ρ k g=none:=fun k g hk=>by
  have:(hp L).get k=none:=by
   grind
  exact H'.fresh k this g
 have hrhigh:∀k g,b<=k->c.ρ k g=none:=fun k g hk=>H.fresh k (hf k hk) g
 let c2:Ctx (okc P):={ρ:=fun k g=>if k<b then c.ρ k g else c'.ρ k g,F:=c'.F,O:=fun k=>c.O k\/c'.O k,base:=c.base}
 have hr1:∀k g,k<b->c2.ρ k g=c.ρ k g:=fun k g hk=>if_pos hk
 have hr2:∀k g,b<=k->c2.ρ k g=c'.ρ k g:=fun k g hk=>if_neg (by omega)
 have hx1:∀k g p,c.ρ k g=some p->c2.ρ k g=some p:=fun k g p hp=>by
  grind
 have hx2:∀k g p,c'.ρ k g=some p->c2.ρ k g=some p:=fun k g p hp=>by
  grind
 have E2:Evo c w c2 w':=⟨E.os,E.tape,E.output,E.size,E.shape,fun k hk _=>hkeep k hk,hx1,fun k hk=>E.frz k hk,fun k hk=>(hnewF k hk).elim .inl fun h=> .inr (.inr h),fun k hk=>hk.elim .inl fun h=> .inr (hnewO k h),rfl⟩
 have X2:Ext c' w' c2 w':=⟨hx2,fun _ h=>h,fun k _ _ h=>h,fun k C e fr h=>⟨C,fr,h,rfl⟩⟩
 refine⟨cv,c2,rfl,E2,?_,VRel.mono X2 _ _ V⟩
 refine⟨fun k hk g=>?_,fun k x hk g hlt=>?_,fun k x hk=>?_,?_,fun k hF hO=>?_,fun k hF=>H'.inF k hF,fun k hO=>hO.elim (fun h=>Nat.lt_of_lt_of_le (H.inO k h) E.size) (H'.inO k)⟩
 ·rw [hg k] at hk
  split at hk
  ·rename_i h1;rw[hr1 k g h1];exact H.fresh k hk g
  ·rename_i h1;rw[hr2 k g (by omega)];exact H'.fresh k hk g
 ·rw [hg k] at hk
  split at hk
  ·rename_i h1;rw[hr1 k g h1];exact H.later k x hk g hlt
  ·rename_i h1;rw[hr2 k g (by omega)];exact H'.later k x hk g hlt
 ·rw [hg k] at hk
  split at hk
  ·refine BRel.mono (E2.ext H.disj) (fun cb base hd hp => ?_) (H.blk k x hk)
   have hO:=H.owned ⟨x,hk,rfl,hd⟩ hp
   exact⟨.inl hO,hkeep cb (H.inO _ hO)⟩
  ·refine BRel.mono X2 (fun cb base hd hp => ?_) (H'.blk k x hk)
   have hO:=H'.owned ⟨x,hk,rfl,hd⟩ hp
   grind
 ·intro b1 g1 b2 g2 cb base1 base2 l1 l2 p1 p2
  have key:∀k g base,Live (setL L h) k g->c2.ρ k g=some (.loc cb base)->(k<b/\Live h k g/\c.ρ k g=some (.loc cb base)/\cb<w.heap.size)\/(b<=k/\Live (hp L) k g/\c'.ρ k g=some (.loc cb base)/\w.heap.size<=cb):=by
   rintro k g base ⟨x,hk,rfl,hd⟩ hp
   rw[hg k]at hk
   split at hk
   ·rename_i h1
    rw[hr1 k _ h1]at hp
    exact .inl ⟨h1,⟨x,hk,rfl,hd⟩,hp,H.inO _ (H.owned ⟨x,hk,rfl,hd⟩ hp)⟩
   ·rename_i h1
    rw[hr2 k _ (by omega)]at hp
    exact .inr ⟨by omega,⟨x,hk,rfl,hd⟩,hp,hnewO _ (H'.owned ⟨x,hk,rfl,hd⟩ hp)⟩
  rcases key b1 g1 base1 l1 p1 with⟨k1,k2,k3,k4⟩|⟨k1,k2,k3,k4⟩<;>rcases key b2 g2 base2 l2 p2 with⟨j1,j2,j3,j4⟩|⟨j1,j2,j3,j4⟩
  ·exact H.inj _ _ _ _ _ _ _ k2 j2 k3 j3
  ·omega
  ·omega
  ·exact H'.inj _ _ _ _ _ _ _ k2 j2 k3 j3
 ·rcases hO with hO | hO
  ·rcases hnewF k hF with h1 | h1
   ·exact H.disj k h1 hO
   ·have:=H.inO k hO;omega
  ·exact H'.disj k hF hO
theorem HSpec.Qer {f:Nat} {sf:SFn} {args:List AV} {v:AV} {L:HL} (n:Nat) (hok:okFn P f sf=true) (hl:Nat.ble args.length sf.n=true)
  (hw:wS P ⟨sf.n,0⟩ sf.body [] n (argT 0 args) .e fun e T k _=>(e= .normal\/e= .ret)/\∃vs,resV T k sf.res=some vs/\Rec 0 [(0,v)] L [(0,resOf vs)] k):HSpec P f args .e v (hp L):=by
 refine HSpec.of_W2 (m:=0) hok (Nat.le_of_ble_eq_true hl) (fun b _=>get_e) ((wpC.toW hw).mono ?_)
 rintro e B ⟨n',h1,vs,h2,ps,ho,hro,hb,ht⟩
 exact⟨h1,vs,_,h2,Rec.maps ho hb,Rec.heap ho hb,Rec.dom ho hro,ht 0⟩
end Go.AM
namespace Go.AM
theorem wV:type_of% @words/\type_of% @wordsN/\type_of% @wordsR/\type_of% @Qhi/\type_of% @Qf9/\type_of% @Qee/\type_of% @Qga/\type_of% @Qgb/\type_of% @Qgc/\type_of% @Qhe/\type_of% @Qhf/\type_of% @Qhg/\type_of% @QiD/\type_of% @Qj4/\type_of% @SX.exit.injEq/\type_of% @if_true.{1}/\type_of% @if_false.{1}/\type_of% @ne_eq.{1}:=
 ⟨@words,@wordsN,@wordsR,@Qhi,@Qf9,@Qee,@Qga,@Qgb,@Qgc,@Qhe,@Qhf,@Qhg,@QiD,@Qj4,@SX.exit.injEq,@if_true,@if_false,@ne_eq⟩
theorem gg {p:Prop} (h:p:=by first|(simp(disch:=omega) only[Qbj,Qbt,QcI];done)|(simp(disch:=omega) only[Qbj,Qbt,QcI];rfl)):p:=h
end Go.AM
namespace Go.AM
theorem Qj6 {b:Bool}:(AV.bool b).cells=[.bool b]:=rfl
theorem Qnk {b:Bool}:(AV.bool b).one=true:=rfl
theorem Qnl {b:Bool}:(AV.bool b).boxable=true:=rfl
theorem Qj7 {b g o:Nat}:aNil (.ptr b g o)=some (.ptr b g o):=rfl
theorem QiE {cs:List AV}:aNil (.fptr cs)=some (.fptr cs):=rfl
end Go.AM
namespace Go.AM.SD
open Go.AM
def ints (l:List Int):List AV:=l.map (.int .i64)
abbrev sli (l:List Int):AV:= .fsl (ints l) l.length 1
theorem Qaa (l:List Int):noRefs (ints l)=true:=by
 induction l with
 |nil=>rfl
 |cons x l ih=>simp only[ints,List.map_cons,noRefs,noRef,Bool.true_and];exact ih
theorem QeN {l:List Int}:(ints l).length=l.length:=by simp[ints]
theorem lenW:type_of% @List.length_map.{0,0}/\type_of% @List.length_append.{0}/\type_of% @List.length_cons.{0}/\type_of% @List.length_nil.{0}/\type_of% @QeN:=⟨@List.length_map.{0,0},@List.length_append.{0},@List.length_cons.{0},@List.length_nil.{0},@QeN⟩
theorem QaR {l:List Int} {i:Nat} {x:Int} (h:l[i]?=some x):((ints l).drop i).head?=some (.int .i64 x):=by
 rw[List.head?_drop];simp[ints,h]
abbrev nz (l:List Nat):List Int:=l.map fun x:Nat=>(x:Int)
theorem nz_at {l:List Nat} {i x:Nat} (h:l[i]?=some x):(nz l)[i]?=some (x:Int):=by simp[nz,h]
theorem Qaj {α:Type} {l:List α} {i:Nat} (h:i<l.length):∃x,l[i]?=some x:=⟨l[i],List.getElem?_eq_getElem h⟩
theorem Qah {a b:List AV}:noRefs (a++b)=(noRefs a&&noRefs b):=by
 induction a with
 |nil=>simp[noRefs]
 |cons x a ih=>simp only[List.cons_append,noRefs,ih,Bool.and_assoc]
theorem Qa3 {α:Type} {f:α->List AV} (h:∀x,noRefs (f x)=true) (l:List α):noRefs (l.flatMap f)=true:=by
 induction l with
 |nil=>rfl
 |cons x l ih=>rw[List.flatMap_cons,Qah,h,ih];rfl
theorem QbD {α:Type} {f:α->List AV} {k:Nat} (h:∀x,(f x).length=k) (l:List α):(l.flatMap f).length=l.length*k:=by
 induction l with
 |nil=>simp
 |cons x l ih=>rw[List.flatMap_cons,List.length_append,h,ih,List.length_cons,Nat.succ_mul];omega
theorem Qbr {α:Type} {f:α->List AV} {k:Nat} (h:∀x,(f x).length=k):∀{l:List α} {i:Nat} {x:α},l[i]?=some x->(l.flatMap f).drop (i*k)=f x++(l.drop (i+1)).flatMap f
 |[],_,_,hx=>by simp at hx
 |y::l,0,x,hx=>by
  simp at hx;subst hx;simp
 |y::l,i+1,x,hx=>by
  simp at hx
  rw[List.flatMap_cons,List.drop_append,h,List.drop_of_length_le (by rw[h,Nat.succ_mul];omega),List.nil_append]
  have:(i+1)*k-k=i*k:=by rw[Nat.succ_mul];omega
  rw[this,Qbr h hx,List.drop_succ_cons]
structure Eg where
 fr:Int
 ev:Int
 to:Int
deriving DecidableEq
def egC (e:Eg):List AV:=[.int .i64 e.fr,.int .i64 e.ev,.int .i64 e.to]
abbrev egs (l:List Eg):AV:= .fsl (l.flatMap egC) l.length 3
theorem Qaw (l:List Eg):noRefs (l.flatMap egC)=true:=Qa3 (fun x=>rfl) l
theorem Qbw (l:List Eg):noRef (egs l)=true:=by simp only[noRef];exact Qaw l
theorem Qc9 {l:List Eg} {i:Nat} {e:Eg} (h:l[i]?=some e):(l.flatMap egC).drop (i*3)= .int .i64 e.fr:: .int .i64 e.ev:: .int .i64 e.to::(l.drop (i+1)).flatMap egC:=Qbr (f:=egC) (k:=3) (fun _=>rfl) h
theorem Qat (l:List Int):noRef (sli l)=true:=by simp only[noRef];exact Qaa l
structure Au where
 al:List Int
 n:Int
 ms:List Int
 es:List Eg
abbrev auV (a:Au):AV:= .agg [sli a.al,.int .i64 a.n,sli a.ms,egs a.es]
def eg (e:Ed):Eg:=⟨e.1,e.2.1,e.2.2⟩
def au (a:Aut):Au:=⟨nz a.al,a.n,nz a.ms,a.es.map eg⟩
def rmC (r:Rm):List AV:=[.int .i64 r.st,.int .i64 r.rank,.int .i64 r.reason,.int .i64 r.ev]
theorem Qay (l:List Rm):noRefs (l.flatMap rmC)=true:=Qa3 (fun x=>rfl) l
end Go.AM.SD
namespace Go.AM.SD
def edC (e:Ed):List AV:=[.int .i64 (e.1:Int),.int .i64 (e.2.1:Int),.int .i64 (e.2.2:Int)]
abbrev egsN (l:List Ed):AV:= .fsl (l.flatMap edC) l.length 3
theorem Qaq (l:List Ed):noRefs (l.flatMap edC)=true:=Qa3 (fun x=>rfl) l
theorem Qa5 (l:List Ed):noRef (egsN l)=true:=by simp only[noRef];exact Qaq l
theorem Qbk {l:List Ed} {i:Nat} {e:Ed} (h:l[i]?=some e):(l.flatMap edC).drop (i*3)= .int .i64 (e.1:Int):: .int .i64 (e.2.1:Int):: .int .i64 (e.2.2:Int)::(l.drop (i+1)).flatMap edC:=Qbr (f:=edC) (k:=3) (fun _=>rfl) h
theorem Qpg (l:List Ed):egs (l.map eg)=egsN l:=by
 unfold egs egsN
 rw[List.length_map,List.flatMap_map];rfl
abbrev sliN (l:List Nat):AV:= .fsl (ints (nz l)) l.length 1
theorem Qcy (l:List Nat):sli (nz l)=sliN l:=by unfold sli sliN;rw[List.length_map]
theorem Qaf (l:List Nat):noRef (sliN l)=true:=by simp only[noRef];exact Qaa _
theorem Qbf {l:List Nat} {i x:Nat} (h:l[i]?=some x):((ints (nz l)).drop i).head?=some (.int .i64 (x:Int)):=QaR (nz_at h)
abbrev aV (a:Aut):AV:= .agg [sliN a.al,.int .i64 (a.n:Int),sliN a.ms,egsN a.es]
theorem Qp4 (a:Aut):auV (au a)=aV a:=by
 show AV.agg [sli (nz a.al),.int .i64 (a.n:Int),sli (nz a.ms),egs (a.es.map eg)]=_
 rw[Qcy,Qcy,Qpg]
theorem Qda (a:Aut):noRef (aV a)=true:=by rw[aV,noRef,noRefs,noRefs,noRefs,noRefs,Qaf,Qaf,Qa5];rfl
def bls (l:List Bool):List AV:=l.map .bool
theorem Qau (l:List Bool):noRefs (bls l)=true:=by
 induction l with
 |nil=>rfl
 |cons x l ih=>simp only[bls,List.map_cons,noRefs,noRef,Bool.true_and];exact ih
theorem QlD {l:List Bool}:(bls l).length=l.length:=by simp[bls]
theorem QaV {a b:List Int}:ints (a++b)=ints a++ints b:=by simp[ints]
theorem Qa9 {a b:List Nat}:nz (a++b)=nz a++nz b:=by simp
theorem Qes {α:Type} {l:List α} {x:α} (h:x∈l):∃j:Nat,l[j]?=some x/\j<l.length:=by
 obtain⟨j,hj⟩:=List.mem_iff_getElem?.1 h
 exact⟨j,hj,(List.getElem?_eq_some_iff.1 hj).1⟩
theorem Qj8 {l:List Nat} {x:Nat}:decide ((x:Int)∈nz l)=l.contains x:=by
 have:(x:Int)∈nz l↔x∈l:=⟨fun h=>by
  obtain⟨y,hy,e⟩:=List.mem_map.1 h
  have e:y=x:=by omega
  exact e▸hy,fun h=>List.mem_map.2 ⟨x,h,rfl⟩⟩
 by_cases h:x∈l
 ·rw[decide_eq_true (this.2 h)];simp[h]
 ·rw[decide_eq_false fun h2=>h (this.1 h2)];simp[h]
end Go.AM.SD
namespace Go.AM
theorem Qj9 {s:List UInt8}:(AV.str s).cells=[.str s]:=rfl
theorem Qnm {s:List UInt8}:(AV.str s).one=true:=rfl
theorem Qnn {s:List UInt8}:(AV.str s).boxable=true:=rfl
theorem QiF {a b:List UInt8}:aBin .add (.str a) (.str b)=if a.length+b.length<=140737488355328 then some (.str (a++b))else none:=rfl
open SD
theorem wW:type_of% @Qfp/\type_of% @wordsM/\type_of% @Qj7/\type_of% @QiE/\type_of% @Int.one_mul/\type_of% @QlD/\type_of% @QeN/\type_of% @Qj6/\type_of% @Qnk/\type_of% @Qnl/\type_of% @List.length_replicate.{0}/\type_of% @Qj9/\type_of% @Qnm/\type_of% @Qnn/\type_of% @QjG/\type_of% @Qm4/\type_of% @QdT/\type_of% @QiF:=
 ⟨@Qfp,@wordsM,@Qj7,@QiE,@Int.one_mul,@QlD,@QeN,@Qj6,@Qnk,@Qnl,@List.length_replicate,@Qj9,@Qnm,@Qnn,@QjG,@Qm4,@QdT,@QiF⟩
end Go.AM
namespace Go.AM
variable {P:Program}
noncomputable section
structure FFn where
 n:Nat
 res:List SRes
 body:FCode
def FFn.slim (f:FFn):SFn:=⟨f.n,f.res,f.body.slim⟩
structure Ans (α:Type) where
 bad:α
 asm:List AV->List AV->α->α
 holds:α->Prop
def ansB:Ans Bool:=⟨false,fun _ _ _=>false,fun b=>b=true⟩
structure Ans.OK {α:Type} (A:Ans α):Prop where
 bad:¬A.holds A.bad
 asm:∀x y p,A.holds (A.asm x y p)->x=y/\A.holds p
theorem QlE:ansB.OK:=⟨fun h=>(by cases h),fun _ _ _ h=>(by cases h)⟩
variable {α:Type}
abbrev ifB (c:Bool) (a b:α):α:=@Bool.rec (fun _=>α) b a c
theorem QaG (c:Bool) (a b:α):ifB c a b=if c=true then a else b:=by cases c<;>rfl
def fNat (m:Nat) (k:Nat->α):α:=@Nat.rec (fun _=>α) (k 0) (fun n _=>k (Nat.succ n)) m
theorem Qbx (m:Nat) (k:Nat->α):fNat m k=k m:=by cases m<;>rfl
def fInt (n:Int) (k:Int->α):α:=@Int.rec (fun _=>α) (fun m=>fNat m fun m=>k (.ofNat m)) (fun m=>fNat m fun m=>k (.negSucc m)) n
theorem Qph (n:Int) (k:Int->α):fInt n k=k n:=by cases n<;>simp[fInt,Qbx]
def fBool (b:Bool) (k:Bool->α):α:=@Bool.rec (fun _=>α) (k false) (k true) b
theorem QcB (b:Bool) (k:Bool->α):fBool b k=k b:=by cases b<;>rfl
def fList {β:Type} (l:List β) (k:List β->α):α:=@List.rec β (fun _=>(List β->α)->α) (fun k=>k []) (fun x _ ih k=>ih fun r=>k (x::r)) l k
theorem QcC {β:Type} (l:List β) (k:List β->α):fList l k=k l:=by
 have:∀(l:List β) (k:List β->α),@List.rec β (fun _=>(List β->α)->α) (fun k=>k []) (fun x _ ih k=>ih fun r=>k (x::r)) l k=k l:=by
  intro l
  induction l with
  |nil=>intro k;rfl
  |cons x r ih=>intro k;exact ih _
 exact this l k
def fAV (v:AV) (k:AV->α):α:=
 match v with
 | .int t n=>fInt n fun n=>k (.int t n)
 | .bool b=>fBool b fun b=>k (.bool b)
 | .any=>k .any
 | .str s=>fList s fun s=>k (.str s)
 | .agg cs=>fList cs fun cs=>k (.agg cs)
 | .tup cs=>fList cs fun cs=>k (.tup cs)
 | .nilptr=>k .nilptr
 | .ptr b g o=>fNat o fun o=>k (.ptr b g o)
 | .fptr cs=>fList cs fun cs=>k (.fptr cs)
 | .nilsl=>k .nilsl
 | .sl b g o l s=>fNat o fun o=>fNat l fun l=>k (.sl b g o l s)
 | .fsl cs l s=>fNat l fun l=>fList cs fun cs=>k (.fsl cs l s)
 | .esl=>k .esl
 | .nsl=>k .nsl
 | .nilmap=>k .nilmap
 | .map b g=>k (.map b g)
 | .fmap x y=>fList x fun x=>fList y fun y=>k (.fmap x y)
 | .nilfn=>k .nilfn
 | .fn f x y=>fList x fun x=>fList y fun y=>k (.fn f x y)
 | .yld b g=>k (.yld b g)
 | .nilif=>k .nilif
 | .ifc t v=>k (.ifc t v)
 | .typed t n v=>fNat t fun t=>fNat n fun n=>k (.typed t n v)
theorem QcU (v:AV) (k:AV->α):fAV v k=k v:=by
 unfold fAV
 grind [Qph,QcB,QcC,Qbx]
def fBlk (x:Blk) (k:Blk->α):α:=
 match x with
 | .cells g cs=>fList cs fun cs=>k (.cells g cs)
 |x=>k x
theorem Qpi (x:Blk) (k:Blk->α):fBlk x k=k x:=by
 unfold fBlk;grind [QcC]
def lkK (T:Tmps) (i:Nat) (k:AV->α):α:=@List.rec (Nat×AV) (fun _=>α) (k .any) (fun p _ ih=>ifB (Nat.beq p.1 i) (k p.2) ih) T
theorem Qet (T:Tmps) (i:Nat) (k:AV->α):lkK T i k=k (lk T i):=by
 induction T with
 |nil=>rfl
 |cons p T ih=>
  show ifB (Nat.beq p.1 i) (k p.2) (lkK T i k)=_
  rw[ih,QaG,Qa7]
  by_cases h:p.1=i
  ·subst h;simp
  ·simp_all [Bool.eq_false_iff]
def evK (T:Tmps) (x:Opd) (k:AV->α):α:=@Opd.rec (fun _=>α) (fun i=>lkK T i k) (fun v=>k v) (fun n=>k (.fn n [] [])) (fun _=>k .any) x
theorem Qbn (T:Tmps) (x:Opd) (k:AV->α):evK T x k=k (ev T x):=by
 cases x
 ·exact Qet _ _ _
 ·rfl
 ·rfl
 ·rfl
def upR (T:Tmps) (i:Nat) (v:AV) (k:Tmps->α):α:=
 @List.rec (Nat×AV) (fun _=>(Tmps->α)->α) (fun k=>k [(i,v)]) (fun p r ih k=>ifB (Nat.beq p.1 i) (k ((i,v)::r)) (ih fun r'=>k (p::r'))) T k
theorem Qdp (T:Tmps) (i:Nat) (v:AV) (k:Tmps->α):upR T i v k=k (up T i v):=by
 have:∀(T:Tmps) (k:Tmps->α),@List.rec (Nat×AV) (fun _=>(Tmps->α)->α) (fun k=>k [(i,v)]) (fun p r ih k=>ifB (Nat.beq p.1 i) (k ((i,v)::r)) (ih fun r'=>k (p::r'))) T k=k (up T i v):=by
  intro T
  induction T with
  |nil=>intro k;rfl
  |cons p T ih=>
   intro k
   show ifB (Nat.beq p.1 i) (k ((i,v)::T)) (@List.rec (Nat×AV) (fun _=>(Tmps->α)->α) (fun k=>k [(i,v)]) (fun p r ih k=>ifB (Nat.beq p.1 i) (k ((i,v)::r)) (ih fun r'=>k (p::r'))) T fun r'=>k (p::r'))=_
   rw[ih,QaG,QhB]
   by_cases h:p.1=i
   ·subst h;simp
   ·simp_all [Bool.eq_false_iff]
 exact this T k
def putS (nw:Bool) (T:Tmps) (dst:Option Nat) (v:AV) (k:Tmps->α):α:=
 @Option.rec Nat (fun _=>α) (k T) (fun d=>ifB nw (k ((d,v)::T)) (upR T d v k)) dst
theorem QiG (nw:Bool) (T:Tmps) (dst:Option Nat) (v:AV) (k:Tmps->α):∃T',putS nw T dst v k=k T'/\∀i,lk T' i=lk (putD T dst v) i:=by
 cases dst with
 |none=>exact⟨T,rfl,fun _=>rfl⟩
 | some d =>
  cases nw with
  |false=>exact⟨up T d v,Qdp T d v k,fun _=>rfl⟩
  |true=>
   refine⟨(d,v)::T,rfl,fun i=>?_⟩
   rw[Qa7,QbS]
   by_cases h:d=i
   ·subst h;simp
   ·simp_all
def rmR (m:Nat) (T:Tmps) (k:Tmps->α):α:=
 @List.rec (Nat×AV) (fun _=>(Tmps->α)->α) (fun k=>k []) (fun p r ih k=>ifB (Nat.beq (Nat.land (Nat.shiftRight m p.1) 1) 1) (ih k) (ih fun r'=>k (p::r'))) T k
def rmM (m:Nat):Tmps->Tmps
 |[]=>[]
 |p::r=>if Nat.beq (Nat.land (Nat.shiftRight m p.1) 1) 1=true then rmM m r else p::rmM m r
theorem Qno (m:Nat) (T:Tmps) (k:Tmps->α):rmR m T k=k (rmM m T):=by
 have:∀(T:Tmps) (k:Tmps->α),@List.rec (Nat×AV) (fun _=>(Tmps->α)->α) (fun k=>k []) (fun p r ih k=>ifB (Nat.beq (Nat.land (Nat.shiftRight m p.1) 1) 1) (ih k) (ih fun r'=>k (p::r'))) T k=k (rmM m T):=by
  intro T
  induction T with
  |nil=>intro k;rfl
  |cons p T ih=>
   intro k
   show ifB (Nat.beq (Nat.land (Nat.shiftRight m p.1) 1) 1) (@List.rec (Nat×AV) (fun _=>(Tmps->α)->α) (fun k=>k []) (fun p r ih k=>ifB (Nat.beq (Nat.land (Nat.shiftRight m p.1) 1) 1) (ih k) (ih fun r'=>k (p::r'))) T k) (@List.rec (Nat×AV) (fun _=>(Tmps->α)->α) (fun k=>k []) (fun p r ih k=>ifB (Nat.beq (Nat.land (Nat.shiftRight m p.1) 1) 1) (ih k) (ih fun r'=>k (p::r'))) T fun r'=>k (p::r'))=_
   rw[ih,ih,QaG]
   simp only[rmM]
   split<;>rfl
 exact this T k
theorem QlF (m:Nat) (T:Tmps):Sub (rmM m T) T:=by
 have dead:∀(T:Tmps) (i:Nat),Nat.beq (Nat.land (Nat.shiftRight m i) 1) 1=true->lk (rmM m T) i= .any:=by
  intro T i hi
  induction T with
  |nil=>rfl
  | cons p T ih =>
   simp only[rmM]
   split
   ·exact ih
   ·rename_i h
    rw[Qa7,if_neg (by grind)];exact ih
 have live:∀(T:Tmps) (i:Nat),¬Nat.beq (Nat.land (Nat.shiftRight m i) 1) 1=true->lk (rmM m T) i=lk T i:=by
  intro T i hi
  induction T with
  |nil=>rfl
  | cons p T ih =>
   simp only[rmM]
   split
   ·rename_i h
    rw[Qa7,if_neg (by grind)];exact ih
   ·grind [Qa7]
 intro i
 grind
def getR {β:Type} (t:Tr β) (b:Nat) (k:Option β->α):α:=
 @Tr.rec β (fun _=>Nat->α) (fun _=>k none) (fun _ v _ il ir b=>ifB (Nat.beq b 0) (k v) (ifB (Nat.beq (Nat.mod b 2) 1) (il (Nat.div b 2)) (ir (Nat.sub (Nat.div b 2) 1)))) t b
theorem QbI {β:Type} (t:Tr β) (b:Nat) (k:Option β->α):getR t b k=k (t.get b):=by
 induction t generalizing b with
 |e=>rfl
 |n l v r il ir=>
  show ifB (Nat.beq b 0) (k v) (ifB (Nat.beq (Nat.mod b 2) 1) (getR l (Nat.div b 2) k) (getR r (Nat.sub (Nat.div b 2) 1) k))=_
  rw[il,ir,QaG,QaG]
  simp only[Tr.get]
  have e1:Nat.mod b 2=b % 2:=rfl
  have e2:Nat.div b 2=b/2:=rfl
  have e3:Nat.sub (b/2) 1=b/2-1:=rfl
  rw[e1,e2,e3]
  cases Nat.beq b 0<;>cases Nat.beq (b % 2) 1<;>rfl
def setE {β:Type} (f:Nat) (b:Nat) (x:β) (k:Tr β->α):α:=
 @Nat.rec (fun _=>Nat->(Tr β->α)->α) (fun _ k=>k .e) (fun _ ih b k=>ifB (Nat.beq b 0) (k (.n .e (some x) .e)) (ifB (Nat.beq (Nat.mod b 2) 1) (ih (Nat.div b 2) fun l=>k (.n l none .e)) (ih (Nat.sub (Nat.div b 2) 1) fun r=>k (.n .e none r)))) f b k
theorem Qpj {β:Type} (f:Nat) (b:Nat) (x:β) (k:Tr β->α):setE f b x k=k (Tr.setF f .e b x):=by
 induction f generalizing b k with
 |zero=>rfl
 |succ f ih=>
  show ifB (Nat.beq b 0) (k (.n .e (some x) .e)) (ifB (Nat.beq (Nat.mod b 2) 1) (setE f (Nat.div b 2) x fun l=>k (.n l none .e)) (setE f (Nat.sub (Nat.div b 2) 1) x fun r=>k (.n .e none r)))=_
  rw[ih,ih,QaG,QaG]
  simp only[Tr.setF]
  have e1:Nat.mod b 2=b % 2:=rfl
  have e2:Nat.div b 2=b/2:=rfl
  have e3:Nat.sub (b/2) 1=b/2-1:=rfl
  rw[e1,e2,e3]
  cases Nat.beq b 0<;>cases Nat.beq (b % 2) 1<;>rfl
def setR {β:Type} (t:Tr β) (f:Nat) (b:Nat) (x:β) (k:Tr β->α):α:=
 @Tr.rec β (fun _ => Nat -> Nat -> (Tr β -> α) -> α) (fun f b k => setE f b x k)
  (fun l v r il ir f b k=>@Nat.rec (fun _=>α) (k (.n l v r)) (fun f _=>ifB (Nat.beq b 0) (k (.n l (some x) r)) (ifB (Nat.beq (Nat.mod b 2) 1) (il f (Nat.div b 2) fun l=>k (.n l v r)) (ir f (Nat.sub (Nat.div b 2) 1) fun r=>k (.n l v r)))) f) t f b k
theorem Qpk {β:Type} (t:Tr β) (f:Nat) (b:Nat) (x:β) (k:Tr β->α):setR t f b x k=k (Tr.setF f t b x):=by
 induction t generalizing f b k with
 |e=>exact Qpj f b x k
 | n l v r il ir =>
  cases f with
  |zero=>rfl
  |succ f=>
   show ifB (Nat.beq b 0) (k (.n l (some x) r)) (ifB (Nat.beq (Nat.mod b 2) 1) (setR l f (Nat.div b 2) x fun l=>k (.n l v r)) (setR r f (Nat.sub (Nat.div b 2) 1) x fun r=>k (.n l v r)))=_
   rw[il,ir,QaG,QaG]
   simp only[Tr.setF]
   have e1:Nat.mod b 2=b % 2:=rfl
   have e2:Nat.div b 2=b/2:=rfl
   have e3:Nat.sub (b/2) 1=b/2-1:=rfl
   rw[e1,e2,e3]
   cases Nat.beq b 0<;>cases Nat.beq (b % 2) 1<;>rfl
def putBR (A:Ans α) (h:Heap) (b:Nat) (x:Blk) (k:Heap->α):α:=ifB (Nat.ble (Nat.succ b) lim) (setR h 40 b x k) A.bad
theorem QbQ (A:Ans α) (h:Heap) (b:Nat) (x:Blk) (k:Heap->α):putBR A h b x k=if b<lim then k (h.set b x)else A.bad:=by
 unfold putBR
 rw[Qpk,QaG]
 by_cases hb:b<lim
 ·rw[if_pos (Nat.ble_eq_true_of_le hb),if_pos hb];rfl
 ·rw[if_neg (fun h=>hb (Nat.le_of_ble_eq_true h)),if_neg hb]
def runR {β:Type} (A:Ans α) (m:HM β) (h:Heap) (k:β->Heap->α):α:=
 @HM.rec β (fun _=>Heap->α) (fun a h=>k a h) (fun _=>A.bad) (fun b _ ih h=>getR h b fun o=>ih o h) (fun b x _ ih h=>fBlk x fun x=>putBR A h b x fun h=>ih h) m h
theorem QcJ {β:Type} (A:Ans α) (m:HM β):∀(h:Heap) (k:β->Heap->α),runR A m h k=match m.run h with|some (a,h')=>k a h'|none=>A.bad:=by
 induction m with
 |ret a=>intro h k;rfl
 |fail=>intro h k;rfl
 |look b m ih=>
  intro h k
  show getR h b (fun o=>runR A (m o) h k)=_
  rw[QbI]
  exact ih _ h k
 | put b x m ih =>
  intro h k
  show fBlk x (fun x=>putBR A h b x fun h=>runR A m h k)=_
  rw[Qpi,QbQ]
  simp only[HM.run]
  by_cases hb:b<lim
  ·have : Nat.blt b lim = true := by simp_all
   grind
  ·have : Nat.blt b lim = false := by simp_all [Bool.eq_false_iff]
   grind
def optR (A:Ans α) (o:Option AV) (k:AV->α):α:=@Option.rec AV (fun _=>α) A.bad (fun v=>fAV v k) o
theorem QbJ (A:Ans α) (o:Option AV) (k:AV->α):optR A o k=match o with|some v=>k v|none=>A.bad:=by
 cases o with
 |none=>rfl
 |some v=>exact QcU v k
def hiN:IntKind->Nat
 | .i8=>127| .i16=>32767| .i32=>2147483647| .i64=>9223372036854775807
 | .u8=>255| .u16=>65535| .u32=>4294967295| .u64=>18446744073709551615
theorem Qp5 (k:IntKind):hi k=hiN k:=by cases k<;>rfl
theorem lo_le (k:IntKind):lo k<=0:=by cases k<;>decide
theorem Qhj {k:IntKind} {m:Nat} (h:m<=hiN k):wr k (.ofNat m)= .ofNat m:=
 wr_of (by grind [lo_le]) (by simp_all [Qp5])
def kn:IntKind->Nat
 | .i8=>0| .i16=>1| .i32=>2| .i64=>3| .u8=>4| .u16=>5| .u32=>6| .u64=>7
theorem Qka {k k':IntKind} (h:Nat.beq (kn k) (kn k')=true):k=k':=by cases k<;>cases k'<;>first|rfl|(cases h)
def bin2 (A:Ans α) (op:BinOp) (kd:IntKind) (a b:Nat) (slow:α) (k:AV->α):α:=
 match op with
 | .add=>fNat (Nat.add a b) fun r=>ifB (Nat.ble r (hiN kd)) (k (.int kd (.ofNat r))) slow
 | .sub=>ifB (Nat.ble b a) (fNat (Nat.sub a b) fun r=>ifB (Nat.ble r (hiN kd)) (k (.int kd (.ofNat r))) slow) slow
 | .mul=>fNat (Nat.mul a b) fun r=>ifB (Nat.ble r (hiN kd)) (k (.int kd (.ofNat r))) slow
 | .eql=>fBool (Nat.beq a b) fun t=>k (.bool t)
 | .neq=>fBool (Nat.beq a b) fun t=>ifB t (k (.bool false)) (k (.bool true))
 | .lss=>fBool (Nat.ble (Nat.succ a) b) fun t=>k (.bool t)
 | .leq=>fBool (Nat.ble a b) fun t=>k (.bool t)
 | .gtr=>fBool (Nat.ble (Nat.succ b) a) fun t=>k (.bool t)
 | .geq=>fBool (Nat.ble b a) fun t=>k (.bool t)
 |_=>slow
def binN (op:BinOp) (below:Bool) (slow:α) (k:AV->α):α:=
 match op with
 | .eql=>k (.bool false)
 | .neq=>k (.bool true)
 | .lss=>ifB below (k (.bool true)) (k (.bool false))
 | .leq=>ifB below (k (.bool true)) (k (.bool false))
 | .gtr=>ifB below (k (.bool false)) (k (.bool true))
 | .geq=>ifB below (k (.bool false)) (k (.bool true))
 |_=>slow
def binR (A:Ans α) (op:BinOp) (x y:AV) (k:AV->α):α:=
 match x with
 | .int kx (.ofNat a)=>(match y with
  | .int ky (.ofNat b)=>ifB (Nat.beq (kn kx) (kn ky)) (bin2 A op kx a b (optR A (aBin op x y) k) k) (optR A (aBin op x y) k)
  | .int ky (.negSucc b)=>ifB (Nat.beq (kn kx) (kn ky)) (binN op false (optR A (aBin op x y) k) k) (optR A (aBin op x y) k)
  |_=>optR A (aBin op x y) k)
 | .int kx (.negSucc a)=>(match y with
  | .int ky (.ofNat b)=>ifB (Nat.beq (kn kx) (kn ky)) (binN op true (optR A (aBin op x y) k) k) (optR A (aBin op x y) k)
  |_=>optR A (aBin op x y) k)
 |_=>optR A (aBin op x y) k
theorem Qpl (A:Ans α) (op:BinOp) (kd:IntKind) (a b:Nat) (k:AV->α):
  binN op true (optR A (aBin op (.int kd (.negSucc a)) (.int kd (.ofNat b))) k) k=optR A (aBin op (.int kd (.negSucc a)) (.int kd (.ofNat b))) k:=by
 have hlt:(Int.negSucc a:Int)<Int.ofNat b:=by grind
 generalize Int.negSucc a=x at*
 generalize Int.ofNat b=y at*
 unfold binN
 grind [QdU,QbJ,decide,QdV,QdW,QdX,QdY,QdZ]
theorem binN_eq' (A:Ans α) (op:BinOp) (kd:IntKind) (a b:Nat) (k:AV->α):
  binN op false (optR A (aBin op (.int kd (.ofNat a)) (.int kd (.negSucc b))) k) k=optR A (aBin op (.int kd (.ofNat a)) (.int kd (.negSucc b))) k:=by
 have hlt:(Int.negSucc b:Int)<Int.ofNat a:=by grind
 generalize Int.negSucc b=x at*
 generalize Int.ofNat a=y at*
 unfold binN
 grind [QdU,QbJ,decide,QdV,QdW,QdX,QdY,QdZ]
theorem Qpm (A:Ans α) (op:BinOp) (kd:IntKind) (a b:Nat) (k:AV->α):
  bin2 A op kd a b (optR A (aBin op (.int kd (.ofNat a)) (.int kd (.ofNat b))) k) k=optR A (aBin op (.int kd (.ofNat a)) (.int kd (.ofNat b))) k:=by
 unfold bin2
 cases op<;>simp only<;>try rfl
 ·rw [Qbx, QaG]
  split
  ·rename_i h1
   rw[Qgw,show(Int.ofNat a+Int.ofNat b:Int)=Int.ofNat (a+b) from rfl,Qhj (m:=a+b) (Nat.le_of_ble_eq_true h1),QbJ];rfl
  ·rfl
 ·rw [QaG]
  split
  ·rename_i h0
   have h0:=Nat.le_of_ble_eq_true h0
   rw[Qbx,QaG]
   split
   ·rename_i h1
    rw[Qgx,show(Int.ofNat a-Int.ofNat b:Int)=Int.ofNat (a-b) from(Int.ofNat_sub h0).symm,Qhj (m:=a-b) (Nat.le_of_ble_eq_true h1),QbJ];rfl
   ·rfl
  ·rfl
 ·rw [Qbx, QaG]
  split
  ·rename_i h1
   rw[Qgy,show(Int.ofNat a*Int.ofNat b:Int)=Int.ofNat (a*b) from rfl,Qhj (m:=a*b) (Nat.le_of_ble_eq_true h1),QbJ];rfl
  ·rfl
 ·rw [QcB, QdU, QbJ]
  simp only
  congr 2
  rw[Bool.eq_iff_iff];simp;omega
 ·rw [QcB, QdV, QbJ, QaG]
  simp only
  by_cases e:a=b
  ·subst e;simp
  ·have h1 : Nat.beq a b = false := by simp_all [Bool.eq_false_iff]
   grind [decide]
 ·rw [QcB, QdW, QbJ]
  simp only
  congr 2
  rw[Bool.eq_iff_iff];simp;omega
 ·rw [QcB, QdX, QbJ]
  simp only
  congr 2
  rw[Bool.eq_iff_iff];simp
 ·rw [QcB, QdY, QbJ]
  simp only
  congr 2
  rw[Bool.eq_iff_iff];simp;omega
 ·rw [QcB, QdZ, QbJ]
  simp only
  congr 2
  rw[Bool.eq_iff_iff];simp
theorem Qpn (A:Ans α) (op:BinOp) (x y:AV) (k:AV->α):binR A op x y k=match aBin op x y with|some v=>k v|none=>A.bad:=by
 rw[<-QbJ A]
 unfold binR
 split
 ·split
  ·grind [QaG,Qka,Qpm]
  ·grind [QaG,Qka,binN_eq']
  ·rfl
 ·split
  ·grind [QaG,Qka,Qpl]
  ·rfl
 ·rfl
def nthR (A:Ans α) (cs:List AV) (j:Nat) (k:AV->α):α:=
 @List.rec AV (fun _=>Nat->α) (fun _=>A.bad) (fun c _ ih j=>@Nat.rec (fun _=>α) (k c) (fun j _=>ih j) j) cs j
theorem QlG (A:Ans α) (cs:List AV) (j:Nat) (k:AV->α):nthR A cs j k=match cs[j]? with|some v=>k v|none=>A.bad:=by
 induction cs generalizing j with
 |nil=>rfl
 |cons c cs ih=>
  cases j with
  |zero=>rfl
  |succ j=>exact(ih j).trans (by simp)
def nthSetR (cs:List AV) (j:Nat) (v:AV) (k:List AV->α):α:=
 @List.rec AV (fun _=>Nat->(List AV->α)->α) (fun _ k=>k []) (fun c r ih j k=>@Nat.rec (fun _=>α) (k (v::r)) (fun j _=>ih j fun r=>k (c::r)) j) cs j k
theorem Qmq (cs:List AV) (j:Nat) (v:AV) (k:List AV->α):nthSetR cs j v k=k (cs.set j v):=by
 induction cs generalizing j k with
 |nil=>rfl
 |cons c cs ih=>
  cases j with
  |zero=>rfl
  |succ j=>exact ih j _
def dropR (cs:List AV) (j:Nat) (k:List AV->α):α:=
 @List.rec AV (fun _=>Nat->α) (fun _=>k []) (fun c r ih j=>@Nat.rec (fun _=>α) (k (c::r)) (fun j _=>ih j) j) cs j
theorem QgB (cs:List AV) (j:Nat) (k:List AV->α):dropR cs j k=k (cs.drop j):=by
 induction cs generalizing j with
 |nil=>simp[dropR]
 |cons c cs ih=>
  cases j with
  |zero=>rfl
  |succ j=>exact ih j
def isPtr:AV->Bool
 | .ptr .. =>true
 |_=>false
def loadR (A:Ans α) (m:Option Nat) (x:AV) (h:Heap) (k:AV->α):α:=
 match m with
 | none => (match x with
  | .ptr b g off=>getR h b fun o=>(match o with
   |some (.cells g' cs)=>ifB (Nat.beq g' g) (nthR A cs off k) A.bad
   |_=>A.bad)
  | .fptr cs=>(match cs with
   |c::_=>k c
   |[]=>A.bad)
  |_=>A.bad)
 |some _=>runR A (aLoad m x) h fun v _=>fAV v k
theorem Qkb (A:Ans α) (m:Option Nat) (x:AV) (h:Heap) (k:AV->α):loadR A m x h k=match (aLoad m x).run h with|some (v,_)=>k v|none=>A.bad:=by
 unfold loadR
 split
 ·split
  ·rename_i b g off
   rw[QbI]
   simp only[aLoad,HM.cells,HM.run]
   cases hb:h.get b with
   |none=>rfl
   | some x =>
    cases x with
    |map g' es=>rfl
    |dead g'=>rfl
    |loop=>rfl
    | cells g' cs =>
     simp only
     rw[QaG,QlG]
     cases hg:Nat.beq g' g with
     |true=>
      simp only[cond_true,if_true]
      cases cs[off]?<;>rfl
     |false=>simp[HM.run]
  ·rename_i cs
   split<;>rfl
  ·rename_i h1 h2
   cases x<;>first|rfl|(exact absurd rfl (h1 _ _ _))|(exact absurd rfl (h2 _))
 grind [QcJ,QcU]
def one1:AV->Bool
 | .any| .agg _| .tup _=>false
 |_=>true
def storeR (A:Ans α) (m:Nat) (x v:AV) (h:Heap) (k:AV->Heap->α):α:=
 match x with
 | .ptr b g off => ifB (one1 v && Nat.beq m 1) (getR h b fun o => (match o with
   |some (.cells g' cs)=>ifB (Nat.beq g' g) (ifB (Nat.ble (Nat.succ off) cs.length) (nthSetR cs off v fun cs=>putBR A h b (.cells g' cs) fun h=>k .any h) A.bad) A.bad
   |_=>A.bad)) (runR A (aStore m x v) h k)
 |_=>runR A (aStore m x v) h k
theorem Qnp (A : Ans α) (m : Nat) (x v : AV) (h : Heap) (k : AV -> Heap -> α) : storeR A m x v h k = match (aStore m x v).run h with | some (u, h') => k u h' | none => A.bad := by
  unfold storeR
  split
  · rename_i b g off
    rw[QaG]
    split
    · rename_i h1
      simp only[Bool.and_eq_true]at h1
      obtain⟨h1,h2⟩:=h1
      have:m=1:=by simpa using h2
      subst this
      have hv:v.cells=[v]/\AV.one v=true:=by cases v<;>first|(exact⟨rfl,rfl⟩)|(cases h1)
      rw[QbI]
      simp only[aStore,HM.cells,HM.run]
      cases hb:h.get b with
      |none=>rfl
      | some x =>
        cases x with
        |map g' es=>rfl
        |dead g'=>rfl
        |loop=>rfl
        | cells g' cs =>
          simp only
          rw[QaG,QaG]
          cases hg:Nat.beq g' g with
          |false=>simp[HM.run]
          | true =>
            have:g'=g:=by simpa using hg
            subst this
            simp only[cond_true,if_true,hv.1]
            by_cases hl:off<cs.length
            · rw [if_pos (Nat.ble_eq_true_of_le hl), if_pos ⟨rfl, hl, by simp [hv.2]⟩, Qmq, QbQ]
              simp only[HM.run]
              have e:Go.AM.putR cs off [v]=cs.set off v:=rfl
              by_cases hb:b<lim
              · have : Nat.blt b lim = true := by simp_all
                grind
              · have : Nat.blt b lim = false := by simp_all [Bool.eq_false_iff]
                grind
            · rw [if_neg (fun h => hl (Nat.le_of_ble_eq_true h)), if_neg (by simp; omega)]
              rfl
    grind [QcJ]
  grind [QcJ]
end
end Go.AM
namespace Go.AM
variable {P:Program}
theorem HRel.turnL {ok:Okc} {c:Ctx ok} {h:Heap} {w:World} (H:HRel c h w) {b g cb:Nat} {r:Loop} {x:Blk} (o:Obj) (hb:b<lim) (hl:Live h b g) (hp:c.ρ b g=some (.loc cb 0)) (hr:w.heap[cb]?=some (.loop r))
  (hg:x.gen=g) (hx:∀c',Evo c w c' (w.putObj cb o)->c'.ρ b g=some (.loc cb 0)->c'.O cb->BRel c' (w.putObj cb o) b x):
  ∃c',Evo c w c' (w.putObj cb o)/\HRel c' (h.set b x) (w.putObj cb o)/\c'.ρ b g=some (.loc cb 0):=by
 subst hg
 have hlt:=Qbh hr
 have other:∀k,k≠cb->(w.putObj cb o).heap[k]?=w.heap[k]?:=fun k hk=>World.putObj_heap_other hk
 have hlater:∀y,x.gen<y->c.ρ b y=none:=by
  intro y hy
  obtain⟨z,hz,hzg,_⟩:=hl
  exact H.later b z hz y (by omega)
 have:=H.put (w':=w.putObj cb o) (cb:=cb) (base:=0) hb hlater (.inr hp) (.inr ⟨x.gen,0,hl,hp⟩) rfl rfl rfl (by simp_all) (by simp_all)
  (fun k _ hk=>other k hk) (fun C e fr hc=>by simp_all) (fun E=>hx _ E (by show(if b=b/\x.gen=x.gen then _ else _)=_;simp_all) (.inr rfl))
 exact⟨_,this.1,this.2,by show(if b=b/\x.gen=x.gen then _ else _)=_;simp_all⟩
def upsT:Tmps->List Nat->List AV->Tmps
 |T,p::ps,x::xs=>upsT (up T p x) ps xs
 |T,_,_=>T
theorem Qkc {ok:Okc} {c:Ctx ok} {w:World}:∀(ps:List Nat) (xs:List AV) (vs:List Value) (T:Tmps) (t:Array Value),(∀p∈ps,p<t.size)->xs.length=ps.length->VRels c w xs vs->(∀i,VRel c w (lk T i) (t.getD i undef))->
  (∀i,VRel c w (lk (upsT T ps xs) i) (((ps.zip vs).foldl (fun t (p:Nat×Value)=>t.setIfInBounds p.1 p.2) t).getD i undef))/\((ps.zip vs).foldl (fun t (p:Nat×Value)=>t.setIfInBounds p.1 p.2) t).size=t.size
 |[],xs,vs,T,t,_,_,_,ht=>by cases xs<;>exact⟨ht,rfl⟩
 |p::ps,[],_,_,_,_,hl,_,_=>by simp at hl
 | p :: ps, x :: xs, vs, T, t, hp, hl, hv, ht => by
  simp only[VRels]at hv
  obtain⟨v,vs',rfl,h1,h2⟩:=hv
  have hlt:p<t.size:=hp p (by simp)
  obtain⟨k1,k2⟩:=Qkc ps xs vs' (up T p x) (t.setIfInBounds p v) (fun q hq=>by simp_all) (by simpa using hl) h2 (fun i=>by
   rw[lk_up]
   by_cases e:i=p
   ·simp_all
   ·rw [if_neg e]
    have:=ht i
    simpa[Array.getElem?_setIfInBounds_ne (fun h=>e h.symm)]using this)
  exact⟨k1,by simp_all⟩
def stOf:SX->LSt
 | .normal=> .ready
 |e=> .done e
def SX.isNormal:SX->Bool
 | .normal=>true
 |_=>false
theorem RSpec.of_W {b g N : Nat} {T : Tmps} {ps : List Nat} {asg body : LCode} {args : List AV} {h h' : Heap} {v : AV} (hb : h.get b = some (.loop g N T ps asg body .ready)) (hl : b < lim) (hlen : args.length = ps.length) (hps : ∀ p ∈ ps, p < N)
    (hw : W P N asg.slim (fun e B => e = .normal /\ ∃ N1 T1 ps1 as1 body1, B.h.get b = some (.loop g N1 T1 ps1 as1 body1 .ready) /\
      W P N body.slim (fun e C => ∃ N2 T2 ps2 as2 body2, C.h.get b = some (.loop g N2 T2 ps2 as2 body2 .busy) /\ v = .bool e.isNormal /\ ∀ x, (C.h.set b (.loop g N2 T2 ps2 as2 body2 (stOf e))).get x = h'.get x)
        ⟨B.T,B.h.set b (.loop g N1 T1 ps1 as1 body1 .busy)⟩)
      ⟨upsT T ps args,h⟩):RSpec P b g args h v h':=by
  intro c w cargs cb H ha hcb
  obtain⟨cb0,r,h1,h2,h3,L⟩:=H.blk b _ hb
  rw[hcb]at h1;cases h1
  have hcs:cargs.size=r.params.size:=by
    have e1:=QaA ha
    have e2:r.params.toList.length=ps.length:=by rw[L.params]
    simp_all
  refine⟨r.fn,_,r.assign,r.body,run_yield h3 hcs,roundIn_of_wpIn trivial ?_⟩
  have hfold:(r.params.zip cargs).foldl (fun tmps (x:Nat×Value)=>tmps.setIfInBounds x.1 x.2) r.tmps=(ps.zip cargs.toList).foldl (fun t (p:Nat×Value)=>t.setIfInBounds p.1 p.2) r.tmps:=by
    rw[<-Array.foldl_toList,Array.toList_zip,L.params]
  obtain⟨ht,hts⟩:=Qkc ps args cargs.toList T r.tmps (fun p hp=>by rw[L.size];exact hps p hp) hlen ha L.tmps
  refine hw r.assign L.okA.1 (c.rb 0) ⟨_,[]⟩ w ⟨H.rebase 0,fun i=>?_,?_,Nat.zero_le _⟩ (some cb) (fun e=>by rw[L.okA.2]at e;cases e) _ ?_
  · rw[hfold];exact(ht i).rebase 0
  · rw[hfold,hts,L.size]
  rintro e B c1 a1 w1 ⟨rfl,N1,T1,ps1,as1,body1,hB,hw2⟩ S1 E1
  obtain⟨cb1,r1,g1,g2,g3,L1⟩:=S1.heap.blk b _ hB
  have hcb1:c1.ρ b g=some (.loc cb 0):=E1.rho _ _ _ hcb
  rw[show c1.ρ b g=some (.loc cb1 0) from g1]at hcb1;cases hcb1
  refine⟨_,run_beginRound g3 L1.state,?_⟩
  obtain ⟨c2, E2, H2, hcb2⟩ := S1.heap.turnL (.loop { r1 with state := .busy }) (x := .loop g N1 T1 ps1 as1 body1 .busy) hl ⟨_, hB, rfl, fun k => by simp⟩ g1 g3 rfl (fun c' E' k1 k2 =>
    ⟨cb,_,k1,k2,World.putObj_heap_same (Qbh g3),by
      have L':=L1.mono (E'.ext S1.heap.disj)
      exact⟨L'.params,L'.size,L'.tmps,L'.okA,L'.okB,rfl,L'.pend⟩⟩)
  refine hw2 r.body L.okB.1 c2 a1 _ ⟨H2,fun i=>VRel.mono (E2.ext S1.heap.disj) _ _ (S1.tmps i),S1.size,S1.defers.mono E2⟩ (some cb) (fun e=>by rw[L.okB.2]at e;cases e) _ ?_
  rintro e C c3 a3 w3 ⟨N2,T2,ps2,as2,body2,hC,rfl,hh⟩ S3 E3
  obtain⟨cb3,r3,q1,q2,q3,L3⟩:=S3.heap.blk b _ hC
  have hcb3:c3.ρ b g=some (.loc cb 0):=E3.rho _ _ _ hcb2
  rw[show c3.ρ b g=some (.loc cb3 0) from q1]at hcb3;cases hcb3
  have fin:∀(jump:Option Code),jump.isNone=e.isNormal->(stOf e).pend=jump->(stOf e).state=(if jump.isNone then .ready else .done)->
      ∃v w',(Instr.endRound cb jump).run P w3= .ok v w'/\Rets P c w h' (.bool e.isNormal) (.returned v) w':=by
    intro jump j1 j2 j3
    obtain ⟨c4, E4, H4, _⟩ := S3.heap.turnL (.loop { r3 with state := if jump.isNone then .ready else .done, pending := jump }) (x := .loop g N2 T2 ps2 as2 body2 (stOf e)) hl ⟨_, hC, rfl, fun k => by simp⟩ q1 q3 rfl (fun c' E' k1 k2 =>
      ⟨cb,_,k1,k2,World.putObj_heap_same (Qbh q3),by
        have L':=L3.mono (E'.ext S3.heap.disj)
        exact⟨L'.params,L'.size,L'.tmps,L'.okA,L'.okB,j3.symm,j2.symm⟩⟩)
    have E:=((E1.trans E2).trans E3).trans E4
    exact⟨_,_,run_endRound jump q3,_,(c4.rb (c.base)),rfl,E.rebase,(QcS hh H4).rebase _,by simp[VRel,j1]⟩
  cases e with
  |normal=>exact fin none rfl rfl rfl
  |exit i=>exact fin (some (.exit i)) rfl rfl rfl
  |ret=>exact fin (some .ret) rfl rfl rfl
def leftQ (Q:SX->St->Prop) (B:St):LSt->Prop
 | .ready=>Q .normal B
 | .busy=>False
 | .done e=>e.isNormal=false/\Q e B
theorem W.rfunc {N : Nat} {Q : SX -> St -> Prop} {A : St} {g : Opd} {ps : List Nat} {asg body : SCode} {f b : Nat} {first cap : List AV} {v : AV} {h2 : Heap} {T2 : Tmps} {N2 : Nat} {ps2 : List Nat} {as2 body2 : LCode} {st : LSt} (las lbody : LCode) (hla : las.slim = asg) (hlb : lbody.slim = body)
    (hg:ev A.T g= .fn f first cap) (hb:A.h.get b=none) (hl:b<lim) (hs:HSpec P f (first++[.yld b 0]++cap) (A.h.set b (.loop 0 N A.T ps las lbody .ready)) v h2)
    (hst:h2.get b=some (.loop 0 N2 T2 ps2 as2 body2 st))
    (hQ:leftQ Q ⟨A.T,h2.set b (.dead 0)⟩ st):W P N (.rfunc g ps N asg body) Q A:=by
  intro code hok c a w S ro hro Q' hQ'
  cases code<;>simp only[okCode,Bool.false_eq_true,Bool.and_eq_true,beq_iff_eq,Bool.not_eq_true']at hok
  rename_i g' ps' asg' body'
  obtain⟨⟨⟨⟨⟨⟨⟨k1,k2⟩,_⟩,_⟩,k3⟩,k4⟩,k5⟩,k6⟩:=hok
  have:=hro rfl
  subst this
  have hg':=Qak S.tmps k1
  rw[hg]at hg'
  simp only[VRel]at hg'
  obtain⟨x',y',hgv,hx,hy⟩:=hg'
  refine wpIn_rangeFunc fun fn _=>?_
  obtain⟨E0,H0⟩:=S.heap.grow (w':=w.alloc (.deferred (some []))) rfl rfl rfl (by simp) (fun k hk=>Go.RowKit.Below.heap_alloc w _ k hk)
  obtain⟨rec,hrec⟩:∃rec:Loop,rec={state:= .ready,pending:=none,fn,tmps:=a.tmps,params:=ps',assign:=asg',body:=body',defers:=w.heap.size}:=⟨_,rfl⟩
  have hsz1:(w.alloc (.deferred (some []))).heap.size=w.heap.size+1:=by simp
  obtain⟨E1,H1⟩:=H0.put (w':=(w.alloc (.deferred (some []))).alloc (.loop rec)) (b:=b) (cb:=w.heap.size+1) (base:=0) (x:= .loop 0 N A.T ps las lbody .ready) hl (fun y hy=>H0.fresh b hb y) (.inl (H0.fresh b hb _)) (.inl hsz1.symm)
    rfl rfl rfl (by simp) (by simp) (fun k hk _ => Go.RowKit.Below.heap_alloc _ _ k hk) (fun C e fr hc => by simp_all) (fun E =>
      ⟨w.heap.size+1,rec,by show(if b=b/\0=0 then _ else _)=_;simp_all,.inr rfl,by have:=World.alloc_heap_new (w.alloc (.deferred (some []))) (.loop rec);simp_all,by
        subst hrec
        exact⟨k2,S.size,fun i=>VRel.mono (E0.trans E|>.ext S.heap.disj) _ _ (S.tmps i),by rw[hla];exact⟨k5,k3⟩,by rw[hlb];exact⟨k6,k4⟩,rfl,rfl⟩⟩)
  generalize hc1:c.with b (Blk.loop 0 N A.T ps las lbody .ready).gen (.loc (w.heap.size+1) 0) (some (w.heap.size+1))=c1 at E1 H1
  have hρ1:c1.ρ b 0=some (.loc (w.heap.size+1) 0):=by rw[<-hc1];show(if b=b/\0=0 then _ else _)=_;simp_all
  have hO1:∀k,c1.O k->c.O k\/k=w.heap.size+1:=by
    intro k hk;rw[<-hc1]at hk
    rcases hk with hk|hk
    · exact .inl hk
    simp_all
  have hF1:∀k,c1.F k->c.F k:=by intro k hk;rw[<-hc1]at hk;exact hk
  generalize hW1:(w.alloc (.deferred (some []))).alloc (.loop rec)=W1 at E1 H1
  have hD1:W1.heap[w.heap.size]?=some (.deferred (some [])):=by
    grind [Go.RowKit.Below.heap_alloc,World.alloc_heap_new]
  have E01:=E0.trans E1
  have hargs:VRels c1 W1 (first++[.yld b 0]++cap) (x'++ #[Value.func (.yield (w.heap.size+1)) #[] #[]]++y').toList:=by
    have e1:=VRels.mono (E01.ext S.heap.disj) _ _ hx
    have e2:=VRels.mono (E01.ext S.heap.disj) _ _ hy
    have e3:VRels c1 W1 [.yld b 0] [.func (.yield (w.heap.size+1)) #[] #[]]:=by
      simp only[VRels,VRel];simp_all
    grind [QbA]
  refine⟨w.heap.size+1,[{target:= .collected w.heap.size,args:= #[]}],W1,{target:= .fn (.func f) y',args:=x'++ #[.func (.yield (w.heap.size+1)) #[] #[]]},W1,f,x'++ #[.func (.yield (w.heap.size+1)) #[] #[]]++y',W1,?_,?_,fun _ _=>trivial,?_,fun h=>by simp[FW,Fence.wide]at h,?_⟩
  · rw[<-hW1,hrec];exact run_enterLoop_outer _ _ _ _ _
  · simp_all [resolve,Deferred.ofValue,Act.eval]
  · simp only [invoke]
    exact Qfa hs.1 _
  · refine callsFW ((hs.2 c1 W1 _ H1 hargs).mono ?_)
    rintro e w2 ⟨cv,c2,rfl,E2,H2,V2⟩
    obtain⟨cb,r,p1,p2,p3,L⟩:=H2.blk b _ hst
    have hρ2:c2.ρ b 0=some (.loc (w.heap.size+1) 0):=E2.rho _ _ _ hρ1
    rw[show c2.ρ b 0=some (.loc cb 0) from p1]at hρ2;cases hρ2
    have hbusy:r.state≠ .busy:=by
      rw[L.state]
      cases st<;>simp[LSt.state,leftQ]at hQ⊢
    obtain⟨c3,E3,H3,_⟩:=H2.turnL (.loop {r with state:= .exhausted}) (x:= .dead 0) hl ⟨_,hst,rfl,fun k=>by simp⟩ p1 p3 rfl (fun c' _ _ _=>trivial)
    have hel:=run_endLoop (P:=P) p3 hbusy
    generalize w2.putObj (w.heap.size+1) (.loop {r with state:= .exhausted})=W3 at E3 H3 hel
    refine⟨r.pending,W3,hel,?_⟩
    have E:=(E01.trans E2).trans E3
    have hlow:=S.defers.low
    have hD:w.heap.size<W1.heap.size:=Qbh hD1
    have notO1:¬c1.O w.heap.size:=fun h=>by
      rcases hO1 _ h with h|h
      · have:=S.heap.inO _ h;omega
      · omega
    have M : Marks c3 W3 ({ target := .collected w.heap.size, args := #[] } :: a.defers) := by
      have notF1:¬c1.F w.heap.size:=fun h=>by have:=S.heap.inF _ (hF1 _ h);omega
      have step:=(E2.trans E3)
      have m1 : Marks c1 W1 ({ target := .collected w.heap.size, args := #[] } :: a.defers) := by
        refine⟨⟨w.heap.size,rfl,by rw[E01.base];exact hlow,notO1,notF1,hD1,fun d' hd' e=>?_⟩,S.defers.mono E01⟩
        have key:∀{ds:List Deferred},Marks c w ds->∀d∈ds,∀D,d.target= .collected D->D<w.heap.size:=by
          intro ds
          induction ds with
          |nil=>intro _ d hd;cases hd
          | cons x xs ih =>
            rintro⟨⟨D0,x1,x2,x3,x4,x5,x6⟩,hr⟩ d hd D e
            rcases List.mem_cons.1 hd with rfl|hd
            · grind
            · grind
        have:=key S.defers d' hd' _ e
        omega
      exact m1.mono step
    have S3 : SRel N c3 ⟨A.T, h2.set b (.dead 0)⟩ { a with defers := { target := .collected w.heap.size, args := #[] } :: a.defers } W3 :=
      ⟨H3,fun i=>VRel.mono (E.ext S.heap.disj) _ _ (S.tmps i),S.size,M⟩
    have hpend:=L.pend
    cases st with
    | ready =>
      rw[show r.pending=none from hpend]
      exact hQ' .normal _ c3 _ _ hQ S3 E
    |busy=>exact hQ.elim
    | done e =>
      rw[show r.pending=some e.toCode from hpend]
      obtain⟨he,hq⟩:=hQ
      cases e with
      |normal=>cases he
      |exit i=>exact wpIn_exit (hQ' (.exit i) _ c3 _ _ hq S3 E)
      |ret=>exact wpIn_ret (hQ' .ret _ c3 _ _ hq S3 E)
end Go.AM
