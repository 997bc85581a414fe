/- A part of the proof of CellLimitsCardSaid: lemmas on the way (AmU, AmUa, AmDj, AmBx, AmBa, AmBb, AmBc, AmBd, AmBe, AmBf, AmBg, AmBi, AmBj). Conditions: none of ours. -/
import Derived.OpenShut
import Derived.Test.YtmoanlnleppcpaaGreatDoorProg
import Derived.KernelRfl
import Derived.Test.YtmoanlnleppcpaaGreatDoorAmW9
set_option linter.unusedSectionVars false
set_option maxHeartbeats 32000000
set_option maxRecDepth 100000
set_option linter.unusedVariables false
set_option linter.unusedSimpArgs false
namespace Go.AM
variable {ok:Okc}
open Go.ChangeShapes Go.WideShapes
def inF (w:World) (k:Nat):Prop:=k<w.heap.size
end Go.AM
namespace Go.AM
open Go.ChangeShapes Go.WideShapes
inductive Ty where
 |int (k:IntKind)
 |bool
 |str
 |arr (n:Nat) (t:Ty)
 |sl (t:Ty)
 |st (fs:Ty)
 |unit
 |pair (a b:Ty)
def Ty.sz:Ty->Nat
 | .int _| .bool| .str| .sl _=>1
 | .arr n t=>n*t.sz
 | .st fs=>fs.sz
 | .unit=>0
 | .pair a b=>a.sz+b.sz
abbrev Ty.D:Ty->Type
 | .int _=>Int
 | .bool=>Bool
 | .str=>List UInt8
 | .arr _ t| .sl t=>List t.D
 | .st fs=>fs.D
 | .unit=>Unit
 | .pair a b=>a.D×b.D
def Ty.cells:(t:Ty)->t.D->List AV
 | .int k,n=>[.int k n]
 | .bool,b=>[.bool b]
 | .str,s=>[.str s]
 | .arr _ t,l=>List.flatMap (Ty.cells t) l
 | .sl t,l=>[.fsl (List.flatMap (Ty.cells t) l) (List.length l) t.sz]
 | .st fs,d=>Ty.cells fs d
 | .unit,_=>[]
 | .pair a b,d=>Ty.cells a d.1++Ty.cells b d.2
def Ty.wf:(t:Ty)->t.D->Prop
 | .int k,n=>(Lit.int k n).wf=true
 | .bool,_=>True
 | .str,s=>List.length s<=9223372036854775807
 | .arr n t,l=>List.length l=n/\∀x∈(show List t.D from l),Ty.wf t x
 | .sl t,l=>List.length l<=9223372036854775807/\∀x∈(show List t.D from l),Ty.wf t x
 | .st fs,d=>Ty.wf fs d
 | .unit,_=>True
 | .pair a b,d=>Ty.wf a d.1/\Ty.wf b d.2
def eltT (P:Program) (ts:List TypeId):List TypeId:=match ts with
 |t::_=>(match P.underlying t with|some (.slice e)=>[e]|some (.array _ e)=>[e]|_=>[])
 |[]=>[]
def fldT (P:Program) (ts:List TypeId):List TypeId:=match ts with
 |t::_=>(match P.underlying t with|some (.struct l)=>l.toList.map (·.type)|_=>[])
 |[]=>[]
def Ty.sized (P:Program):(t:Ty)->List TypeId->t.D->Prop
 | .arr _ t,ts,l=>∀x∈(show List t.D from l),Ty.sized P t (eltT P ts) x
 | .sl t,ts,l=>(∀e∈eltT P ts,List.length l*P.bytesOf e<=reachBytes)/\∀x∈(show List t.D from l),Ty.sized P t (eltT P ts) x
 | .st fs,ts,d=>Ty.sized P fs (fldT P ts) d
 | .pair a b,ts,d=>Ty.sized P a (ts.take 1) d.1/\Ty.sized P b ts.tail d.2
 |_,_,_=>True
theorem QcV {H:Type} {P:Program} {e:TypeId} {q:Nat->Bool}:∀{l:List (DataW H)} {d:DataW H},d∈l->(DataW.weightsAll P e l).all q=true->(d.weights P e).all q=true
 |x::l,d,hd,h=>by
  simp only[DataW.weightsAll,List.all_append,Bool.and_eq_true]at h
  rcases List.mem_cons.1 hd with rfl|hd
  ·exact h.1
  ·exact QcV hd h.2
mutual
def okTy (P:Program):Ty->TypeId->Bool
 | .int k,t=>match P.underlying t with|some (.int k')=>k'==k|_=>false
 | .bool,t=>match P.underlying t with|some .bool=>true|_=>false
 | .str,t=>match P.underlying t with|some .string=>true|_=>false
 | .arr n e,t=>match P.underlying t with|some (.array m u)=>n==m&&okTy P e u&&P.cellsOf u==e.sz&&P.cellsOf t==n*e.sz|_=>false
 | .sl e,t=>match P.underlying t with|some (.slice u)=>okTy P e u&&P.cellsOf u==e.sz&&Nat.blt 0 e.sz|_=>false
 | .st fs,t=>match P.underlying t with|some (.struct l)=>okFs P fs l.toList 0&&P.cellsOf t==fs.sz|_=>false
 |_,_=>false
termination_by structural ty=>ty
def okFs (P:Program):Ty->List Field->Nat->Bool
 | .unit,l,_=>match l with|[]=>true|_=>false
 | .pair a b,l,off=>match l with|f::l=>f.offset==off&&okTy P a f.type&&P.cellsOf f.type==a.sz&&okFs P b l (off+a.sz)|_=>false
 |_,_,_=>false
termination_by structural ty=>ty
end
section
variable {ok:Okc} {H:Type} {enc:TypeId×Value->H} {P:Program} {W:World} {spare:Nat->Bool}
theorem Qdb:∀(t:Ty) (d:t.D),t.wf d->(t.cells d).length=t.sz
 | .int _,_,_=>rfl
 | .bool,_,_=>rfl
 | .str,_,_=>rfl
 | .sl _,_,_=>rfl
 | .unit,_,_=>rfl
 | .st fs,d,h=>Qdb fs d h
 | .pair a b,d,h=>by
  simp only[Ty.cells,Ty.sz,List.length_append,Qdb a d.1 h.1,Qdb b d.2 h.2]
 | .arr n t, l, h => by
  obtain⟨h1,h2⟩:=h
  simp only[Ty.cells,Ty.sz,<-h1]
  have:∀(l:List t.D),(∀x∈l,t.wf x)->(l.flatMap t.cells).length=l.length*t.sz:=by
   intro l
   induction l with
   |nil=>intro _;simp
   |cons x l ih=>intro hl;simp[List.flatMap_cons,Qdb t x (hl x (by simp)),ih fun y hy=>hl y (by simp[hy]),Nat.succ_mul];omega
  exact this l h2
theorem Qgy {α β:Type} {f:α->Option β}:∀{l:List α} {r:List β},l.mapM f=some r->r.length=l.length/\∀(i:Nat) (x:α),l[i]?=some x->∃y,f x=some y/\r[i]?=some y
 |[],r,h=>by simp_all
 |a::l,r,h=>by
  simp only[List.mapM_cons,Option.bind_eq_bind,Option.bind_eq_some_iff]at h
  obtain⟨y,hy,ys,hys,e⟩:=h
  simp at e;subst e
  obtain⟨h1,h2⟩:=Qgy hys
  grind
theorem many {ok:Okc} {t:Ty} {R:t.D->Prop} {c:Ctx ok} {n:Nat}:∀{cs:List Value},(∀i,i<n->∃x:t.D,R x/\VRels c W (t.cells x) ((cs.drop (i*t.sz)).take t.sz))->n*t.sz<=cs.length->
  ∃l:List t.D,l.length=n/\(∀x∈l,R x)/\VRels c W (l.flatMap t.cells) (cs.take (n*t.sz)):=by
 induction n with
 |zero=>intro cs _ _;exact⟨[],rfl,by simp,by simp[VRels]⟩
 | succ n ih =>
  intro cs hx hl
  obtain⟨x,h1,h2⟩:=hx 0 (by omega)
  rw[Nat.succ_mul]at hl
  obtain⟨l,h3,h4,h5⟩:=ih (cs:=cs.drop t.sz) (fun i hi=>by
   grind [List.drop_drop]) (by simp;omega)
  refine⟨x::l,by simp[h3],by simp_all,?_⟩
  rw[List.flatMap_cons,Nat.succ_mul,Nat.add_comm,List.take_add]
  refine Qbm ?_ h5
  simpa using h2
mutual
theorem Qfy : ∀ (ty : Ty) (t : TypeId) (fuel : Nat) (cs : List Value) (x : DataW H × List MemPlace), (∀ b, spare b = true) -> okTy P ty t = true -> DataW.trod enc P W 0 spare true fuel t cs = some x ->
    ∃d:ty.D,(ty.wf d/\((x.1.weights P t).all (· <=reachBytes)=true->ty.sized P [t] d))/\VRels (only (ok:=ok) (inF W)) W (ty.cells d) cs:=by
  intro ty t fuel cs x hs ho h
  match ty with
  | .int k =>
    simp only[okTy]at ho
    split at ho<;>try (cases ho;done)
    rename_i k' hu
    simp only[beq_iff_eq]at ho
    subst ho
    obtain⟨n,rfl,_,hw⟩:=DataW.trod_int hu h
    exact⟨n,⟨hw,fun _=>trivial⟩,by simp[Ty.cells,VRels,VRel]⟩
  | .bool =>
    simp only[okTy]at ho
    split at ho<;>try (cases ho;done)
    rename_i hu
    obtain⟨b,rfl,_⟩:=DataW.trod_bool hu h
    exact⟨b,⟨trivial,fun _=>trivial⟩,by simp[Ty.cells,VRels,VRel]⟩
  | .str =>
    simp only[okTy]at ho
    split at ho<;>try (cases ho;done)
    rename_i hu
    obtain⟨s,rfl,_,hl⟩:=DataW.trod_string hu h
    refine⟨s.data.toList,⟨?_,fun _=>trivial⟩,?_⟩
    · simp only [ByteArray.size, maxLen] at hl
      simp_all [Ty.wf]
    · simp[Ty.cells,VRels,VRel]
  | .unit=>simp[okTy]at ho
  | .pair a b=>simp[okTy]at ho
  | .st fs =>
    simp only[okTy]at ho
    split at ho<;>try (cases ho;done)
    rename_i l hu
    simp only[Bool.and_eq_true,beq_iff_eq]at ho
    obtain⟨ho,hsz⟩:=ho
    cases fuel with
    |zero=>simp[DataW.trod]at h
    | succ n =>
      unfold DataW.trod at h
      rw[hu]at h
      split at h<;>first|(simp_all;done)|skip
      rename_i fs' he
      injection he with he;injection he with he;subst he
      split at h
      · rename_i hl
        simp only[Option.map_eq_some_iff]at h
        obtain⟨xs,hm,rfl⟩:=h
        obtain⟨d,⟨h1,h3⟩,h2⟩:=Qlq fs l.toList 0 n _ xs hs ho hm (by omega)
        refine⟨d,⟨h1,fun hw=>?_⟩,?_⟩
        · simp only [DataW.weights, hu] at hw
          show Ty.sized P fs (fldT P [t]) d
          simp only[fldT,hu]
          exact h3 hw
        grind [Ty.cells]
      · cases h
  | .arr m e =>
    simp only[okTy]at ho
    split at ho<;>try (cases ho;done)
    rename_i m' u hu
    simp only[Bool.and_eq_true,beq_iff_eq]at ho
    obtain⟨⟨⟨rfl,ho⟩,hsz⟩,hst⟩:=ho
    cases fuel with
    |zero=>simp[DataW.trod]at h
    | succ n =>
      unfold DataW.trod at h
      rw[hu]at h
      split at h<;>first|(simp_all;done)|skip
      rename_i m' u' he
      injection he with he;injection he with he1 he2;subst he1;subst he2
      split at h
      · rename_i hl
        simp only[Option.map_eq_some_iff]at h
        obtain⟨xs,hm,rfl⟩:=h
        obtain⟨g1,g2⟩:=Qgy hm
        rw[hst]at hl
        obtain⟨l,k1,k2,k3⟩:=many (t:=e) (R:=fun x=>e.wf x/\((DataW.weightsAll P u (xs.map (·.1))).all (· <=reachBytes)=true->e.sized P [u] x)) (c:=only (inF W)) (n:=m) (fun i hi=>by
          obtain⟨y,hy,hyx⟩:=g2 i i (by simp[hi])
          rw[hsz]at hy
          obtain⟨d,⟨j1,j2⟩,j3⟩:=Qfy e u n _ y hs ho hy
          exact⟨d,⟨j1,fun hw=>j2 (QcV (List.mem_map.2 ⟨y,List.mem_of_getElem? hyx,rfl⟩) hw)⟩,j3⟩) (by omega)
        refine⟨l,⟨⟨k1,fun x hx=>(k2 x hx).1⟩,fun hw=>?_⟩,?_⟩
        · simp only [DataW.weights, hu] at hw
          show ∀x∈l,Ty.sized P e (eltT P [t]) x
          simp only[eltT,hu]
          exact fun x hx=>(k2 x hx).2 hw
        rw[<-hl,List.take_length]at k3
        exact k3
      · cases h
  | .sl e =>
    simp only[okTy]at ho
    split at ho<;>try (cases ho;done)
    rename_i u hu
    simp only[Bool.and_eq_true,beq_iff_eq,Nat.blt_eq]at ho
    obtain⟨⟨ho,hsz⟩,hpos⟩:=ho
    rcases DataW.trod_slice hu h with⟨rfl,_⟩|⟨a,len,cap,elems,rest,n,_,rfl,rfl,_,hl,hm,hlen,hel,hsp,hns⟩
    · exact⟨[],⟨⟨by simp,by simp⟩,fun _=>⟨fun _ _=>by simp,by simp⟩⟩,by simp[Ty.cells,VRels,VRel]⟩
    obtain⟨hrl,hr⟩:=hsp (hs _)
    have each:∀i,i<cap->∃cs,(w':W.cells? 0 (a.add (i*e.sz)) e.sz=some cs)->True:=fun _ _=>⟨[],fun _=>trivial⟩
    have each:∀i,i<cap->∃cs y,W.cells? 0 (a.add (i*e.sz)) e.sz=some cs/\DataW.trod enc P W 0 spare true n u cs=some y:=by
      intro i hi
      by_cases hil:i<len
      · grind [Option.bind_eq_some_iff]
      · have h1 := hr (i - len) (by omega)
        grind [Option.bind_eq_some_iff]
    by_cases h0:cap=0
    · have : len = 0 := by omega
      subst h0;subst this
      exact⟨[],⟨⟨by simp,by simp⟩,fun _=>⟨fun _ _=>by simp,by simp⟩⟩,by simp[Ty.cells,VRels,VRel]⟩
    have cellsAt:∀i cs,W.cells? 0 (a.add (i*e.sz)) e.sz=some cs->cs.length=e.sz/\∀j,j<e.sz->W.cell? ((a.add (i*e.sz)).add j)=cs[j]?:=by
      intro i cs hcs
      unfold World.cells? at hcs
      rw[if_pos (Nat.zero_le _)]at hcs
      obtain⟨g1,g2⟩:=Qgy hcs
      refine⟨by simpa using g1,fun j hj=>?_⟩
      obtain⟨y,k1,k2⟩:=g2 j j (by simp[hj])
      rw[k1,k2]
    obtain⟨cs0,y0,hc0,_⟩:=each 0 (by omega)
    obtain⟨q1,q2⟩:=cellsAt 0 cs0 hc0
    have hcell0:=q2 0 hpos
    rw[List.getElem?_eq_getElem (by omega)]at hcell0
    obtain⟨b,off,spot⟩:=a
    have hspot:spot=none:=by simpa[Addr.add]using World.cell?_spot hcell0
    subst hspot
    have hb:∃C e fr,W.heap[b]?=some (.cells C e fr):=by
      grind [World.cell?,Addr.add]
    obtain⟨C,et,fr,hb⟩:=hb
    have hcell:∀i cs,W.cells? 0 ((⟨b,off,none⟩:Addr).add (i*e.sz)) e.sz=some cs->i<cap->(C.toList.drop (off+i*e.sz)).take e.sz=cs:=by
      intro i cs hcs hi
      obtain⟨k1,k2⟩:=cellsAt i cs hcs
      refine List.ext_getElem? fun j=>?_
      by_cases hj:j<e.sz
      · simp_all [Go.WideShapes.add_plain,World.cell?]
      grind
    have hCs:len*e.sz<=(C.toList.drop off).length:=by
      by_cases hl0:len=0
      · subst hl0;simp
      obtain⟨cs,y,hcs,_⟩:=each (len-1) (by omega)
      have h1:=hcell (len-1) cs hcs (by omega)
      obtain⟨k1,_⟩:=cellsAt (len-1) cs hcs
      have h2:=congrArg List.length h1
      rw[k1,List.length_take,List.length_drop]at h2
      rw[List.length_drop]
      have h3:len*e.sz=(len-1)*e.sz+e.sz:=by
        rw[<-Nat.succ_mul];congr 1;omega
      omega
    have eachL:∀i,i<len->∃cs y,W.cells? 0 ((⟨b,off,none⟩:Addr).add (i*e.sz)) e.sz=some cs/\DataW.trod enc P W 0 spare true n u cs=some y/\y∈elems:=by
      intro i hi
      have h1:=hel i hi
      rw[List.getElem?_eq_getElem (by omega),hsz,Option.bind_eq_some_iff]at h1
      obtain⟨cs,hcs,hy⟩:=h1
      exact⟨cs,_,hcs,hy,List.getElem_mem _⟩
    obtain⟨l,k1,k2,k3⟩:=many (t:=e) (R:=fun x=>e.wf x/\((DataW.weightsAll P u (elems.map (·.1))).all (· <=reachBytes)=true->e.sized P [u] x)) (c:=only (inF W)) (n:=len) (cs:=C.toList.drop off) (fun i hi=>by
      obtain⟨cs,y,hcs,hy,hyx⟩:=eachL i hi
      rw[List.drop_drop,hcell i cs hcs (by omega)]
      obtain⟨d,⟨j1,j2⟩,j3⟩:=Qfy e u n cs y hs ho hy
      exact⟨d,⟨j1,fun hw=>j2 (QcV (List.mem_map.2 ⟨y,hyx,rfl⟩) hw)⟩,j3⟩) hCs
    have k2':∀x∈l,e.wf x:=fun x hx=>(k2 x hx).1
    refine⟨l,⟨⟨by grind [maxLen],k2'⟩,fun hw=>?_⟩,?_⟩
    · replace hw : (DataW.weights P t (.slice (elems.map (·.1)) (rest.map (·.1)))).all (· <= reachBytes) = true := hw
      simp only[DataW.weights,hu,List.all_cons,List.all_append,Bool.and_eq_true,decide_eq_true_eq,List.length_map]at hw
      refine⟨fun v hv=>?_,?_⟩
      · simp only [eltT, hu, List.mem_singleton] at hv
        subst hv
        refine Nat.le_trans (Nat.mul_le_mul_right _ ?_) hw.1
        show List.length l<=_
        omega
      · show ∀ x ∈ l, Ty.sized P e (eltT P [t]) x
        simp only[eltT,hu]
        exact fun x hx=>(k2 x hx).2 hw.2.1
    simp only[Ty.cells,VRels,VRel]
    have hll:(l.flatMap e.cells).length=l.length*e.sz:=Qdb (.arr l.length e) l ⟨rfl,k2'⟩
    refine⟨_,[],rfl,.inr ⟨b,off,cap,C,et,fr,by rw[k1],by omega,hll,Qa0 hb,hb,?_⟩,rfl⟩
    have:=Qgg (vs:=(C.toList.drop off).drop (len*e.sz)) k3
    rwa [List.take_append_drop]at this
termination_by structural ty=>ty
theorem Qlq : ∀ (ty : Ty) (fs : List Field) (off fuel : Nat) (cs : List Value) (xs : List (DataW H × List MemPlace)), (∀ b, spare b = true) -> okFs P ty fs off = true ->
    (fs.mapM fun f=>DataW.trod enc P W 0 spare true fuel f.type ((cs.drop f.offset).take (P.cellsOf f.type)))=some xs->off+ty.sz<=cs.length->
    ∃d:ty.D,(ty.wf d/\((DataW.weightsEach P (fs.map (·.type)) (xs.map (·.1))).all (· <=reachBytes)=true->ty.sized P (fs.map (·.type)) d))/\VRels (only (ok:=ok) (inF W)) W (ty.cells d) ((cs.drop off).take ty.sz):=by
  intro ty fs off fuel cs xs hs ho h hl
  match ty with
  | .unit=>exact⟨(),⟨trivial,fun _=>trivial⟩,by simp[Ty.cells,VRels,Ty.sz]⟩
  | .pair a b =>
    cases fs with
    |nil=>simp[okFs]at ho
    | cons f fs =>
      simp only[okFs,Bool.and_eq_true,beq_iff_eq]at ho
      obtain⟨⟨⟨rfl,h1⟩,h2⟩,h3⟩:=ho
      simp only[List.mapM_cons,Option.bind_eq_bind,Option.bind_eq_some_iff]at h
      obtain⟨y,hy,ys,hys,hxs⟩:=h
      have hxs:y::ys=xs:=by simpa using hxs
      subst hxs
      rw[h2]at hy
      simp only[Ty.sz]at hl
      obtain⟨d1,⟨g1,w1⟩,g2⟩:=Qfy a f.type fuel _ y hs h1 hy
      obtain⟨d2,⟨g3,w2⟩,g4⟩:=Qlq b fs (f.offset+a.sz) fuel cs ys hs h3 hys (by omega)
      refine⟨(d1,d2),⟨⟨g1,g3⟩,fun hw=>?_⟩,?_⟩
      · simp only [List.map_cons, DataW.weightsEach, List.all_append, Bool.and_eq_true] at hw
        exact⟨w1 hw.1,w2 hw.2⟩
      simp only[Ty.cells,Ty.sz]
      rw[List.take_add]
      refine Qbm g2 ?_
      rw[List.drop_drop]
      exact g4
  | .int _=>simp[okFs]at ho
  | .bool=>simp[okFs]at ho
  | .str=>simp[okFs]at ho
  | .arr _ _=>simp[okFs]at ho
  | .sl _=>simp[okFs]at ho
  | .st _=>simp[okFs]at ho
termination_by structural ty=>ty
end
def Ty.val:(t:Ty)->t.D->AV
 | .arr n t,d=> .agg (Ty.cells (.arr n t) d)
 | .st fs,d=> .agg (Ty.cells (.st fs) d)
 | .int k,n=> .int k n
 | .bool,b=> .bool b
 | .str,s=> .str s
 | .sl t,l=> .fsl (List.flatMap (Ty.cells t) l) (List.length l) t.sz
 | .unit,_=> .any
 | .pair _ _,_=> .any
theorem QoD (ty:Ty) {t:TypeId} {base:Nat} {v:Value} {d0:DataW H} {ps:List MemPlace} (ho:okTy P ty t=true) (hv:Value.okWide P W .any base t v) (h:DataW.Trod enc P W 0 (fun _=>true) true t v d0 ps):
  ∃d:ty.D,(ty.wf d/\((d0.weights P t).all (· <=reachBytes)=true->ty.sized P [t] d))/\VRel (only (ok:=ok) (inF W)) W (ty.val d) v:=by
 obtain⟨fuel,h⟩:=h
 obtain⟨d,h1,h2⟩:=Qfy (spare:=fun _=>true) ty t fuel _ _ (fun _=>rfl) ho h
 refine⟨d,h1,?_⟩
 have one:∀(u:AV),VRels (only (ok:=ok) (inF W)) W [u] v.cells.toList->(∀cs,v≠ .agg cs)->VRel (only (ok:=ok) (inF W)) W u v:=by
  intro u hu hn
  have:v.cells= #[v]:=by cases v<;>first|rfl|exact absurd rfl (hn _)
  simp_all [VRels]
 cases ty with
 |unit=>simp[okTy]at ho
 |pair a b=>simp[okTy]at ho
 |arr n e=>
  simp only[okTy]at ho
  split at ho<;>try (cases ho;done)
  rename_i hu
  simp only[Value.okWide,hu]at hv
  obtain⟨cs,rfl,_⟩:=hv
  simp only[Ty.val,VRel]
  exact⟨_,rfl,h2⟩
 |st fs=>
  simp only[okTy]at ho
  split at ho<;>try (cases ho;done)
  rename_i hu
  simp only[Value.okWide,hu]at hv
  obtain⟨cs,rfl,_⟩:=hv
  simp only[Ty.val,VRel]
  exact⟨_,rfl,h2⟩
 |int k=>
  refine one _ h2 ?_
  rintro cs rfl
  simp only[okTy]at ho
  split at ho<;>try (cases ho;done)
  rename_i hu
  simp[Value.okWide,hu,Cell.okWide,Cell.ok]at hv
 |bool=>
  refine one _ h2 ?_
  rintro cs rfl
  simp only[okTy]at ho
  split at ho<;>try (cases ho;done)
  rename_i hu
  simp[Value.okWide,hu,Cell.okWide,Cell.ok]at hv
 |str=>
  refine one _ h2 ?_
  rintro cs rfl
  simp only[okTy]at ho
  split at ho<;>try (cases ho;done)
  rename_i hu
  simp[Value.okWide,hu,Cell.okWide,Cell.ok]at hv
 |sl e=>
  refine one _ h2 ?_
  rintro cs rfl
  simp only[okTy]at ho
  split at ho<;>try (cases ho;done)
  rename_i hu
  simp[Value.okWide,hu,Cell.okWide,Cell.ok]at hv
theorem arg_in (ty:Ty) {t:TypeId} {base:Nat} {v:Value} {d:DataW H} {ps:List MemPlace} (ho:okTy P ty t=true) (hv:Value.okWide P W .any base t v) (h:DataW.Trod enc P W 0 (fun _=>true) true t v d ps):
  ∃d:ty.D,ty.wf d/\VRel (only (ok:=ok) (inF W)) W (ty.val d) v:=by
 obtain⟨e,h1,h2⟩:=QoD (ok:=ok) ty ho hv h
 exact⟨e,h1.1,h2⟩
end
end Go.AM
namespace Go.AM
theorem QjV {b:Bool}:(AV.bool b).cells=[.bool b]:=rfl
theorem Qm5 {b:Bool}:(AV.bool b).one=true:=rfl
theorem Qm6 {b:Bool}:(AV.bool b).boxable=true:=rfl
theorem QjW {b g o:Nat}:aNil (.ptr b g o)=some (.ptr b g o):=rfl
theorem Qiw {cs:List AV}:aNil (.fptr cs)=some (.fptr cs):=rfl
end Go.AM
namespace Go.AM.SD
open Go.AM
def ints (l:List Int):List AV:=l.map (.int .i64)
abbrev sli (l:List Int):AV:= .fsl (ints l) l.length 1
theorem Qac (l:List Int):noRefs (ints l)=true:=by
 induction l with
 |nil=>rfl
 |cons x l ih=>simp only[ints,List.map_cons,noRefs,noRef,Bool.true_and];exact ih
theorem QeC {l:List Int}:(ints l).length=l.length:=by simp[ints]
theorem lenW:type_of% @List.length_map.{0,0}/\type_of% @List.length_append.{0}/\type_of% @List.length_cons.{0}/\type_of% @List.length_nil.{0}/\type_of% @QeC:=⟨@List.length_map.{0,0},@List.length_append.{0},@List.length_cons.{0},@List.length_nil.{0},@QeC⟩
theorem QaP {l:List Int} {i:Nat} {x:Int} (h:l[i]?=some x):((ints l).drop i).head?=some (.int .i64 x):=by
 rw[List.head?_drop];simp[ints,h]
abbrev nz (l:List Nat):List Int:=l.map fun x:Nat=>(x:Int)
theorem nz_at {l:List Nat} {i x:Nat} (h:l[i]?=some x):(nz l)[i]?=some (x:Int):=by simp[nz,h]
theorem Qal {α:Type} {l:List α} {i:Nat} (h:i<l.length):∃x,l[i]?=some x:=⟨l[i],List.getElem?_eq_getElem h⟩
theorem Qak {a b:List AV}:noRefs (a++b)=(noRefs a&&noRefs b):=by
 induction a with
 |nil=>simp[noRefs]
 |cons x a ih=>simp only[List.cons_append,noRefs,ih,Bool.and_assoc]
theorem QaR {α:Type} {f:α->List AV} (h:∀x,noRefs (f x)=true) (l:List α):noRefs (l.flatMap f)=true:=by
 induction l with
 |nil=>rfl
 |cons x l ih=>rw[List.flatMap_cons,Qak,h,ih];rfl
theorem Qbg {α:Type} {f:α->List AV} {k:Nat} (h:∀x,(f x).length=k) (l:List α):(l.flatMap f).length=l.length*k:=by
 induction l with
 |nil=>simp
 |cons x l ih=>rw[List.flatMap_cons,List.length_append,h,ih,List.length_cons,Nat.succ_mul];omega
theorem Qbe {α:Type} {f:α->List AV} {k:Nat} (h:∀x,(f x).length=k):∀{l:List α} {i:Nat} {x:α},l[i]?=some x->(l.flatMap f).drop (i*k)=f x++(l.drop (i+1)).flatMap f
 |[],_,_,hx=>by simp at hx
 |y::l,0,x,hx=>by
  simp at hx;subst hx;simp
 |y::l,i+1,x,hx=>by
  simp at hx
  rw[List.flatMap_cons,List.drop_append,h,List.drop_of_length_le (by rw[h,Nat.succ_mul];omega),List.nil_append]
  have:(i+1)*k-k=i*k:=by rw[Nat.succ_mul];omega
  rw[this,Qbe h hx,List.drop_succ_cons]
structure Eg where
 fr:Int
 ev:Int
 to:Int
deriving DecidableEq
def egC (e:Eg):List AV:=[.int .i64 e.fr,.int .i64 e.ev,.int .i64 e.to]
abbrev egs (l:List Eg):AV:= .fsl (l.flatMap egC) l.length 3
theorem Qat (l:List Eg):noRefs (l.flatMap egC)=true:=QaR (fun x=>rfl) l
theorem Qbr (l:List Eg):noRef (egs l)=true:=by simp only[noRef];exact Qat l
theorem QaX {l:List Eg} {i:Nat} {e:Eg} (h:l[i]?=some e):(l.flatMap egC).drop (i*3)= .int .i64 e.fr:: .int .i64 e.ev:: .int .i64 e.to::(l.drop (i+1)).flatMap egC:=Qbe (f:=egC) (k:=3) (fun _=>rfl) h
theorem Qaq (l:List Int):noRef (sli l)=true:=by simp only[noRef];exact Qac l
structure Au where
 al:List Int
 n:Int
 ms:List Int
 es:List Eg
abbrev auV (a:Au):AV:= .agg [sli a.al,.int .i64 a.n,sli a.ms,egs a.es]
def eg (e:Ed):Eg:=⟨e.1,e.2.1,e.2.2⟩
def au (a:Aut):Au:=⟨nz a.al,a.n,nz a.ms,a.es.map eg⟩
def rmC (r:Rm):List AV:=[.int .i64 r.st,.int .i64 r.rank,.int .i64 r.reason,.int .i64 r.ev]
theorem QaA (l:List Rm):noRefs (l.flatMap rmC)=true:=QaR (fun x=>rfl) l
end Go.AM.SD
namespace Go.AM.SD
def edC (e:Ed):List AV:=[.int .i64 (e.1:Int),.int .i64 (e.2.1:Int),.int .i64 (e.2.2:Int)]
abbrev egsN (l:List Ed):AV:= .fsl (l.flatMap edC) l.length 3
theorem Qaf (l:List Ed):noRefs (l.flatMap edC)=true:=QaR (fun x=>rfl) l
theorem Qao (l:List Ed):noRef (egsN l)=true:=by simp only[noRef];exact Qaf l
theorem Qbb {l:List Ed} {i:Nat} {e:Ed} (h:l[i]?=some e):(l.flatMap edC).drop (i*3)= .int .i64 (e.1:Int):: .int .i64 (e.2.1:Int):: .int .i64 (e.2.2:Int)::(l.drop (i+1)).flatMap edC:=Qbe (f:=edC) (k:=3) (fun _=>rfl) h
theorem Qlr (l:List Ed):egs (l.map eg)=egsN l:=by
 unfold egs egsN
 rw[List.length_map,List.flatMap_map];rfl
abbrev sliN (l:List Nat):AV:= .fsl (ints (nz l)) l.length 1
theorem Qdc (l:List Nat):sli (nz l)=sliN l:=by unfold sli sliN;rw[List.length_map]
theorem Qab (l:List Nat):noRef (sliN l)=true:=by simp only[noRef];exact Qac _
theorem Qa5 {l:List Nat} {i x:Nat} (h:l[i]?=some x):((ints (nz l)).drop i).head?=some (.int .i64 (x:Int)):=QaP (nz_at h)
abbrev aV (a:Aut):AV:= .agg [sliN a.al,.int .i64 (a.n:Int),sliN a.ms,egsN a.es]
theorem Qm7 (a:Aut):auV (au a)=aV a:=by
 show AV.agg [sli (nz a.al),.int .i64 (a.n:Int),sli (nz a.ms),egs (a.es.map eg)]=_
 rw[Qdc,Qdc,Qlr]
theorem Qn2 (a:Aut):noRef (aV a)=true:=by rw[aV,noRef,noRefs,noRefs,noRefs,noRefs,Qab,Qab,Qao];rfl
def bls (l:List Bool):List AV:=l.map .bool
theorem Qas (l:List Bool):noRefs (bls l)=true:=by
 induction l with
 |nil=>rfl
 |cons x l ih=>simp only[bls,List.map_cons,noRefs,noRef,Bool.true_and];exact ih
theorem Qls {l:List Bool}:(bls l).length=l.length:=by simp[bls]
theorem Qa3 {a b:List Int}:ints (a++b)=ints a++ints b:=by simp[ints]
theorem Qbn {a b:List Nat}:nz (a++b)=nz a++nz b:=by simp
theorem Qhe {α:Type} {l:List α} {x:α} (h:x∈l):∃j:Nat,l[j]?=some x/\j<l.length:=by
 obtain⟨j,hj⟩:=List.mem_iff_getElem?.1 h
 exact⟨j,hj,(List.getElem?_eq_some_iff.1 hj).1⟩
end Go.AM.SD
namespace Go.AM
theorem QjX {s:List UInt8}:(AV.str s).cells=[.str s]:=rfl
theorem Qm8 {s:List UInt8}:(AV.str s).one=true:=rfl
theorem Qm9 {s:List UInt8}:(AV.str s).boxable=true:=rfl
theorem QdX {a b:List UInt8}:aBin .add (.str a) (.str b)=if a.length+b.length<=140737488355328 then some (.str (a++b))else none:=rfl
open SD
theorem wW:type_of% @Qfh/\type_of% @wordsM/\type_of% @QjW/\type_of% @Qiw/\type_of% @Int.one_mul/\type_of% @Qls/\type_of% @QeC/\type_of% @QjV/\type_of% @Qm5/\type_of% @Qm6/\type_of% @List.length_replicate.{0}/\type_of% @QjX/\type_of% @Qm8/\type_of% @Qm9/\type_of% @Qjo/\type_of% @QmM/\type_of% @Qeu/\type_of% @QdX:=
 ⟨@Qfh,@wordsM,@QjW,@Qiw,@Int.one_mul,@Qls,@QeC,@QjV,@Qm5,@Qm6,@List.length_replicate,@QjX,@Qm8,@Qm9,@Qjo,@QmM,@Qeu,@QdX⟩
end Go.AM
namespace Go.AM.SE
open Go.Proofs
set_option maxHeartbeats 4000000
noncomputable section
def cf:YA.Cf:={most:= .pure,always:=[41,177,178,179,181,182,217,220,221,222,243,244,245,246,247,248,249,250,260].map fun k=>(k,.heap),value:= .pure,eqn:=false}
def s31:SFn:=by
 refine(?f:YA.Yt Tryz.prog cf 31 [[4],[6,7,8,9],[0,1,10],[4,10,11],[],[14,15],[5,16,17,18,19,20,21,22,23],[0,1,12,13,24],[4,24,25],[0,1,12,13]]) ?s ?h
 case h=>exact YA.rr
 exact fun s _=>s
def s33:SFn:=by
 refine(?f:YA.Yt Tryz.prog cf 33 [[0,1,4],[2,3,5,6,7,8,9,10,11,12,13,14,15,16,17,18,19,20,21,22,23,24,25,26,27,28,29,30]]) ?s ?h
 case h=>exact YA.rr
 exact fun s _=>s
def s38:SFn:=by
 refine(?f:YA.Yt Tryz.prog cf 38 [[4],[0,1,5,6,7,8]]) ?s ?h
 case h=>exact YA.rr
 exact fun s _=>s
def s41:SFn:=by
 refine(?f:YA.Yt Tryz.prog cf 41 [[2],[3],[0,4],[0,4,5,6,7]]) ?s ?h
 case h=>exact YA.rr
 exact fun s _=>s
def s106:SFn:=by
 refine(?f:YA.Yt Tryz.prog cf 106 [[4],[6,7,8,9],[0,1,10],[4,10,11],[],[14,15],[5,16,17,18,19,20,21,22,23],[0,1,12,13,24],[4,24,25],[0,1,12,13]]) ?s ?h
 case h=>exact YA.rr
 exact fun s _=>s
def s111:SFn:=by
 refine(?f:YA.Yt Tryz.prog cf 111 [[4],[6],[],[9,10],[11,12,13,14,15],[0,1,7,8,5,16,17],[4,5,16,18],[0,1,7,8]]) ?s ?h
 case h=>exact YA.rr
 exact fun s _=>s
def s112:SFn:=by
 refine(?f:YA.Yt Tryz.prog cf 112 [[0,2],[5,6,7],[8],[1,3,9,10],[2,3,9,12,13,14],[1,11],[11,16,17,18],[1,15],[2,15,19,20,21,22,23],[24],[1,4,25,26],[1,4,25,27,28]]) ?s ?h
 case h=>exact YA.rr
 exact fun s _=>s
def s144:SFn:=by
 refine(?f:YA.Yt Tryz.prog cf 144 [[4,5],[10,11],[12],[13,14],[15,16,17,18,19,20,21],[22,23,24,25,26],[9,27,28,29],[9,27,30],[0,1,6,7,8,52,42,51,48,50,49,47,46,45,43,44,41,39,40,38,36,37,31,32,33,34,35,53]]) ?s ?h
 case h=>exact YA.rr
 exact fun s _=>s
def s150:SFn:=by
 refine(?f:YA.Yt Tryz.prog cf 150 [[0],[12,13,14,15],[16,17],[1,3,18,19],[18,20,21,22],[23],[],[26,27],[5,28,29,30],[31],[24,25,32,33],[34],[],[35,36,37],[38,42,43,44,45,46,47,48,41,49,50,8],[9],[51,52,53,54,55,56,57],[51,58,59,60,61,62],[],[66,67,68],[69,70,71,72,73],[74,75,76,77,78,79,80],[81,82,83,84,85],[11,74,86,87,88,89,90,91,92,93,94,95,96,97,98,99],[100],[63,64,65,39,40],[1,4,6,7,101,102,103],[3,104]]) ?s ?h
 case h=>exact YA.rr
 exact fun s _=>s
def s192:SFn:=by
 refine(?f:YA.Yt Tryz.prog cf 192 [[4],[],[],[10,11,12,13],[15,16,17,21],[0,1,7,8,9,32,26,31,30,27,29,28,20,18,19,5,6,14],[5,6,14,23,24,25,33],[0,1,7,8,9,32,26,31,30,27,29,28,20,18,19,22],[4,22,34],[0,1,7,8,9,32,26,31,30,27,29,28,20,18,19]]) ?s ?h
 case h=>exact YA.rr
 exact fun s _=>s
def s193:SFn:=by
 refine(?f:YA.Yt Tryz.prog cf 193 [[0,2],[6],[],[10,11,12,13],[15,16,17,18,24,25,29,30,36],[1,7,8,9,69,63,68,65,67,66,64,62,59,61,60,58,35,32,34,33,31,28,27,26,23,20,22,21,19,4,3,14],[14,38,39,40,41,42,43],[1,7,8,9,69,63,68,65,67,66,64,62,59,61,60,58,35,32,34,33,31,28,27,26,23,20,22,21,19,4,3,37],[2,37,44],[3,45,46,47,48,49,50,51],[4,5,52,53,54,55,56,57],[1,7,8,9,69,63,68,65,67,66,64,62,59,61,60,58,35,32,34,33,31,28,27,26,23,20,22,21,19,70],[2,70,71],[1,7,8,9,69,63,68,65,67,66,64,62,59,61,60,58,35,32,34,33,31,28,27,26,23,20,22,21,19]]) ?s ?h
 case h=>exact YA.rr
 exact fun s _=>s
def s197:SFn:=by
 refine(?f:YA.Yt Tryz.prog cf 197 [[4],[0,1,5,6,7,8,9,10,11,12,13,14,15,16]]) ?s ?h
 case h=>exact YA.rr
 exact fun s _=>s
def s198:SFn:=by
 refine(?f:YA.Yt Tryz.prog cf 198 [[2],[0,3,4,5]]) ?s ?h
 case h=>exact YA.rr
 exact fun s _=>s
def s199:SFn:=by
 refine(?f:YA.Yt Tryz.prog cf 199 [[0,4],[10,11,12,13,9,14,15,6],[1,17,18,19,20,21,16,22,23,8],[2,5,7,24,25,26,27,28]]) ?s ?h
 case h=>exact YA.rr
 exact fun s _=>s
def s227:SFn:=by
 refine(?f:YA.Yt Tryz.prog cf 227 [[2],[0,3,4,5]]) ?s ?h
 case h=>exact YA.rr
 exact fun s _=>s
def s228:SFn:=by
 refine(?f:YA.Yt Tryz.prog cf 228 [[6,7],[12,13],[14],[15,16],[17,18,19,20,21,22,23],[24,25,26,27,28,29,30],[11,31,32,33],[11,31,34],[0,1,2,8,9,10,47,46,40,44,45,43,41,42,35,36,37,38,39,48]]) ?s ?h
 case h=>exact YA.rr
 exact fun s _=>s
def s229:SFn:=by
 refine(?f:YA.Yt Tryz.prog cf 229 [[0,4],[1,2,5,6,7,8]]) ?s ?h
 case h=>exact YA.rr
 exact fun s _=>s
def s230:SFn:=by
 refine(?f:YA.Yt Tryz.prog cf 230 [[0,4],[1,2,5,6,7,8]]) ?s ?h
 case h=>exact YA.rr
 exact fun s _=>s
theorem ok31:okFn Tryz.prog 31 s31=true:=by kernel_rfl
theorem ok33:okFn Tryz.prog 33 s33=true:=by kernel_rfl
theorem ok38:okFn Tryz.prog 38 s38=true:=by kernel_rfl
theorem ok41:okFn Tryz.prog 41 s41=true:=by kernel_rfl
theorem ok106:okFn Tryz.prog 106 s106=true:=by kernel_rfl
theorem ok111:okFn Tryz.prog 111 s111=true:=by kernel_rfl
theorem ok112:okFn Tryz.prog 112 s112=true:=by kernel_rfl
theorem ok144:okFn Tryz.prog 144 s144=true:=by kernel_rfl
theorem ok150:okFn Tryz.prog 150 s150=true:=by kernel_rfl
theorem ok192:okFn Tryz.prog 192 s192=true:=by kernel_rfl
theorem ok193:okFn Tryz.prog 193 s193=true:=by kernel_rfl
theorem ok197:okFn Tryz.prog 197 s197=true:=by kernel_rfl
theorem ok198:okFn Tryz.prog 198 s198=true:=by kernel_rfl
theorem ok199:okFn Tryz.prog 199 s199=true:=by kernel_rfl
theorem ok227:okFn Tryz.prog 227 s227=true:=by kernel_rfl
theorem ok228:okFn Tryz.prog 228 s228=true:=by kernel_rfl
theorem ok229:okFn Tryz.prog 229 s229=true:=by kernel_rfl
theorem ok230:okFn Tryz.prog 230 s230=true:=by kernel_rfl
end
end Go.AM.SE
namespace Go.AM.SE
open Go.Proofs Go.AM.SD
theorem PSpec.weak {P:Program} {f:Nat} {args bs:List AV} {v:AV} (hL:∀(ok:Okc) (c:Ctx ok) (w:World) (vs:List Value),HRel c .e w->VRels c w args vs->VRels c w bs vs) (hn:noRefs args=true) (hp:PSpec P f bs v):PSpec P f args v:=by
 obtain⟨n1,n2,h',hc,hs⟩:=hp
 exact⟨hn,n2,h',hc,fun c w cargs H ha=>hs c w cargs H (hL _ c w _ H ha)⟩
def indexR (l:List Int) (n:Int):Int:=if n∈l then(l.findIdx (· ==n):Int)else-1
theorem _root_.Go.AM.au0 {p:Prop} (h:p:=by repeat (first|exact RO.zero|exact RO.e|refine RO.set rfl ?_)):p:=h
theorem _root_.Go.AM.au1 {p:Prop} (h:p:=by repeat' (first|exact RB.nil|(refine RnL.same ?_;first|rfl|(simp only[noRef,noRefs,Qak,Bool.and_self,Bool.and_true,Bool.true_and,Qac,Qat,Qaf,QaA,Qas,Qaq,Qab,Qbr,Qao];done))|exact RnM.keyM rfl|exact RnL.nil|exact(True.intro:RnM _ _ _ [] [])|refine RnL.cons ?_ ?_|(refine Rn.same ?_;first|rfl|(simp only[noRef,noRefs,Qak,Bool.and_self,Bool.and_true,Bool.true_and,Qac,Qat,Qaf,QaA,Qas,Qaq,Qab,Qbr,Qao];done))|exact Rn.x1 rfl rfl|exact Rn.x2 rfl rfl|exact Rn.x3 rfl rfl|exact Rn.x4 rfl rfl|exact Rn.x5 rfl|exact Rn.x6 rfl|exact Rn.x7 rfl|refine RB.newnil rfl rfl ?_|refine RB.cells rfl rfl rfl ?_ ?_|refine RB.map rfl rfl rfl ?_ ?_|refine RB.cellsB rfl rfl ?_ ?_|refine RB.mapB rfl rfl ?_ ?_)):p:=h
theorem _root_.Go.AM.au2 {p:Prop} (h:p:=by repeat (first|exact RT.nil|(refine RT.cons ?_ ?_; · (first|exact Rn.any|exact Rn.x1 rfl rfl|exact Rn.x2 rfl rfl|exact Rn.x3 rfl rfl|exact Rn.x4 rfl rfl|exact Rn.x5 rfl|exact Rn.x6 rfl|exact Rn.x7 rfl|(refine Rn.slot ?_ ?_;(first|rfl|(rw[Int.natCast_add];rfl));(first|rfl|(simp only[noRef,noRefs,Qak,Bool.and_self,Bool.and_true,Bool.true_and,Qac,Qat,Qaf,QaA,Qas,Qaq,Qab,Qbr,Qao];done)))|(refine Rn.fn ?_ ?_<;>(repeat' (first|exact RnL.nil|refine RnL.cons ?_ ?_|exact Rn.same rfl|exact Rn.x6 rfl|exact Rn.x2 rfl rfl|exact Rn.x5 rfl|exact Rn.x1 rfl rfl))))))):p:=h
theorem index70 (l : List Int) (n : Int) (hl : l.length <= 140737488355328) : PSpec Tryz.prog 111 [sli l, .int .i64 n] (.int .i64 (indexR l n)) := by
  refine PSpec.Qau 64 ok111 rfl (by(try simp only[noRefs,Qac,Qat,Qaf,QaA,Qas,noRef,Bool.and_self,Bool.and_true])<;>rfl) rfl ?_
  simp(disch:=first|omega|(simp only[lenW]<;>omega)) only[s111,wV,simprocAttr]
  refine Qba 100 (fun i:Nat=>[(0,sli l),(1,.int .i64 n),(7,.int .i64 l.length),(8,.int .i64 i)]) (fun _=>[]) (fun i=>i<=l.length/\∀(j:Nat) y,j<i->l[j]?=some y->y≠n) (fun i=>l.length-i) 0 ⟨[],rfl,au0,au1,au2⟩ ⟨Nat.zero_le _,fun j y hj=>absurd hj (Nat.not_lt_zero _)⟩ ?_
  rintro i ⟨hi,hb⟩
  by_cases hlt:i<l.length
  · obtain ⟨x, hx⟩ := Qal hlt
    by_cases h0:n=x
    · simp (disch := first | omega | (simp only [lenW] <;> omega)) only [hlt, QaP hx, h0, wV, simprocAttr]
      refine⟨.inr trivial,_,rfl,?_⟩
      have h1:n∈l:=h0▸List.mem_of_getElem? hx
      have h2:l.findIdx (· ==n)=i:=by
        rw[List.findIdx_eq hlt]
        refine⟨by rw[List.getElem?_eq_getElem hlt]at hx;cases hx;simp[h0],fun j hj=>?_⟩
        have:=hb j l[j] hj (List.getElem?_eq_getElem (by omega))
        simpa using this
      subst h0
      simp only[indexR,if_pos h1,h2];rfl
    · simp (disch := first | omega | (simp only [lenW] <;> omega)) only [hlt, QaP hx, h0, wV, simprocAttr]
      refine⟨i+1,by omega,⟨by omega,fun j y hj hy=>?_⟩,⟨[],rfl,au0,au1,au2⟩⟩
      by_cases e:j=i
      · subst e;rw[hx]at hy;cases hy;exact fun e=>h0 e.symm
      · exact hb j y (by omega) hy
  · have : n ∉ l := fun h => by
      obtain⟨j,hj,hjl⟩:=Qhe h
      exact hb j n (by omega) hj rfl
    simp(disch:=first|omega|(simp only[lenW]<;>omega)) only[hlt,wV,simprocAttr]
    exact⟨.inr trivial,_,rfl,by simp only[indexR,if_neg this];rfl⟩
theorem contains62 (l:List Int) (n:Int) (hl:l.length<=140737488355328):PSpec Tryz.prog 38 [sli l,.int .i64 n] (.bool (decide (n∈l))):=by
  refine PSpec.Qau 64 ok38 rfl (by(try simp only[noRefs,Qac,Qat,Qaf,QaA,Qas,noRef,Bool.and_self,Bool.and_true])<;>rfl) rfl ?_
  simp(disch:=first|omega|(simp only[lenW]<;>omega)) only[s38,wV,simprocAttr]
  refine cp (index70 l n hl) ?_
  have e:decide (0<=indexR l n)=decide (n∈l):=by
    unfold indexR
    by_cases h:n∈l
    · rw[if_pos h];simp[h]
    · rw[if_neg h];simp[h]
  by_cases h:n∈l
  · have e2 : 0 <= indexR l n := by rw [decide_eq_decide] at e; exact e.2 h
    simp(disch:=first|omega|(simp only[lenW]<;>omega)) only[e2,wV,simprocAttr]
    exact⟨.inr trivial,_,rfl,by simp[resOf,QaD,h]⟩
  · have e2 : ¬ 0 <= indexR l n := by rw [decide_eq_decide] at e; exact fun h2 => h (e.1 h2)
    simp(disch:=first|omega|(simp only[lenW]<;>omega)) only[e2,wV,simprocAttr]
    exact⟨.inr trivial,_,rfl,by simp[resOf,QaD,h]⟩
end Go.AM.SE
namespace Go.AM.SE
open Go.Proofs Go.AM.SD
def SetOk (l:List Int) (n:Int):Prop:=(∀x∈l,0<=x/\x<n)/\l.Pairwise (· < ·)
theorem SetOk.up {l:List Int} {n:Int} (h:SetOk l n) {i:Nat} {x y:Int} (hx:l[i]?=some x) (hy:l[i+1]?=some y):x<y:=by
 obtain⟨h1,e1⟩:=List.getElem?_eq_some_iff.1 hx
 obtain⟨h2,e2⟩:=List.getElem?_eq_some_iff.1 hy
 have:=List.pairwise_iff_getElem.1 h.2 i (i+1) h1 h2 (by omega)
 rw[e1,e2]at this;exact this
theorem SetOk.nz {l:List Nat} {n:Nat} (h1:∀x∈l,x<n) (h2:l.Pairwise (· < ·)):SetOk (nz l) n:=by
 refine⟨fun x hx=>?_,?_⟩
 ·obtain ⟨a, ha, rfl⟩ := List.mem_map.1 hx
  have:=h1 a ha;omega
 ·rw[List.pairwise_map];exact h2.imp fun h=>by omega
theorem set49 (l:List Int) (n:Int) (hl:l.length<=140737488355328) (h:SetOk l n):PSpec Tryz.prog 192 [sli l,.int .i64 n] (.int .i64 0):=by
  refine PSpec.Qau 64 ok192 rfl (by(try simp only[noRefs,Qac,Qat,Qaf,QaA,Qas,noRef,Bool.and_self,Bool.and_true])<;>rfl) rfl ?_
  simp(disch:=first|omega|(simp only[lenW]<;>omega)) only[s192,wV,simprocAttr]
  refine Qba 100 (fun i:Nat=>[(0,sli l),(1,.int .i64 n),(7,sli l),(8,.int .i64 l.length),(9,.int .i64 i)]) (fun _=>[]) (fun i=>i<=l.length) (fun i=>l.length-i) 0 ⟨[],rfl,au0,au1,au2⟩ (Nat.zero_le _) ?_
  rintro i hi
  by_cases hlt:i<l.length
  · obtain ⟨x, hx⟩ := Qal hlt
    obtain⟨h1,h2⟩:=h.1 x (List.mem_of_getElem? hx)
    have h1':¬x<0:=by omega
    have h2':¬n<=x:=by omega
    by_cases h0:i=0
    · have h4 : ¬ (0 : Int) < (i : Int) := by omega
      simp(disch:=first|omega|(simp only[lenW]<;>omega)) only[hlt,QaP hx,h1',h2',h4,wV,simprocAttr]
      exact⟨i+1,by omega,by omega,⟨[],rfl,au0,au1,au2⟩⟩
    · obtain ⟨y, hy⟩ := Qal (l := l) (i := i - 1) (by omega)
      have h3:=h.up hy (by rw[show i-1+1=i by omega];exact hx)
      have h3':¬x<=y:=by omega
      have h4:(0:Int)<(i:Int):=by omega
      have h5:(i:Int)-1=((i-1:Nat):Int):=by omega
      have h6:((i-1:Nat):Int)<l.length:=by omega
      simp(disch:=first|omega|(simp only[lenW]<;>omega)) only[hlt,QaP hx,h1',h2',h4,h5,h6,QaP hy,h3',wV,simprocAttr]
      exact⟨i+1,by omega,by omega,⟨[],rfl,au0,au1,au2⟩⟩
  · simp (disch := first | omega | (simp only [lenW] <;> omega)) only [hlt, wV, simprocAttr]
    exact⟨.inr trivial,_,rfl,rfl⟩
end Go.AM.SE
namespace Go.AM.SE
open Go.Proofs Go.AM.SD
structure EgsOk (a:Au):Prop where
 len:a.es.length<=140737488355328
 all:a.al.length<=140737488355328
 fr:∀e∈a.es,0<=e.fr/\e.fr<a.n
 to:∀e∈a.es,0<=e.to/\e.to<a.n
 ev:∀e∈a.es,e.ev∈a.al
 up:a.es.Pairwise fun x y=>x.fr<y.fr\/(x.fr=y.fr/\x.ev<y.ev)
theorem EgsOk.step {a:Au} (h:EgsOk a) {i:Nat} {x y:Eg} (hx:a.es[i]?=some x) (hy:a.es[i+1]?=some y):x.fr<y.fr\/(x.fr=y.fr/\x.ev<y.ev):=by
 obtain⟨h1,e1⟩:=List.getElem?_eq_some_iff.1 hx
 obtain⟨h2,e2⟩:=List.getElem?_eq_some_iff.1 hy
 have:=List.pairwise_iff_getElem.1 h.up i (i+1) h1 h2 (by omega)
 rw[e1,e2]at this;exact this
theorem edges50 (a : Au) (h : EgsOk a) : PSpec Tryz.prog 193 [auV a] (.int .i64 0) := by
  refine PSpec.Qau 64 ok193 rfl (by(try simp only[noRefs,Qac,Qat,Qaf,QaA,Qas,noRef,Bool.and_self,Bool.and_true])<;>rfl) rfl ?_
  have hl:=h.len
  simp(disch:=first|omega|(simp only[lenW]<;>omega)) only[s193,wV,simprocAttr]
  refine Qba 100 (fun i:Nat=>[(1,.ptr 50 0 0),(7,egs a.es),(8,.int .i64 a.es.length),(9,.int .i64 i)]) (fun _=>[(50,.cells 0 [sli a.al,.int .i64 a.n,sli a.ms,egs a.es])]) (fun i=>i<=a.es.length) (fun i=>a.es.length-i) 0 ⟨[(50,.blk 64 0)],rfl,au0,au1,au2⟩ (Nat.zero_le _) ?_
  rintro i hi
  by_cases hlt:i<a.es.length
  · obtain ⟨x, hx⟩ := Qal hlt
    have hm:=List.mem_of_getElem? hx
    obtain⟨f1,f2⟩:=h.fr x hm
    obtain⟨t1,t2⟩:=h.to x hm
    have f1':¬x.fr<0:=by omega
    have f2':¬a.n<=x.fr:=by omega
    have t1':¬x.to<0:=by omega
    have t2':¬a.n<=x.to:=by omega
    have hev:decide (x.ev∈a.al)=true:=decide_eq_true (h.ev x hm)
    simp(disch:=first|omega|(simp only[lenW]<;>omega)) only[hlt,QaX hx,f1',f2',t1',t2',wV,simprocAttr]
    refine cp (contains62 a.al x.ev h.all) ?_
    rw[hev]
    by_cases h0:i=0
    · have h4 : (i : Int) = 0 := by omega
      simp(disch:=first|omega|(simp only[lenW]<;>omega)) only[hlt,QaX hx,h4,wV,simprocAttr]
      exact⟨1,by omega,by omega,⟨[(50,.blk 50 0)],rfl,au0,au1,au2⟩⟩
    · obtain ⟨y, hy⟩ := Qal (l := a.es) (i := i - 1) (by omega)
      have h4:¬(i:Int)=0:=by omega
      have h5:(i:Int)-1=((i-1:Nat):Int):=by omega
      have h6:((i-1:Nat):Int)<a.es.length:=by omega
      rcases h.step hy (by rw[show i-1+1=i by omega];exact hx)with h3|⟨h3,h3b⟩
      · have g1 : ¬ x.fr < y.fr := by omega
        have g2:¬x.fr=y.fr:=by omega
        simp(disch:=first|omega|(simp only[lenW]<;>omega)) only[hlt,QaX hx,h4,h5,h6,QaX hy,g1,g2,wV,simprocAttr]
        exact⟨i+1,by omega,by omega,⟨[(50,.blk 50 0)],rfl,au0,au1,au2⟩⟩
      · have g1 : ¬ x.fr < y.fr := by omega
        have g2:x.fr=y.fr:=by omega
        have g3:¬x.ev<=y.ev:=by omega
        simp(disch:=first|omega|(simp only[lenW]<;>omega)) only[hlt,QaX hx,h4,h5,h6,QaX hy,g1,g2,g3,wV,simprocAttr]
        exact⟨i+1,by omega,by omega,⟨[(50,.blk 50 0)],rfl,au0,au1,au2⟩⟩
  · simp (disch := first | omega | (simp only [lenW] <;> omega)) only [hlt, wV, simprocAttr]
    exact⟨.inr trivial,_,rfl,rfl⟩
structure AuOk (a:Au):Prop extends EgsOk a where
 alS:SetOk a.al 32
 msS:SetOk a.ms a.n
 mslen:a.ms.length<=140737488355328
 n0:0<=a.n
 nm:a.n<=4096
theorem check37 (a:Au) (h:AuOk a):PSpec Tryz.prog 112 [auV a] (.int .i64 0):=by
 refine PSpec.Qau 64 ok112 rfl (by(try simp only[noRefs,Qac,Qat,Qaf,QaA,Qas,noRef,Bool.and_self,Bool.and_true])<;>rfl) rfl ?_
 have h1:¬a.n<0:=by have:=h.n0;omega
 have h2:¬4096<a.n:=by have:=h.nm;omega
 simp(disch:=first|omega|(simp only[lenW]<;>omega)) only[s112,wV,simprocAttr]
 refine cp (set49 a.al 32 h.all h.alS) ?_
 simp(disch:=first|omega|(simp only[lenW]<;>omega)) only[h1,h2,wV,simprocAttr]
 refine cp (set49 a.ms a.n h.mslen h.msS) ?_
 simp(disch:=first|omega|(simp only[lenW]<;>omega)) only[wV,simprocAttr]
 refine cp (edges50 a h.toEgsOk) ?_
 simp(disch:=first|omega|(simp only[lenW]<;>omega)) only[wV,simprocAttr]
 exact⟨.inr trivial,_,rfl,rfl⟩
end Go.AM.SE
namespace Go.AM.SE
open Go.Proofs Go.AM.SD
abbrev backF (es:List Ed):Nat->AV:=fun k=>sliN (preds es k)
end Go.AM.SE
namespace Go.AM.SE
open Go.Proofs Go.AM.SD
theorem Qc4 {f:Nat->AV} (h:∀x,noRef (f x)=true) (l:List Nat):noRefs (l.map f)=true:=by
 induction l with
 |nil=>rfl
 |cons x l ih=>simp only[List.map_cons,noRefs,h,ih];rfl
theorem QaM (k:IntKind) (l:List Nat):noRefs (l.map fun x:Nat=>AV.int k (x:Int))=true:=Qc4 (fun _=>rfl) l
theorem QaO (es:List Ed) (l:List Nat):noRefs (l.map (backF es))=true:=Qc4 (fun x=>Qab _) l
theorem Qn3 (n:Nat) (x:Int):(List.replicate n [AV.int .i64 x]).flatten=ints (List.replicate n x):=by
 induction n with
 |zero=>rfl
 |succ n ih=>rw[List.replicate_succ,List.flatten_cons,ih];rfl
theorem Qna {n i:Nat} (h:i<n):(List.replicate i (-1:Int)++List.replicate (n-i) 0).set i (-1)=List.replicate (i+1) (-1)++List.replicate (n-(i+1)) 0:=by
 rw[List.set_append_right _ _ (by simp),List.length_replicate,Nat.sub_self,show n-i=(n-(i+1))+1 by omega,List.replicate_succ,List.set_cons_zero,List.replicate_succ',List.append_assoc];rfl
theorem QeD {l:List Int} {i:Nat} {x:Int}:(ints l).set i (.int .i64 x)=ints (l.set i x):=by simp[ints,List.map_set]
theorem Qgz {l:List Int} {i:Nat} {x:Int} (h:l[i]?=some x):(ints l)[i]?=some (.int .i64 x):=by simp[ints,h]
theorem Qcw {l:List Int} {i:Nat} (h:i<l.length):(ints l)[i]?=some (.int .i64 (l.getD i 0)):=by simp[ints,h]
end Go.AM.SE
namespace Go.AM.SE
open Go.Proofs Go.AM.SD
def bkC (rank:Int) (x:Nat):List AV:=[.int .i64 (x:Int),.int .i64 rank,.int .i64 3,.int .i64 (-1)]
theorem Qcx (rank:Int) (l:List Nat):noRefs (l.flatMap (bkC rank))=true:=QaR (fun x=>rfl) l
def lsC (rank:Int) (p:Nat×Nat):List AV:=[.int .i64 (p.1:Int),.int .i64 rank,.int .i64 2,.int .i64 (p.2:Int)]
theorem QaW (rank:Int) (l:List (Nat×Nat)):noRefs (l.flatMap (lsC rank))=true:=QaR (fun x=>rfl) l
end Go.AM.SE
namespace Go.AM.SE
open Go.Proofs Go.AM.SD
theorem WfA.auOk {a:Aut} (h:WfA a) (hel:a.es.length<=1000000):AuOk (au a):=by
 have hal:a.al.length<=32:=Qbk 32 a.al (by rw[List.nodup_iff_pairwise_ne];exact h.al.imp fun h=>by omega) h.al5
 have hms:a.ms.length<=a.n:=Qbk a.n a.ms h.nd h.msn
 have hn5:=h.n5
 refine{len:=?_,all:=?_,fr:=?_,to:=?_,ev:=?_,up:=?_,alS:=SetOk.nz (n:=32) (fun x hx=>by have:=h.al5 x hx;omega) h.al,msS:=SetOk.nz h.msn h.ms,mslen:=?_,n0:=?_,nm:=?_}
 ·show(a.es.map eg).length<=_;simp;omega
 ·show(nz a.al).length<=_;simp;omega
 ·intro e he
  obtain⟨x,hx,rfl⟩:=List.mem_map.1 he
  have:=h.esn x hx
  show(0:Int)<=x.1/\(x.1:Int)<a.n
  omega
 ·intro e he
  obtain⟨x,hx,rfl⟩:=List.mem_map.1 he
  have:=h.esn x hx
  show(0:Int)<=x.2.2/\(x.2.2:Int)<a.n
  omega
 ·intro e he
  obtain⟨x,hx,rfl⟩:=List.mem_map.1 he
  exact List.mem_map.2 ⟨x.2.1,h.ev x hx,rfl⟩
 ·show (a.es.map eg).Pairwise _
  rw[List.pairwise_map]
  refine h.es.imp fun h=>?_
  show(_:Int)<_\/(_:Int)=_/\(_:Int)<_
  simp only[eg]
  omega
 ·show(nz a.ms).length<=_;simp;omega
 ·show(0:Int)<=(a.n:Int);omega
 ·show(a.n:Int)<=4096;omega
structure QOk (a:Aut) (f u:List Nat):Prop where
 fS:f.Pairwise (· < ·)
 fn:∀x∈f,x<a.n
 uS:u.Pairwise (· < ·)
 un:∀x∈u,x<32
theorem QbA {l:List Nat} {n:Nat} (h:l.Pairwise (· < ·)) (hn:∀x∈l,x<n):l.length<=n:=Qbk n l (by rw[List.nodup_iff_pairwise_ne];exact h.imp fun h=>by omega) hn
theorem WfA.elK {a:Aut} {k:Nat} (h:WfA a) (hk:∀x∈a.al,x<k):a.es.length<=a.n*k:=by
 have hv:∀e∈a.es,e.2.1<k:=fun e he=>hk _ (h.ev e he)
 have hs:(a.es.map fun e=>e.1*k+e.2.1).Pairwise (· < ·):=by
  rw[List.pairwise_map]
  refine h.es.imp_of_mem fun{x y} hx hy hxy=>?_
  have h1:=hv x hx
  rcases hxy with h2|⟨h2,h3⟩
  ·have := Nat.mul_le_mul_right k (show x.1 + 1 <= y.1 from h2)
   rw[Nat.succ_mul]at this
   omega
  ·rw[h2];omega
 have:=QbA hs (n:=a.n*k) fun x hx=>by
  obtain⟨e,he,rfl⟩:=List.mem_map.1 hx
  have h1:=hv e he
  have:=Nat.mul_le_mul_right k (show e.1+1<=a.n from(h.esn e he).1)
  rw[Nat.succ_mul]at this
  show e.1*k+e.2.1<_
  omega
 rwa [List.length_map]at this
theorem WfA.el1 {a:Aut} (h:WfA a):a.es.length<=131072:=by
 have h1:=WfA.elK h h.al5
 have h2:=Nat.mul_le_mul_right 32 h.n5
 omega
end Go.AM.SE
namespace Go.AM.SE
open Go.Proofs Go.AM.SD
theorem Ql8:aEq (.nil 2) false .nilsl .nilsl=some (.bool true):=rfl
theorem Ql9:aEq (.nil 2) false .nsl .nilsl=some (.bool false):=rfl
theorem Qc5 {P:Program} {N:NM} {n:Nat} {d:Option Nat} {dead:List Nat} {r:List SOper} {T:Tmps} {h:Heap} {Q:QC} {fs:List Fr} {sz bytes b2 g2 off2 len2:Nat}:wM P N (aAppend .dyn n sz bytes (.sl b2 g2 off2 len2 sz) .nsl) d r dead fs n T h Q=
  wA P N (srcB (h.get b2) g2 off2 len2 sz) (some []) g2 len2 0 sz bytes b2 d r dead fs n T h Q:=Qcj
theorem _root_.Go.AM.au3 {p:Prop} (h:p:=by repeat' (first|exact RB.nil|(refine RnL.same ?_;first|rfl|(simp only[noRef,noRefs,Qak,Bool.and_self,Bool.and_true,Bool.true_and,Qac,Qat,Qaf,QaA,QaW,Qcx,Qas,Qaq,Qab,Qbr,Qao,QaM,QaO];done))|exact RnM.keyM rfl|exact RnL.nil|exact(True.intro:RnM _ _ _ [] [])|refine RnL.cons ?_ ?_|(refine Rn.same ?_;first|rfl|(simp only[noRef,noRefs,Qak,Bool.and_self,Bool.and_true,Bool.true_and,Qac,Qat,Qaf,QaA,QaW,Qcx,Qas,Qaq,Qab,Qbr,Qao,QaM,QaO];done))|exact Rn.x1 rfl rfl|exact Rn.x2 rfl rfl|exact Rn.x3 rfl rfl|exact Rn.x4 rfl rfl|exact Rn.x5 rfl|exact Rn.x6 rfl|exact Rn.x7 rfl|refine RB.newnil rfl rfl ?_|refine RB.cells rfl rfl rfl ?_ ?_|refine RB.map rfl rfl rfl ?_ ?_|refine RB.cellsB rfl rfl ?_ ?_|refine RB.mapB rfl rfl ?_ ?_)):p:=h
theorem _root_.Go.AM.au4 {p:Prop} (h:p:=by repeat (first|exact RT.nil|(refine RT.cons ?_ ?_; · (first|exact Rn.any|exact Rn.x1 rfl rfl|exact Rn.x2 rfl rfl|exact Rn.x3 rfl rfl|exact Rn.x4 rfl rfl|exact Rn.x5 rfl|exact Rn.x6 rfl|exact Rn.x7 rfl|(refine Rn.slot ?_ ?_;(first|rfl|(rw[Int.natCast_add];rfl));(first|rfl|(simp only[noRef,noRefs,Qak,Bool.and_self,Bool.and_true,Bool.true_and,Qac,Qat,Qaf,QaA,QaW,Qcx,Qas,Qaq,Qab,Qbr,Qao,QaM,QaO];done)))|(refine Rn.fn ?_ ?_<;>(repeat' (first|exact RnL.nil|refine RnL.cons ?_ ?_|exact Rn.same rfl|exact Rn.x6 rfl|exact Rn.x2 rfl rfl|exact Rn.x5 rfl|exact Rn.x1 rfl rfl))))))):p:=h
theorem Qnb:HSpec Tryz.prog 41 [.nilsl] .e (.sl 83 0 0 0 1) (hp [(83,.cells 0 [])]):=by
 refine HSpec.QbP 100 ok41 rfl ?_
 simp(disch:=first|omega|(simp only[lenW]<;>omega)) only[s41,Ql8,wW,wV,simprocAttr]
 exact⟨.inr trivial,_,rfl,⟨[(83,.nil)],rfl,au0,au3,au4⟩⟩
theorem Qnc:HSpec Tryz.prog 41 [.nsl] .e (.sl 83 0 0 0 1) (hp [(83,.cells 0 [])]):=by
 refine HSpec.QbP 100 ok41 rfl ?_
 simp(disch:=first|omega|(simp only[lenW]<;>omega)) only[s41,Ql9,Qc5,wW,wV,simprocAttr]
 exact⟨.inr trivial,_,rfl,⟨[(83,.blk 103 1)],rfl,au0,au3,au4⟩⟩
theorem clone56 (l:List Nat) (hl:l.length<=1000000):HSpec Tryz.prog 41 [sliN l] .e (.sl 83 0 0 l.length 1) (hp [(83,.cells 0 (ints (nz l)))]):=by
 cases l with
 |nil=>exact HSpec.empty Qnb Qnc
 |cons x l=>
  refine HSpec.QbP 100 ok41 rfl ?_
  have hq:aEq (.nil 2) false (sliN (x::l)) .nilsl=some (.bool false):=rfl
  have hone:(ints (nz (x::l))).all AV.one=true:=by simp[ints,AV.one]
  generalize x::l=q at*
  simp(disch:=first|omega|(simp only[lenW]<;>omega)) only[s41,hq,hone,wW,wV,simprocAttr]
  exact⟨.inr trivial,_,rfl,⟨[(83,.blk 103 1)],rfl,au0,au3,au4⟩⟩
end Go.AM.SE
namespace Go.AM.SE
open Go.Proofs Go.AM.SD
abbrev frzE (es:List Ed) (left:Nat->Bool):Nat->AV:=fun k=>egsN (sOut es left k)
theorem Qd7 (es:List Ed) (left:Nat->Bool) (l:List Nat):noRefs (l.map (frzE es left))=true:=Qc4 (fun x=>Qao _) l
theorem Qfm (l:List Ed):(l.flatMap edC).length=l.length*3:=Qbg (f:=edC) (k:=3) (fun _=>rfl) l
theorem QgA (es:List Ed) (left:Nat->Bool) (v:Nat):(sOut es left v).length<=es.length:=by
 unfold sOut;exact List.length_filter_le _ _
def mks (a:Aut) (i:Nat) (o:List Nat):List Nat:=(List.range i).filter fun j=>a.ms.contains (o.getD j 0)
theorem QoE {a:Aut} {i:Nat} {o:List Nat}:(mks a i o).length<=i:=by
 unfold mks;exact Nat.le_trans (List.length_filter_le _ _) (by simp)
theorem QoF {a:Aut} {i:Nat} {o t:List Nat} (h:i<=o.length):mks a i (o++t)=mks a i o:=by
 unfold mks
 refine List.filter_congr fun j hj=>?_
 have:=List.mem_range.1 hj
 rw[List.getD_eq_getElem?_getD,List.getD_eq_getElem?_getD,List.getElem?_append_left (by omega)]
theorem Qn4 {a:Aut} {i v:Nat} {o:List Nat} (h:o[i]?=some v):mks a (i+1) o=mks a i o++if a.ms.contains v then[i]else[]:=by
 unfold mks
 rw[List.range_succ,List.filter_append]
 congr 1
 have:o.getD i 0=v:=by rw[List.getD_eq_getElem?_getD,h];rfl
 rw[List.filter_cons,this];rfl
theorem Qix {i:Nat} {s:OE} {es:List Ed} {j:Nat} {e:Ed} (h:es[j]?=some e):(es.take (j+1)).foldl (sEd i) s=sEd i ((es.take j).foldl (sEd i) s) e:=by
 rw[List.take_add_one,h,Option.toList,List.foldl_append];rfl
theorem QdP {i:Nat}:∀(es:List Ed) (s:OE),(es.foldl (sEd i) s).2.length=s.2.length+es.length
 |[],s=>by simp
 |e::es,s=>by
  rw[List.foldl_cons,QdP es]
  unfold sEd;split<;>simp<;>omega
end Go.AM.SE
