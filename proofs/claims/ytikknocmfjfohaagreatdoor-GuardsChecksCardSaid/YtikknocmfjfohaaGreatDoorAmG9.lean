/- A part of the proof of GuardsChecksCardSaid: lemmas on the way (AmU, AmUa, AmQa, AmQb, AmQd, AmQw, AmQe, AmTb, AmTc, AmTd, AmTe, AmTw, AnDj, AmR, AmLr, AmS, AmNa, AmYa). Conditions: none of ours. -/
import Derived.OpenShut
import Derived.Test.YtikknocmfjfohaaGreatDoorAmG8
set_option linter.unusedSectionVars false
set_option maxHeartbeats 32000000
set_option maxRecDepth 100000
set_option linter.unusedVariables false
set_option linter.unusedSimpArgs false
namespace Go.AM
variable {ok:Okc}
open Go.ChangeShapes Go.WideShapes
def inF (w:World) (k:Nat):Prop:=k<w.heap.size
end Go.AM
namespace Go.AM
open Go.ChangeShapes Go.WideShapes
inductive Ty where
 |int (k:IntKind)
 |bool
 |str
 |arr (n:Nat) (t:Ty)
 |sl (t:Ty)
 |st (fs:Ty)
 |unit
 |pair (a b:Ty)
def Ty.sz:Ty->Nat
 | .int _| .bool| .str| .sl _=>1
 | .arr n t=>n*t.sz
 | .st fs=>fs.sz
 | .unit=>0
 | .pair a b=>a.sz+b.sz
abbrev Ty.D:Ty->Type
 | .int _=>Int
 | .bool=>Bool
 | .str=>List UInt8
 | .arr _ t| .sl t=>List t.D
 | .st fs=>fs.D
 | .unit=>Unit
 | .pair a b=>a.D×b.D
def Ty.cells:(t:Ty)->t.D->List AV
 | .int k,n=>[.int k n]
 | .bool,b=>[.bool b]
 | .str,s=>[.str s]
 | .arr _ t,l=>List.flatMap (Ty.cells t) l
 | .sl t,l=>[.fsl (List.flatMap (Ty.cells t) l) (List.length l) t.sz]
 | .st fs,d=>Ty.cells fs d
 | .unit,_=>[]
 | .pair a b,d=>Ty.cells a d.1++Ty.cells b d.2
def Ty.wf:(t:Ty)->t.D->Prop
 | .int k,n=>(Lit.int k n).wf=true
 | .bool,_=>True
 | .str,s=>List.length s<=9223372036854775807
 | .arr n t,l=>List.length l=n/\∀x∈(show List t.D from l),Ty.wf t x
 | .sl t,l=>List.length l<=9223372036854775807/\∀x∈(show List t.D from l),Ty.wf t x
 | .st fs,d=>Ty.wf fs d
 | .unit,_=>True
 | .pair a b,d=>Ty.wf a d.1/\Ty.wf b d.2
def eltT (P:Program) (ts:List TypeId):List TypeId:=match ts with
 |t::_=>(match P.underlying t with|some (.slice e)=>[e]|some (.array _ e)=>[e]|_=>[])
 |[]=>[]
def fldT (P:Program) (ts:List TypeId):List TypeId:=match ts with
 |t::_=>(match P.underlying t with|some (.struct l)=>l.toList.map (·.type)|_=>[])
 |[]=>[]
def Ty.sized (P:Program):(t:Ty)->List TypeId->t.D->Prop
 | .arr _ t,ts,l=>∀x∈(show List t.D from l),Ty.sized P t (eltT P ts) x
 | .sl t,ts,l=>(∀e∈eltT P ts,List.length l*P.bytesOf e<=reachBytes)/\∀x∈(show List t.D from l),Ty.sized P t (eltT P ts) x
 | .st fs,ts,d=>Ty.sized P fs (fldT P ts) d
 | .pair a b,ts,d=>Ty.sized P a (ts.take 1) d.1/\Ty.sized P b ts.tail d.2
 |_,_,_=>True
theorem QcB {H:Type} {P:Program} {e:TypeId} {q:Nat->Bool}:∀{l:List (DataW H)} {d:DataW H},d∈l->(DataW.weightsAll P e l).all q=true->(d.weights P e).all q=true
 |x::l,d,hd,h=>by
  simp only[DataW.weightsAll,List.all_append,Bool.and_eq_true]at h
  rcases List.mem_cons.1 hd with rfl|hd
  ·exact h.1
  ·exact QcB hd h.2
mutual
def okTy (P:Program):Ty->TypeId->Bool
 | .int k,t=>match P.underlying t with|some (.int k')=>k'==k|_=>false
 | .bool,t=>match P.underlying t with|some .bool=>true|_=>false
 | .str,t=>match P.underlying t with|some .string=>true|_=>false
 | .arr n e,t=>match P.underlying t with|some (.array m u)=>n==m&&okTy P e u&&P.cellsOf u==e.sz&&P.cellsOf t==n*e.sz|_=>false
 | .sl e,t=>match P.underlying t with|some (.slice u)=>okTy P e u&&P.cellsOf u==e.sz&&Nat.blt 0 e.sz|_=>false
 | .st fs,t=>match P.underlying t with|some (.struct l)=>okFs P fs l.toList 0&&P.cellsOf t==fs.sz|_=>false
 |_,_=>false
termination_by structural ty=>ty
def okFs (P:Program):Ty->List Field->Nat->Bool
 | .unit,l,_=>match l with|[]=>true|_=>false
 | .pair a b,l,off=>match l with|f::l=>f.offset==off&&okTy P a f.type&&P.cellsOf f.type==a.sz&&okFs P b l (off+a.sz)|_=>false
 |_,_,_=>false
termination_by structural ty=>ty
end
section
variable {ok:Okc} {H:Type} {enc:TypeId×Value->H} {P:Program} {W:World} {spare:Nat->Bool}
theorem QcQ:∀(t:Ty) (d:t.D),t.wf d->(t.cells d).length=t.sz
 | .int _,_,_=>rfl
 | .bool,_,_=>rfl
 | .str,_,_=>rfl
 | .sl _,_,_=>rfl
 | .unit,_,_=>rfl
 | .st fs,d,h=>QcQ fs d h
 | .pair a b,d,h=>by
  simp only[Ty.cells,Ty.sz,List.length_append,QcQ a d.1 h.1,QcQ b d.2 h.2]
 | .arr n t, l, h => by
  obtain⟨h1,h2⟩:=h
  simp only[Ty.cells,Ty.sz,<-h1]
  have:∀(l:List t.D),(∀x∈l,t.wf x)->(l.flatMap t.cells).length=l.length*t.sz:=by
   intro l
   induction l with
   |nil=>intro _;simp
   |cons x l ih=>intro hl;simp[List.flatMap_cons,QcQ t x (hl x (by simp)),ih fun y hy=>hl y (by simp[hy]),Nat.succ_mul];omega
  exact this l h2
theorem QfO {α β:Type} {f:α->Option β}:∀{l:List α} {r:List β},l.mapM f=some r->r.length=l.length/\∀(i:Nat) (x:α),l[i]?=some x->∃y,f x=some y/\r[i]?=some y
 |[],r,h=>by simp_all
 |a::l,r,h=>by
  simp only[List.mapM_cons,Option.bind_eq_bind,Option.bind_eq_some_iff]at h
  obtain⟨y,hy,ys,hys,e⟩:=h
  simp at e;subst e
  obtain⟨h1,h2⟩:=QfO hys
  grind
theorem many {ok:Okc} {t:Ty} {R:t.D->Prop} {c:Ctx ok} {n:Nat}:∀{cs:List Value},(∀i,i<n->∃x:t.D,R x/\VRels c W (t.cells x) ((cs.drop (i*t.sz)).take t.sz))->n*t.sz<=cs.length->
  ∃l:List t.D,l.length=n/\(∀x∈l,R x)/\VRels c W (l.flatMap t.cells) (cs.take (n*t.sz)):=by
 induction n with
 |zero=>intro cs _ _;exact⟨[],rfl,by simp,by simp[VRels]⟩
 | succ n ih =>
  intro cs hx hl
  obtain⟨x,h1,h2⟩:=hx 0 (by omega)
  rw[Nat.succ_mul]at hl
  obtain⟨l,h3,h4,h5⟩:=ih (cs:=cs.drop t.sz) (fun i hi=>by
   grind [List.drop_drop]) (by simp;omega)
  refine⟨x::l,by simp[h3],by simp_all,?_⟩
  rw[List.flatMap_cons,Nat.succ_mul,Nat.add_comm,List.take_add]
  refine Qa7 ?_ h5
  simpa using h2
mutual
theorem QeW : ∀ (ty : Ty) (t : TypeId) (fuel : Nat) (cs : List Value) (x : DataW H × List MemPlace), (∀ b, spare b = true) -> okTy P ty t = true -> DataW.trod enc P W 0 spare true fuel t cs = some x ->
    ∃d:ty.D,(ty.wf d/\((x.1.weights P t).all (· <=reachBytes)=true->ty.sized P [t] d))/\VRels (only (ok:=ok) (inF W)) W (ty.cells d) cs:=by
  intro ty t fuel cs x hs ho h
  match ty with
  | .int k =>
    simp only[okTy]at ho
    split at ho<;>try (cases ho;done)
    rename_i k' hu
    simp only[beq_iff_eq]at ho
    subst ho
    obtain⟨n,rfl,_,hw⟩:=DataW.trod_int hu h
    exact⟨n,⟨hw,fun _=>trivial⟩,by simp[Ty.cells,VRels,VRel]⟩
  | .bool =>
    simp only[okTy]at ho
    split at ho<;>try (cases ho;done)
    rename_i hu
    obtain⟨b,rfl,_⟩:=DataW.trod_bool hu h
    exact⟨b,⟨trivial,fun _=>trivial⟩,by simp[Ty.cells,VRels,VRel]⟩
  | .str =>
    simp only[okTy]at ho
    split at ho<;>try (cases ho;done)
    rename_i hu
    obtain⟨s,rfl,_,hl⟩:=DataW.trod_string hu h
    refine⟨s.data.toList,⟨?_,fun _=>trivial⟩,?_⟩
    · simp only [ByteArray.size, maxLen] at hl
      simp_all [Ty.wf]
    · simp[Ty.cells,VRels,VRel]
  | .unit=>simp[okTy]at ho
  | .pair a b=>simp[okTy]at ho
  | .st fs =>
    simp only[okTy]at ho
    split at ho<;>try (cases ho;done)
    rename_i l hu
    simp only[Bool.and_eq_true,beq_iff_eq]at ho
    obtain⟨ho,hsz⟩:=ho
    cases fuel with
    |zero=>simp[DataW.trod]at h
    | succ n =>
      unfold DataW.trod at h
      rw[hu]at h
      split at h<;>first|(simp_all;done)|skip
      rename_i fs' he
      injection he with he;injection he with he;subst he
      split at h
      · rename_i hl
        simp only[Option.map_eq_some_iff]at h
        obtain⟨xs,hm,rfl⟩:=h
        obtain⟨d,⟨h1,h3⟩,h2⟩:=Qkt fs l.toList 0 n _ xs hs ho hm (by omega)
        refine⟨d,⟨h1,fun hw=>?_⟩,?_⟩
        · simp only [DataW.weights, hu] at hw
          show Ty.sized P fs (fldT P [t]) d
          simp only[fldT,hu]
          exact h3 hw
        grind [Ty.cells]
      · cases h
  | .arr m e =>
    simp only[okTy]at ho
    split at ho<;>try (cases ho;done)
    rename_i m' u hu
    simp only[Bool.and_eq_true,beq_iff_eq]at ho
    obtain⟨⟨⟨rfl,ho⟩,hsz⟩,hst⟩:=ho
    cases fuel with
    |zero=>simp[DataW.trod]at h
    | succ n =>
      unfold DataW.trod at h
      rw[hu]at h
      split at h<;>first|(simp_all;done)|skip
      rename_i m' u' he
      injection he with he;injection he with he1 he2;subst he1;subst he2
      split at h
      · rename_i hl
        simp only[Option.map_eq_some_iff]at h
        obtain⟨xs,hm,rfl⟩:=h
        obtain⟨g1,g2⟩:=QfO hm
        rw[hst]at hl
        obtain⟨l,k1,k2,k3⟩:=many (t:=e) (R:=fun x=>e.wf x/\((DataW.weightsAll P u (xs.map (·.1))).all (· <=reachBytes)=true->e.sized P [u] x)) (c:=only (inF W)) (n:=m) (fun i hi=>by
          obtain⟨y,hy,hyx⟩:=g2 i i (by simp[hi])
          rw[hsz]at hy
          obtain⟨d,⟨j1,j2⟩,j3⟩:=QeW e u n _ y hs ho hy
          exact⟨d,⟨j1,fun hw=>j2 (QcB (List.mem_map.2 ⟨y,List.mem_of_getElem? hyx,rfl⟩) hw)⟩,j3⟩) (by omega)
        refine⟨l,⟨⟨k1,fun x hx=>(k2 x hx).1⟩,fun hw=>?_⟩,?_⟩
        · simp only [DataW.weights, hu] at hw
          show ∀x∈l,Ty.sized P e (eltT P [t]) x
          simp only[eltT,hu]
          exact fun x hx=>(k2 x hx).2 hw
        rw[<-hl,List.take_length]at k3
        exact k3
      · cases h
  | .sl e =>
    simp only[okTy]at ho
    split at ho<;>try (cases ho;done)
    rename_i u hu
    simp only[Bool.and_eq_true,beq_iff_eq,Nat.blt_eq]at ho
    obtain⟨⟨ho,hsz⟩,hpos⟩:=ho
    rcases DataW.trod_slice hu h with⟨rfl,_⟩|⟨a,len,cap,elems,rest,n,_,rfl,rfl,_,hl,hm,hlen,hel,hsp,hns⟩
    · exact⟨[],⟨⟨by simp,by simp⟩,fun _=>⟨fun _ _=>by simp,by simp⟩⟩,by simp[Ty.cells,VRels,VRel]⟩
    obtain⟨hrl,hr⟩:=hsp (hs _)
    have each:∀i,i<cap->∃cs,(w':W.cells? 0 (a.add (i*e.sz)) e.sz=some cs)->True:=fun _ _=>⟨[],fun _=>trivial⟩
    have each:∀i,i<cap->∃cs y,W.cells? 0 (a.add (i*e.sz)) e.sz=some cs/\DataW.trod enc P W 0 spare true n u cs=some y:=by
      intro i hi
      by_cases hil:i<len
      · grind [Option.bind_eq_some_iff]
      · have h1 := hr (i - len) (by omega)
        grind [Option.bind_eq_some_iff]
    by_cases h0:cap=0
    · have : len = 0 := by omega
      subst h0;subst this
      exact⟨[],⟨⟨by simp,by simp⟩,fun _=>⟨fun _ _=>by simp,by simp⟩⟩,by simp[Ty.cells,VRels,VRel]⟩
    have cellsAt:∀i cs,W.cells? 0 (a.add (i*e.sz)) e.sz=some cs->cs.length=e.sz/\∀j,j<e.sz->W.cell? ((a.add (i*e.sz)).add j)=cs[j]?:=by
      intro i cs hcs
      unfold World.cells? at hcs
      rw[if_pos (Nat.zero_le _)]at hcs
      obtain⟨g1,g2⟩:=QfO hcs
      refine⟨by simpa using g1,fun j hj=>?_⟩
      obtain⟨y,k1,k2⟩:=g2 j j (by simp[hj])
      rw[k1,k2]
    obtain⟨cs0,y0,hc0,_⟩:=each 0 (by omega)
    obtain⟨q1,q2⟩:=cellsAt 0 cs0 hc0
    have hcell0:=q2 0 hpos
    rw[List.getElem?_eq_getElem (by omega)]at hcell0
    obtain⟨b,off,spot⟩:=a
    have hspot:spot=none:=by simpa[Addr.add]using World.cell?_spot hcell0
    subst hspot
    have hb:∃C e fr,W.heap[b]?=some (.cells C e fr):=by
      grind [World.cell?,Addr.add]
    obtain⟨C,et,fr,hb⟩:=hb
    have hcell:∀i cs,W.cells? 0 ((⟨b,off,none⟩:Addr).add (i*e.sz)) e.sz=some cs->i<cap->(C.toList.drop (off+i*e.sz)).take e.sz=cs:=by
      intro i cs hcs hi
      obtain⟨k1,k2⟩:=cellsAt i cs hcs
      refine List.ext_getElem? fun j=>?_
      by_cases hj:j<e.sz
      · simp_all [Go.WideShapes.add_plain,World.cell?]
      grind
    have hCs:len*e.sz<=(C.toList.drop off).length:=by
      by_cases hl0:len=0
      · subst hl0;simp
      obtain⟨cs,y,hcs,_⟩:=each (len-1) (by omega)
      have h1:=hcell (len-1) cs hcs (by omega)
      obtain⟨k1,_⟩:=cellsAt (len-1) cs hcs
      have h2:=congrArg List.length h1
      rw[k1,List.length_take,List.length_drop]at h2
      rw[List.length_drop]
      have h3:len*e.sz=(len-1)*e.sz+e.sz:=by
        rw[<-Nat.succ_mul];congr 1;omega
      omega
    have eachL:∀i,i<len->∃cs y,W.cells? 0 ((⟨b,off,none⟩:Addr).add (i*e.sz)) e.sz=some cs/\DataW.trod enc P W 0 spare true n u cs=some y/\y∈elems:=by
      intro i hi
      have h1:=hel i hi
      rw[List.getElem?_eq_getElem (by omega),hsz,Option.bind_eq_some_iff]at h1
      obtain⟨cs,hcs,hy⟩:=h1
      exact⟨cs,_,hcs,hy,List.getElem_mem _⟩
    obtain⟨l,k1,k2,k3⟩:=many (t:=e) (R:=fun x=>e.wf x/\((DataW.weightsAll P u (elems.map (·.1))).all (· <=reachBytes)=true->e.sized P [u] x)) (c:=only (inF W)) (n:=len) (cs:=C.toList.drop off) (fun i hi=>by
      obtain⟨cs,y,hcs,hy,hyx⟩:=eachL i hi
      rw[List.drop_drop,hcell i cs hcs (by omega)]
      obtain⟨d,⟨j1,j2⟩,j3⟩:=QeW e u n cs y hs ho hy
      exact⟨d,⟨j1,fun hw=>j2 (QcB (List.mem_map.2 ⟨y,hyx,rfl⟩) hw)⟩,j3⟩) hCs
    have k2':∀x∈l,e.wf x:=fun x hx=>(k2 x hx).1
    refine⟨l,⟨⟨by grind [maxLen],k2'⟩,fun hw=>?_⟩,?_⟩
    · replace hw : (DataW.weights P t (.slice (elems.map (·.1)) (rest.map (·.1)))).all (· <= reachBytes) = true := hw
      simp only[DataW.weights,hu,List.all_cons,List.all_append,Bool.and_eq_true,decide_eq_true_eq,List.length_map]at hw
      refine⟨fun v hv=>?_,?_⟩
      · simp only [eltT, hu, List.mem_singleton] at hv
        subst hv
        refine Nat.le_trans (Nat.mul_le_mul_right _ ?_) hw.1
        show List.length l<=_
        omega
      · show ∀ x ∈ l, Ty.sized P e (eltT P [t]) x
        simp only[eltT,hu]
        exact fun x hx=>(k2 x hx).2 hw.2.1
    simp only[Ty.cells,VRels,VRel]
    have hll:(l.flatMap e.cells).length=l.length*e.sz:=QcQ (.arr l.length e) l ⟨rfl,k2'⟩
    refine⟨_,[],rfl,.inr ⟨b,off,cap,C,et,fr,by rw[k1],by omega,hll,QaP hb,hb,?_⟩,rfl⟩
    have:=Qfz (vs:=(C.toList.drop off).drop (len*e.sz)) k3
    rwa [List.take_append_drop]at this
termination_by structural ty=>ty
theorem Qkt : ∀ (ty : Ty) (fs : List Field) (off fuel : Nat) (cs : List Value) (xs : List (DataW H × List MemPlace)), (∀ b, spare b = true) -> okFs P ty fs off = true ->
    (fs.mapM fun f=>DataW.trod enc P W 0 spare true fuel f.type ((cs.drop f.offset).take (P.cellsOf f.type)))=some xs->off+ty.sz<=cs.length->
    ∃d:ty.D,(ty.wf d/\((DataW.weightsEach P (fs.map (·.type)) (xs.map (·.1))).all (· <=reachBytes)=true->ty.sized P (fs.map (·.type)) d))/\VRels (only (ok:=ok) (inF W)) W (ty.cells d) ((cs.drop off).take ty.sz):=by
  intro ty fs off fuel cs xs hs ho h hl
  match ty with
  | .unit=>exact⟨(),⟨trivial,fun _=>trivial⟩,by simp[Ty.cells,VRels,Ty.sz]⟩
  | .pair a b =>
    cases fs with
    |nil=>simp[okFs]at ho
    | cons f fs =>
      simp only[okFs,Bool.and_eq_true,beq_iff_eq]at ho
      obtain⟨⟨⟨rfl,h1⟩,h2⟩,h3⟩:=ho
      simp only[List.mapM_cons,Option.bind_eq_bind,Option.bind_eq_some_iff]at h
      obtain⟨y,hy,ys,hys,hxs⟩:=h
      have hxs:y::ys=xs:=by simpa using hxs
      subst hxs
      rw[h2]at hy
      simp only[Ty.sz]at hl
      obtain⟨d1,⟨g1,w1⟩,g2⟩:=QeW a f.type fuel _ y hs h1 hy
      obtain⟨d2,⟨g3,w2⟩,g4⟩:=Qkt b fs (f.offset+a.sz) fuel cs ys hs h3 hys (by omega)
      refine⟨(d1,d2),⟨⟨g1,g3⟩,fun hw=>?_⟩,?_⟩
      · simp only [List.map_cons, DataW.weightsEach, List.all_append, Bool.and_eq_true] at hw
        exact⟨w1 hw.1,w2 hw.2⟩
      simp only[Ty.cells,Ty.sz]
      rw[List.take_add]
      refine Qa7 g2 ?_
      rw[List.drop_drop]
      exact g4
  | .int _=>simp[okFs]at ho
  | .bool=>simp[okFs]at ho
  | .str=>simp[okFs]at ho
  | .arr _ _=>simp[okFs]at ho
  | .sl _=>simp[okFs]at ho
  | .st _=>simp[okFs]at ho
termination_by structural ty=>ty
end
def Ty.val:(t:Ty)->t.D->AV
 | .arr n t,d=> .agg (Ty.cells (.arr n t) d)
 | .st fs,d=> .agg (Ty.cells (.st fs) d)
 | .int k,n=> .int k n
 | .bool,b=> .bool b
 | .str,s=> .str s
 | .sl t,l=> .fsl (List.flatMap (Ty.cells t) l) (List.length l) t.sz
 | .unit,_=> .any
 | .pair _ _,_=> .any
theorem Qn5 (ty:Ty) {t:TypeId} {base:Nat} {v:Value} {d0:DataW H} {ps:List MemPlace} (ho:okTy P ty t=true) (hv:Value.okWide P W .any base t v) (h:DataW.Trod enc P W 0 (fun _=>true) true t v d0 ps):
  ∃d:ty.D,(ty.wf d/\((d0.weights P t).all (· <=reachBytes)=true->ty.sized P [t] d))/\VRel (only (ok:=ok) (inF W)) W (ty.val d) v:=by
 obtain⟨fuel,h⟩:=h
 obtain⟨d,h1,h2⟩:=QeW (spare:=fun _=>true) ty t fuel _ _ (fun _=>rfl) ho h
 refine⟨d,h1,?_⟩
 have one:∀(u:AV),VRels (only (ok:=ok) (inF W)) W [u] v.cells.toList->(∀cs,v≠ .agg cs)->VRel (only (ok:=ok) (inF W)) W u v:=by
  intro u hu hn
  have:v.cells= #[v]:=by cases v<;>first|rfl|exact absurd rfl (hn _)
  simp_all [VRels]
 cases ty with
 |unit=>simp[okTy]at ho
 |pair a b=>simp[okTy]at ho
 |arr n e=>
  simp only[okTy]at ho
  split at ho<;>try (cases ho;done)
  rename_i hu
  simp only[Value.okWide,hu]at hv
  obtain⟨cs,rfl,_⟩:=hv
  simp only[Ty.val,VRel]
  exact⟨_,rfl,h2⟩
 |st fs=>
  simp only[okTy]at ho
  split at ho<;>try (cases ho;done)
  rename_i hu
  simp only[Value.okWide,hu]at hv
  obtain⟨cs,rfl,_⟩:=hv
  simp only[Ty.val,VRel]
  exact⟨_,rfl,h2⟩
 |int k=>
  refine one _ h2 ?_
  rintro cs rfl
  simp only[okTy]at ho
  split at ho<;>try (cases ho;done)
  rename_i hu
  simp[Value.okWide,hu,Cell.okWide,Cell.ok]at hv
 |bool=>
  refine one _ h2 ?_
  rintro cs rfl
  simp only[okTy]at ho
  split at ho<;>try (cases ho;done)
  rename_i hu
  simp[Value.okWide,hu,Cell.okWide,Cell.ok]at hv
 |str=>
  refine one _ h2 ?_
  rintro cs rfl
  simp only[okTy]at ho
  split at ho<;>try (cases ho;done)
  rename_i hu
  simp[Value.okWide,hu,Cell.okWide,Cell.ok]at hv
 |sl e=>
  refine one _ h2 ?_
  rintro cs rfl
  simp only[okTy]at ho
  split at ho<;>try (cases ho;done)
  rename_i hu
  simp[Value.okWide,hu,Cell.okWide,Cell.ok]at hv
theorem arg_in (ty:Ty) {t:TypeId} {base:Nat} {v:Value} {d:DataW H} {ps:List MemPlace} (ho:okTy P ty t=true) (hv:Value.okWide P W .any base t v) (h:DataW.Trod enc P W 0 (fun _=>true) true t v d ps):
  ∃d:ty.D,ty.wf d/\VRel (only (ok:=ok) (inF W)) W (ty.val d) v:=by
 obtain⟨e,h1,h2⟩:=Qn5 (ok:=ok) ty ho hv h
 exact⟨e,h1.1,h2⟩
end
end Go.AM
namespace Go.AM
variable {P:Program}
section
variable {N:NM} {n:Nat} {d:Option Nat} {af dead:List Nat} {r:List SOper} {T:Tmps} {h:Heap} {Q:QC} {fs:List Fr}
def wL (P:Program) (N:NM) (o:Option (List AV)) (len:Nat) (v:AV) (d:Option Nat) (ops:List SOper) (dead:List Nat) (fs:List Fr) (n:Nat) (T:Tmps) (h:Heap) (Q:QC):Prop:=
 ∃cs,o=some cs/\cs.length=len/\wN P N cs v d ops dead fs n T h Q
theorem QgP {cs:List AV} {len:Nat} {v:AV}:wL P N (some cs) len v d r dead fs n T h Q=if cs.length=len then wN P N cs v d r dead fs n T h Q else False:=by
 simp_all [wL]
theorem wN_go {x:List AV} {v:AV} (hl:n<1099511627775):wN P N x v d r dead fs n T h Q=if h.get n=none then wR P N r dead fs (n+1) (putD T d v) (h.set n (.cells 0 x)) Q else False:=by
 split
 ·rename_i hn;exact QoR hn hl
 simp_all [wN]
theorem wB_go {x:Blk} {b:Nat} {v:AV} (hl:b<1099511627775):wB P N (some x) b v d r dead fs n T h Q=wR P N r dead fs (n+1) (putD T d v) (h.set b x) Q:=QgO hl
theorem QaR {k:Nat} {x:Blk} (hk:k<1099511627775):(h.set k x).get k=some x:=by rw[Tr.QaF h hk];simp
theorem Qa1 {j k:Nat} {x:Blk} (hk:k<1099511627775) (hj:j≠k):(h.set k x).get j=h.get j:=by rw[Tr.QaF h hk];simp[hj]
theorem QeJ {x:Nat->Blk} {y:List AV} (hx:x 0= .cells 0 y) {w:Nat->Nat->AV}:wM P N (HM.new .dyn n x fun b g=> .ret (w b g)) d r dead fs n T h Q=wN P N y (w n 0) d r dead fs n T h Q:=by
 apply propext;constructor
 ·rintro ⟨v', h1, hm, hk⟩
  unfold HM.new at hm
  simp only[HM.run]at hm
  cases hn:h.get n with
  |none=>
   rw[hn]at hm
   obtain⟨hl,hm⟩:=QaE hm
   simp only[HM.run,Option.some.injEq,Prod.mk.injEq]at hm
   obtain⟨rfl,rfl⟩:=hm
   rw[hx]at hk
   exact⟨hn,hl,hk⟩
  |some z=>rw[hn]at hm;cases hm
 ·rintro ⟨hn, hl, hk⟩
  refine⟨_,_,?_,by rw[<-hx]at hk;exact hk⟩
  unfold HM.new
  simp only[HM.run,hn]
  have hl':Nat.blt n lim=true:=by simp_all
  rw[hl'];rfl
theorem Qi1 {x:AV}:wM P N (aBox .dyn n x) d r dead fs n T h Q=if x.boxable=true then wN P N x.cells (.ptr n 0 0) d r dead fs n T h Q else False:=by
 split
 ·simp_all [Qnk]
 simp_all [aBox,Qc6]
theorem QdB {sz len:Nat} {z:List AV} {ps:List (Nat×Nat×AV)}:wM P N (aBuildSlice false .dyn n sz len z ps) d r dead fs n T h Q=wL P N (fillA z ps) (len*sz) (.sl n 0 0 len sz) d r dead fs n T h Q:=by
 unfold aBuildSlice
 cases fillA z ps with
 |none=>simp[Qc6,wL]
 |some cs=>
  simp only[QgP,Bool.false_eq_true,if_false]
  split
  ·exact QeJ rfl
  ·exact Qc6
theorem QdS {sz bytes:Nat} {z:List AV} {k1 k2:IntKind} {l c:Int}:wM P N (aMakeSlice .dyn n sz bytes z (.int k1 l) (.int k2 c)) d r dead fs n T h Q=
  if 0<=l/\l<=c/\bytes*c<=140737488355328/\c<=140737488355328 then wN P N (List.replicate c.toNat z).flatten (.sl n 0 0 l.toNat sz) d r dead fs n T h Q else False:=by
 by_cases hc:0<=l/\l<=c/\bytes*c<=140737488355328/\c<=140737488355328
 ·simp only[aMakeSlice,if_pos hc];exact QeJ (x:=fun g=> .cells g (List.replicate c.toNat z).flatten) rfl
 simp_all [aMakeSlice,if_neg,Qc6]
theorem QhB {cs:List AV}:fillA cs []=some cs:=rfl
theorem Qgo {cs:List AV} {off size:Nat} {v:AV} {r:List (Nat×Nat×AV)}:fillA cs ((off,size,v)::r)=if v.cells.length=size/\off+size<=cs.length/\v.boxable=true then fillA (putR cs off v.cells) r else none:=rfl
theorem QhC {z:List AV} {ps:List (Nat×Nat×AV)}:aBuild z ps=(fillA z ps).map AV.agg:=by grind [aBuild]
theorem QhD {k:IntKind} {a:Int}:(AV.int k a).cells=[.int k a]:=rfl
theorem QhE {cs:List AV}:(AV.agg cs).cells=cs:=rfl
theorem Qi2 {b g off len sz:Nat}:(AV.sl b g off len sz).cells=[.sl b g off len sz]:=rfl
theorem QhF {cs:List AV} {len sz:Nat}:(AV.fsl cs len sz).cells=[.fsl cs len sz]:=rfl
theorem Qfm:AV.nilsl.cells=[.nilsl]:=rfl
theorem Qku {k:IntKind} {a:Int}:(AV.int k a).boxable=true:=rfl
theorem Qkv {cs:List AV}:(AV.agg cs).boxable=true:=rfl
theorem Qmc {b g off len sz:Nat}:(AV.sl b g off len sz).boxable=true:=rfl
theorem Qkw {cs:List AV} {len sz:Nat}:(AV.fsl cs len sz).boxable=true:=rfl
theorem QhG:AV.nilsl.boxable=true:=rfl
theorem Qkx {k:IntKind} {a:Int}:(AV.int k a).one=true:=rfl
theorem Qmd {b g off len sz:Nat}:(AV.sl b g off len sz).one=true:=rfl
theorem Qky {cs:List AV} {len sz:Nat}:(AV.fsl cs len sz).one=true:=rfl
theorem QhH:AV.nilsl.one=true:=rfl
theorem Qi3 {cs:List AV} {off:Nat} {v:AV}:putR cs off [v]=cs.set off v:=rfl
theorem QhI {cs:List AV} {off:Nat} {v w:AV} {vs:List AV}:putR cs off (v::w::vs)=cs.take off++(v::w::vs)++cs.drop (off+(v::w::vs).length):=rfl
def srcB (o:Option Blk) (g off len sz:Nat):Option (List AV):=
 match o with
 |some (.cells g' cs)=>if g'=g/\off+len*sz<=cs.length then some ((cs.drop off).take (len*sz))else none
 |_=>none
theorem QbT {g g' off len sz:Nat} {cs:List AV}:srcB (some (.cells g' cs)) g off len sz=if g'=g/\off+len*sz<=cs.length then some ((cs.drop off).take (len*sz))else none:=rfl
theorem QjZ {sz bytes b g off len:Nat}:wM P N (aAppend .dyn n sz bytes .nilsl (.sl b g off (len+1) sz)) d r dead fs n T h Q=
  ∃ys,srcB (h.get b) g off (len+1) sz=some ys/\((len+1)*bytes<=140737488355328/\len+1<=140737488355328)/\ys.all AV.one=true/\wN P N ys (.sl n 0 0 (len+1) sz) d r dead fs n T h Q:=by
 simp only[aAppend,aSrc,if_true,slLen,Nat.zero_add,QcA,QcP]
 apply propext;constructor
 ·rintro ⟨cs, hb, h1, h2, h3⟩
  rw[hb,QbT,if_pos ⟨rfl,h1⟩]
  exact⟨_,rfl,⟨h2.1,h2.2.1⟩,h2.2.2,by rw[QeJ rfl]at h3;exact h3⟩
 ·rintro ⟨ys, hy, h2, h3, h4⟩
  unfold srcB at hy
  split at hy
  ·rename_i g' cs hb
   split at hy
   ·rename_i e
    obtain⟨rfl,e⟩:=e
    cases hy
    exact⟨cs,hb,e,⟨h2.1,h2.2,h3⟩,by rw[QeJ rfl];exact h4⟩
   ·cases hy
  ·cases hy
theorem Qln {sz bytes b g off len b2 g2 off2 len2:Nat}:wM P N (aAppend .dyn n sz bytes (.sl b2 g2 off2 len2 sz) (.sl b g off len sz)) d r dead fs n T h Q=
  ∃ys zs,srcB (h.get b) g off len sz=some ys/\srcB (h.get b2) g2 off2 len2 sz=some zs/\((len2+len)*bytes<=140737488355328/\len2+len<=140737488355328)/\ys.all AV.one=true/\
   wB P N (some (.cells (g2+1) (zs++ys))) b2 (.sl b2 (g2+1) 0 (len2+len) sz) d r dead fs n T h Q:=by
 simp only[aAppend,aSrc,if_true,slLen,QcA,QcP,QeF]
 apply propext;constructor
 ·rintro ⟨cs, hb, h1, h2, cs2, hb2, h3, h4⟩
  rw[hb,hb2,QbT,QbT,if_pos ⟨rfl,h1⟩,if_pos ⟨rfl,h3⟩]
  simp_all
 ·rintro ⟨ys, zs, hy, hz, h2, h3, h4⟩
  unfold srcB at hy hz
  grind
end
def Fresh (n:Nat) (h:Heap):Prop:=∀b,n<=b->h.get b=none
theorem Fresh.e {n:Nat}:Fresh n .e:=fun b _=>by simp[Tr.get]
theorem Fresh.le {n m:Nat} {h:Heap} (hf:Fresh n h) (hl:n<=m):Fresh m h:=fun b hb=>hf b (Nat.le_trans hl hb)
theorem Fresh.set {n k:Nat} {h:Heap} {x:Blk} (hf:Fresh n h) (hk:k<1099511627775) (hl:k<n):Fresh n (h.set k x):=fun b hb=>by
 rw[Qa1 hk (by omega)];exact hf b hb
end Go.AM
namespace Go.AM
variable {P:Program}
def FrzTo (h:Heap) (x y:AV):Prop:=∀(ok:Okc) (c:Ctx ok) (w:World) (v:Value),HRel c h w->VRel c w x v->VRel (lent c) w y v
def FrzL (h:Heap):List AV->List AV->Prop
 |[],[]=>True
 |x::xs,y::ys=>FrzTo h x y/\FrzL h xs ys
 |_,_=>False
variable {h:Heap}
theorem FrzTo.same (x:AV):FrzTo h x x:=fun _ c w v _ hv=>VRel.mono (QfF c w) _ _ hv
theorem FrzL.same:∀(xs:List AV),FrzL h xs xs
 |[]=>trivial
 |x::xs=>⟨.same x,FrzL.same xs⟩
theorem FrzL.length:∀{xs ys:List AV},FrzL h xs ys->ys.length=xs.length
 |[],[],_=>rfl
 |[],_::_,hh=>hh.elim
 |_::_,[],hh=>hh.elim
 |x::xs,y::ys,hh=>by simp[FrzL.length hh.2]
theorem FrzL.pre {ok:Okc} {c:Ctx ok} {w:World} (H:HRel c h w):∀{xs ys:List AV} {vs:List Value},FrzL h xs ys->VPre c w xs vs->VPre (lent c) w ys vs
 |[],[],_,_,_=>by simp[VPre]
 |[],_::_,_,hh,_=>hh.elim
 |_::_,[],_,hh,_=>hh.elim
 |x::xs,y::ys,vs,hh,hv=>by
  simp only[VPre]at hv⊢
  obtain⟨v,vs',rfl,g1,g2⟩:=hv
  exact⟨v,vs',rfl,hh.1 _ c w v H g1,FrzL.pre H hh.2 g2⟩
theorem FrzL.rels {ok:Okc} {c:Ctx ok} {w:World} (H:HRel c h w):∀{xs ys:List AV} {vs:List Value},FrzL h xs ys->VRels c w xs vs->VRels (lent c) w ys vs
 |[],[],_,_,hv=>by grind [VRels]
 |[],_::_,_,hh,_=>hh.elim
 |_::_,[],_,hh,_=>hh.elim
 |x::xs,y::ys,vs,hh,hv=>by
  simp only[VRels]at hv⊢
  obtain⟨v,vs',rfl,g1,g2⟩:=hv
  exact⟨v,vs',rfl,hh.1 _ c w v H g1,FrzL.rels H hh.2 g2⟩
theorem FrzTo.sl {b g off len sz : Nat} {cs ys : List AV} (hb : h.get b = some (.cells g cs)) (hl : off + len * sz <= cs.length) (hL : FrzL h ((cs.drop off).take (len * sz)) ys) :
    FrzTo h (.sl b g off len sz) (.fsl ys len sz):=fun _ c w v H hv=>by
  have hlen:=hL.length
  simp only[VRel]at hv
  rcases hv with⟨hp,rfl,rfl,rfl⟩|⟨cb,base,o,cap,C,e,fr,hp,rfl,hlc,hC,hcap⟩
  · simp_all [VRel]
  · obtain ⟨C', e', fr', hO, hC', hfr, hbs, hpre⟩ := H.here hb hp
    rw[hC]at hC';cases hC'
    by_cases h0:cap=0
    · have hl0 : len = 0 := by omega
      subst hl0
      have hys:ys=[]:=by
        simp_all
      subst hys
      simp only[VRel]
      simp_all
    · obtain ⟨rfl, hbd⟩ := hcap.resolve_left h0
      have hp2:=Qbz (len*sz) (QaY off hpre)
      rw[List.drop_drop]at hp2
      simp only[VRel]
      exact .inr ⟨cb,base+off,cap,C,e,fr,rfl,hlc,by grind,.inr hO,hC,hL.pre H hp2⟩
section
variable {N:NM} {n:Nat} {d:Option Nat} {af dead:List Nat} {r:List SOper} {T:Tmps} {Q:QC} {fs:List Fr}
end
end Go.AM
namespace Go.AM
variable {P:Program}
abbrev HL:=List (Nat×Blk)
def hp:HL->Heap
 |[]=> .e
 |p::r=>(hp r).set p.1 p.2
theorem Qme:hp []= .e:=rfl
theorem Qcd {b:Nat} {x:Blk} {r:HL}:hp ((b,x)::r)=(hp r).set b x:=rfl
theorem get_e {b:Nat}:Tr.get (α:=Blk) .e b=none:=by simp[Tr.get]
def lkS:List (Nat×Src)->Nat->Option Src
 |[],_=>none
 |(b,s)::r,k=>if k=b then some s else lkS r k
def srcNew (s:Src):List (Nat×Src)->Bool
 |[]=>true
 |(_,t)::r=>(match s,t with| .blk b _,.blk b' _=> !Nat.beq b b'|_,_=>true)&&srcNew s r
def okPs (m:Nat):List (Nat×Src)->HL->Bool
 |[],[]=>true
 |(b,s)::r,(b',_)::l=>Nat.beq b b'&&Nat.blt b 1099511627775&&(Nat.blt b m||((match s with| .blk k _=>Nat.ble m k| .nil=>true)&&srcNew s r))&&(r.all fun p=> !Nat.beq p.1 b)&&okPs m r l
 |_,_=>false
def ow (m:Nat) (ps:List (Nat×Src)):Nat->Option Src:=fun b=>if b<m then none else lkS ps b
def RB (m:Nat) (π:Nat->Option Src) (h:Heap):HL->Prop
 |[]=>True
 |(b',x)::r=>((b'<m/\BRn m π h (some (.blk b' x.gen)) x)\/(m<=b'/\x.gen=0/\(∀g,x≠ .dead g)/\BRn m π h (π b') x))/\RB m π h r
section
variable {m:Nat} {π:Nat->Option Src} {h:Heap}
theorem Qmf:∀{L:HL} {ps:List (Nat×Src)},okPs m ps L=true->∀{b:Nat} {x:Blk},(hp L).get b=some x->(b,x)∈L
 |[],[],_,b,x,hx=>by simp[hp,Tr.get]at hx
 |[],_::_,hh,_,_,_=>by simp[okPs]at hh
 |(b',x')::L,[],hh,_,_,_=>by simp[okPs]at hh
 | (b', x') :: L, (k, s) :: ps, hh, b, x, hx => by
  simp only[okPs,Bool.and_eq_true,Nat.blt_eq,Nat.beq_eq]at hh
  obtain⟨⟨⟨⟨rfl,h3⟩,_⟩,_⟩,h4⟩:=hh
  simp only[hp]at hx
  by_cases e:b=k
  ·simp_all [QaR]
  ·rw [Qa1 h3 e] at hx
   simp[Qmf h4 hx]
theorem Qkz:∀{L:HL} {ps:List (Nat×Src)},okPs m ps L=true->∀{b:Nat},(hp L).get b=none->lkS ps b=none
 |[],[],_,b,_=>rfl
 |[],_::_,hh,_,_=>by simp[okPs]at hh
 |(b',x')::L,[],hh,_,_=>by simp[okPs]at hh
 | (b', x') :: L, (k, s) :: ps, hh, b, hx => by
  simp only[okPs,Bool.and_eq_true,Nat.blt_eq,Nat.beq_eq]at hh
  obtain⟨⟨⟨⟨rfl,h3⟩,_⟩,_⟩,h4⟩:=hh
  simp only[hp]at hx
  by_cases e:b=k
  ·simp_all [QaR]
  ·rw [Qa1 h3 e] at hx
   simp only[lkS,if_neg e]
   exact Qkz h4 hx
theorem RB.mem:∀{L:HL},RB m π h L->∀{b:Nat} {x:Blk},(b,x)∈L->(b<m/\BRn m π h (some (.blk b x.gen)) x)\/(m<=b/\x.gen=0/\(∀g,x≠ .dead g)/\BRn m π h (π b) x)
 |[],_,_,_,hm=>by cases hm
 |(b',x')::L,hh,b,x,hm=>by
  rcases List.mem_cons.1 hm with e|hm
  ·cases e;exact hh.1
  ·exact RB.mem hh.2 hm
theorem Qi4:∀{ps:List (Nat×Src)} {L:HL},okPs m ps L=true->∀{b b1 g:Nat},m<=b->lkS ps b=some (.blk b1 g)->m<=b1
 |[],_,_,_,_,_,_,hs=>by simp[lkS]at hs
 |_::_,[],hh,_,_,_,_,_=>by simp[okPs]at hh
 | (k, s) :: ps, (b', x') :: L, hh, b, b1, g, hb, hs => by
  simp only[okPs,Bool.and_eq_true,Bool.or_eq_true,Nat.blt_eq]at hh
  obtain⟨⟨⟨_,h3⟩,_⟩,h4⟩:=hh
  simp only[lkS]at hs
  split at hs
  ·rename_i e
   cases hs
   rcases h3 with h3|h3
   ·omega
   simp_all
  ·exact Qi4 h4 hb hs
theorem QeK:∀{ps:List (Nat×Src)} {b g b' g' k:Nat},srcNew (.blk b g) ps=true->lkS ps k=some (.blk b' g')->b≠b'
 |[],_,_,_,_,_,_,hs=>by simp[lkS]at hs
 | (j, s) :: ps, b, g, b', g', k, hh, hs => by
  simp only[srcNew,Bool.and_eq_true]at hh
  simp only[lkS]at hs
  split at hs
  ·cases hs
   have:=hh.1
   simp only[Bool.not_eq_true']at this
   intro e;simp_all
  ·exact QeK hh.2 hs
theorem Qi5:∀{ps:List (Nat×Src)} {L:HL},okPs m ps L=true->∀{b1 b2 b g g2:Nat},m<=b1->m<=b2->lkS ps b1=some (.blk b g)->lkS ps b2=some (.blk b g2)->b1=b2
 |[],_,_,_,_,_,_,_,_,_,hs,_=>by simp[lkS]at hs
 |_::_,[],hh,_,_,_,_,_,_,_,_,_=>by simp[okPs]at hh
 | (k, s) :: ps, (b', x') :: L, hh, b1, b2, b, g, g2, m1, m2, h1, h2 => by
  simp only[okPs,Bool.and_eq_true,Bool.or_eq_true,Nat.blt_eq]at hh
  obtain⟨⟨⟨_,hn⟩,_⟩,h4⟩:=hh
  simp only[lkS]at h1 h2
  split at h1<;>split at h2
  ·omega
  ·rename_i e1 e2
   cases h1
   rcases hn with hn|hn
   ·omega
   ·exact absurd rfl (QeK hn.2 h2)
  ·rename_i e1 e2
   cases h2
   rcases hn with hn|hn
   ·omega
   ·exact absurd rfl (QeK hn.2 h1)
  ·exact Qi5 h4 m1 m2 h1 h2
theorem QkA:∀{ps:List (Nat×Src)} {L:HL},okPs m ps L=true->∀{b:Nat} {s:Src},lkS ps b=some s->∃x,(b,x)∈L
 |[],_,_,_,_,hs=>by simp[lkS]at hs
 |_::_,[],hh,_,_,_=>by simp[okPs]at hh
 | (k, t) :: ps, (b', x') :: L, hh, b, s, hs => by
  simp only[okPs,Bool.and_eq_true,Nat.beq_eq]at hh
  obtain⟨⟨⟨⟨rfl,_⟩,_⟩,_⟩,h4⟩:=hh
  simp only[lkS]at hs
  split at hs
  ·simp_all
  ·obtain ⟨x, hx⟩ := QkA h4 hs
   grind
def RO (m:Nat) (L:HL) (h:Heap):Prop:=∀b,b<m->(∀p∈L,p.1≠b)->h.get b=none
theorem RO.zero {L:HL}:RO 0 L h:=fun b hb=>absurd hb (Nat.not_lt_zero _)
theorem RO.e {L:HL}:RO m L .e:=fun b _ _=>get_e
theorem RO.set {L:HL} {k:Nat} {x:Blk} (hk:(Nat.blt k 1099511627775&&(Nat.ble m k||L.any fun p=>Nat.beq p.1 k))=true) (hr:RO m L h):RO m L (h.set k x):=fun b hb hn=>by
 simp only[Bool.and_eq_true,Bool.or_eq_true,Nat.blt_eq,Nat.ble_eq,List.any_eq_true,Nat.beq_eq]at hk
 obtain⟨h1,h2⟩:=hk
 have:b≠k:=by
  grind
 rw[Qa1 h1 this];exact hr b hb hn
def Rec (m:Nat) (T':Tmps) (L:HL) (T:Tmps) (h:Heap):Prop:=∃ps,okPs m ps L=true/\RO m L h/\RB m (ow m ps) h L/\RT m (ow m ps) h T' T
theorem ow_ge {ps:List (Nat×Src)} {b:Nat} (hb:m<=b):ow m ps b=lkS ps b:=if_neg (by omega)
theorem Rec.maps {ps:List (Nat×Src)} {L:HL} (ho:okPs m ps L=true) (hb:RB m (ow m ps) h L):Maps m (ow m ps) h:=by
 refine⟨fun b' b g hm hs=>?_,fun b1 b2 b g g2 m1 m2 h1 h2=>Qi5 ho m1 m2 (by rw[<-ow_ge m1];exact h1) (by rw[<-ow_ge m2];exact h2)⟩
 rw[ow_ge hm]at hs
 refine⟨?_,Qi4 ho hm hs⟩
 obtain⟨x,hx⟩:=QkA ho hs
 rcases hb.mem hx with⟨q0,_⟩|⟨_,q1,q2,q3⟩
 ·omega
 rw[ow_ge hm,hs]at q3
 cases x with
 |cells g' cs=>obtain⟨ds,_,k1,_⟩:=q3;exact⟨_,k1,rfl,fun k=>by simp⟩
 |map g' es=>obtain⟨ds,k1,_⟩:=q3;exact⟨_,k1,rfl,fun k=>by simp⟩
 |loop g' N T ps asg body st=>obtain⟨T0,k1,_⟩:=q3;exact⟨_,k1,rfl,fun k=>by simp⟩
 |dead g'=>exact absurd rfl (q2 g')
theorem Rec.heap {ps:List (Nat×Src)} {L:HL} (ho:okPs m ps L=true) (hb:RB m (ow m ps) h L):RH m (ow m ps) h (hp L):=fun b' x' hx=>hb.mem (Qmf ho hx)
theorem Qmg:∀{L:HL} {ps:List (Nat×Src)},okPs m ps L=true->∀{b:Nat},(hp L).get b=none->∀p∈L,p.1≠b
 |[],_,_,_,_,p,hp=>by cases hp
 |(b',x')::L,[],hh,_,_,_,_=>by simp[okPs]at hh
 | (b', x') :: L, (k, s) :: ps, hh, b, hx, p, hpm => by
  simp only[okPs,Bool.and_eq_true,Nat.blt_eq,Nat.beq_eq]at hh
  obtain⟨⟨⟨⟨rfl,h3⟩,_⟩,_⟩,h4⟩:=hh
  simp only[hp]at hx
  by_cases e:b=k
  ·simp_all [QaR]
  ·rw [Qa1 h3 e] at hx
   rcases List.mem_cons.1 hpm with rfl|hpm
   ·omega
   ·exact Qmg h4 hx p hpm
theorem Rec.dom {ps:List (Nat×Src)} {L:HL} (ho:okPs m ps L=true) (hr:RO m L h):RD m (ow m ps) h (hp L):=fun b' hx=>
 ⟨fun hlt=>hr b' hlt (Qmg ho hx),fun hge=>by grind [ow_ge,Qkz]⟩
theorem W2.recL {sc:SCode} {n:Nat} {Q:SX->St->Prop} {T T':Tmps} {L:HL} (hr:Rec m T' L T h) (hw:W2 P ⟨n,m⟩ sc Q ⟨T',hp L⟩):W2 P ⟨n,m⟩ sc Q ⟨T,h⟩:=by
 obtain⟨ps,ho,hro,hb,ht⟩:=hr
 exact W2.recast (N:=⟨n,m⟩) (Rec.maps ho hb) (Rec.heap ho hb) (Rec.dom ho hro) ht hw
theorem W2.post {sc:SCode} {k:Nat} {Q:SX->St->Prop} {A:St} (hw:W2 P ⟨k,m⟩ sc (fun e B=>Q e B\/∃T' L,Rec m T' L B.T B.h/\Q e ⟨T',hp L⟩) A):W2 P ⟨k,m⟩ sc Q A:=by
 intro code hok c a w S ro hro Q' hQ
 refine hw code hok c a w S ro hro Q' ?_
 rintro e B c' a' w' (hq|⟨T',L,⟨ps,ho,hro,hb,ht⟩,hq⟩) S' E'
 ·grind
 ·have M := Rec.maps ho hb
  exact hQ e ⟨T',hp L⟩ (nctx m (ow m ps) B.h c') a' w' hq ⟨(Rec.heap ho hb).hrel (Rec.dom ho hro) M S'.heap,fun i=>ht i _ c' w' _ S'.heap M (S'.tmps i),S'.size,S'.defers.mono2 (Qdj (m:=m) (π:=ow m ps) (h:=B.h) c' w')⟩ (E'.trans (Qdj c' w'))
theorem RT.nil {T:Tmps}:RT m π h [] T:=fun _=>Rn.any
theorem RT.cons {T' T:Tmps} {j:Nat} {v:AV} (hv:Rn m π h v (lk T j)) (hr:RT m π h T' T):RT m π h ((j,v)::T') T:=by
 intro i
 rw[QaG]
 split
 ·simp_all
 ·exact hr i
theorem RB.nil:RB m π h []:=trivial
theorem RB.cells {b b' g:Nat} {cs ds:List AV} {r:HL} (hm:Nat.ble m b'=true) (hp:π b'=some (.blk b g)) (hg:h.get b=some (.cells g ds)) (hc:RnL m π h cs ds) (hr:RB m π h r):RB m π h ((b',.cells 0 cs)::r):=
 ⟨.inr ⟨Nat.le_of_ble_eq_true hm,rfl,fun _=>by simp,by rw[hp];exact⟨ds,ds.length,hg,by simp_all⟩⟩,hr⟩
theorem RB.newnil {b':Nat} {r:HL} (hm:Nat.ble m b'=true) (hp:π b'=some .nil) (hr:RB m π h r):RB m π h ((b',.cells 0 [])::r):=⟨.inr ⟨Nat.le_of_ble_eq_true hm,rfl,fun _=>by simp,by rw[hp];rfl⟩,hr⟩
theorem RB.map {b b' g:Nat} {es fs:List (AV×AV)} {r:HL} (hm:Nat.ble m b'=true) (hp:π b'=some (.blk b g)) (hg:h.get b=some (.map g fs)) (hc:RnM m π h es fs) (hr:RB m π h r):RB m π h ((b',.map 0 es)::r):=
 ⟨.inr ⟨Nat.le_of_ble_eq_true hm,rfl,fun _=>by simp,by rw[hp];exact⟨fs,hg,hc⟩⟩,hr⟩
theorem RB.cellsB {b g:Nat} {cs ds:List AV} {r:HL} (hm:Nat.blt b m=true) (hg:h.get b=some (.cells g ds)) (hc:RnL m π h cs ds) (hr:RB m π h r):RB m π h ((b,.cells g cs)::r):=
 ⟨.inl ⟨by simpa using hm,ds,ds.length,hg,by simp_all⟩,hr⟩
theorem RB.mapB {b g:Nat} {es fs:List (AV×AV)} {r:HL} (hm:Nat.blt b m=true) (hg:h.get b=some (.map g fs)) (hc:RnM m π h es fs) (hr:RB m π h r):RB m π h ((b,.map g es)::r):=
 ⟨.inl ⟨by simpa using hm,fs,hg,hc⟩,hr⟩
theorem QkB {s:Src}:∀{ps:List (Nat×Src)},srcNew s ps=true->∀b' g',lkS ps b'=some g'->(match s,g' with| .blk b _,.blk b2 _=>b≠b2|_,_=>True)
 |[],_,b',g',hs=>by simp[lkS]at hs
 | (j, t) :: ps, hh, b', g', hs => by
  simp only[srcNew,Bool.and_eq_true]at hh
  simp only[lkS]at hs
  split at hs
  ·cases hs
   have:=hh.1
   cases s<;>cases t<;>simp_all
   intro e;simp_all
  ·exact QkB hh.2 b' g' hs
theorem RnL.nil {m:Nat} {π:Nat->Option Src} {h:Heap}:RnL m π h [] []:=trivial
theorem RnL.cons {m:Nat} {π:Nat->Option Src} {h:Heap} {x y:AV} {xs ys:List AV} (h1:Rn m π h x y) (h2:RnL m π h xs ys):RnL m π h (x::xs) (y::ys):=⟨h1,h2⟩
theorem Rn.fz {ps:List (Nat×Src)} {b g len sz:Nat} {cs ds:List AV} (hb:h.get b=some (.cells g ds)) (hn:srcNew (.blk b g) ps=true) (hm:Nat.ble m b=true) (hl:ds.length=len*sz)
  (hL:RnL m (ow m ps) h cs ds):Rn m (ow m ps) h (.fsl cs len sz) (.sl b g 0 len sz):=by
 refine Rn.frz hb (by simpa using hm) (fun b' g' hb' e=>?_) (by omega) ?_
 ·rw[ow_ge hb']at e;exact QkB hn b' _ e rfl
 grind
theorem Rn.fzm {ps:List (Nat×Src)} {b g len sz k:Nat} {cs ds:List AV} (hb:h.get b=some (.cells g ds)) (hn:srcNew (.blk b g) ps=true) (hm:Nat.ble m b=true) (hk:k=len) (hl:ds.length=len*sz)
  (hL:RnL m (ow m ps) h cs ds):Rn m (ow m ps) h (.fsl cs k sz) (.sl b g 0 len sz):=by simp_all [Rn.fz]
theorem Rn.fz0 {b g len sz:Nat} {cs ds:List AV} (hb:h.get b=some (.cells g ds)) (hl:ds.length=len*sz)
  (hL:RnL 0 π0 h cs ds):Rn 0 π0 h (.fsl cs len sz) (.sl b g 0 len sz):=by
 refine Rn.frz hb (Nat.zero_le _) (fun b' g' _ e=>by simp[π0]at e) (by omega) ?_
 grind
end
theorem Rn.slot {m:Nat} {π:Nat->Option Src} {h:Heap} {T:Tmps} {j:Nat} {v:AV} (hv:lk T j=v) (hn:noRef v=true):Rn m π h v (lk T j):=by simp_all [Rn.same]
section
variable {m:Nat} {π:Nat->Option Src} {h:Heap}
theorem Rn.x1 {b' b g off len sz:Nat} (hm:Nat.ble m b'=true) (hp:π b'=some (.blk b g)):Rn m π h (.sl b' 0 off len sz) (.sl b g off len sz):=Rn.sl (Nat.le_of_ble_eq_true hm) hp
theorem Rn.x2 {b' b g off:Nat} (hm:Nat.ble m b'=true) (hp:π b'=some (.blk b g)):Rn m π h (.ptr b' 0 off) (.ptr b g off):=Rn.ptr (Nat.le_of_ble_eq_true hm) hp
theorem Rn.x3 {b' b g:Nat} (hm:Nat.ble m b'=true) (hp:π b'=some (.blk b g)):Rn m π h (.map b' 0) (.map b g):=Rn.map (Nat.le_of_ble_eq_true hm) hp
theorem Rn.x4 {b' sz:Nat} (hm:Nat.ble m b'=true) (hp:π b'=some .nil):Rn m π h (.sl b' 0 0 0 sz) .nilsl:=Rn.slnil (Nat.le_of_ble_eq_true hm) hp
theorem Rn.x5 {b g off len sz:Nat} (hm:Nat.ble (b+1) m=true):Rn m π h (.sl b g off len sz) (.sl b g off len sz):=Rn.slB (Nat.le_of_ble_eq_true hm)
theorem Rn.x6 {b g off:Nat} (hm:Nat.ble (b+1) m=true):Rn m π h (.ptr b g off) (.ptr b g off):=Rn.ptrB (Nat.le_of_ble_eq_true hm)
theorem Rn.x7 {b g:Nat} (hm:Nat.ble (b+1) m=true):Rn m π h (.map b g) (.map b g):=Rn.mapB (Nat.le_of_ble_eq_true hm)
end
section
variable {k m n:Nat} {T:Tmps} {h:Heap} {Q:QC} {fs:List Fr} {α:Type} {env:α->Tmps} {H:α->HL} {I:α->Prop} {μ:α->Nat} {a:α}
def loopR (P:Program) (k m:Nat) {α:Type} (env:α->Tmps) (H:α->HL) (I:α->Prop) (μ:α->Nat) (a:α) (fs:List Fr) (Q:QC):QC:=fun e T h n=>
 match e with
 | .normal=>∃a',μ a'<μ a/\I a'/\Rec m (env a') (H a') T h
 |e=>wX P ⟨k,m⟩ e fs n T h Q
theorem QeL:loopR P k m env H I μ a fs Q .normal T h n=∃a',μ a'<μ a/\I a'/\Rec m (env a') (H a') T h:=rfl
theorem Qgp {i:Nat}:loopR P k m env H I μ a fs Q (.exit i) T h n=wX P ⟨k,m⟩ (.exit i) fs n T h Q:=rfl
theorem QhJ:loopR P k m env H I μ a fs Q .ret T h n=wX P ⟨k,m⟩ .ret fs n T h Q:=rfl
theorem Qal {b:SCode} (n0:Nat) (env:α->Tmps) (H:α->HL) (I:α->Prop) (μ:α->Nat) (a0:α)
  (h0:Rec m (env a0) (H a0) T h) (hI:I a0) (round:∀a,I a->wS P ⟨k,m⟩ b [] n0 (env a) (hp (H a)) (loopR P k m env H I μ a fs Q)):wS P ⟨k,m⟩ (.loop b) fs n T h Q:=by
 show W2 P ⟨k,m⟩ (.loop b) (fun e B=>∃n,ct P ⟨k,m⟩ fs Q e B.T B.h n) ⟨T,h⟩
 refine W2.loop (fun q B=>∃a,μ a=q/\I a/\Rec m (env a) (H a) B.T B.h) (μ a0) ⟨a0,rfl,hI,h0⟩ ?_
 rintro q B ⟨a,rfl,hi,hr⟩
 refine W2.recL hr ((wpC.toW (round a hi)).mono ?_)
 rintro e C ⟨n2,hq⟩
 cases e with
 |normal=>obtain⟨a',h1,h2,h3⟩:=hq;exact⟨μ a',h1,a',rfl,h2,h3⟩
 |exit i=>exact⟨n2,hq⟩
 |ret=>exact⟨n2,hq⟩
def loopX (P:Program) (k m:Nat) {α β:Type} (env:α->Tmps) (H:α->HL) (I:α->Prop) (μ:α->Nat) (i:Nat) (T1:β->Tmps) (L1:β->HL) (J:β->Prop) (a:α) (fs:List Fr) (Q:QC):QC:=fun e T h n=>
 match e with
 | .normal=>∃a',μ a'<μ a/\I a'/\Rec m (env a') (H a') T h
 | .exit j=>if j=i then ∃b,J b/\Rec m (T1 b) (L1 b) T h else wX P ⟨k,m⟩ (.exit j) fs n T h Q
 | .ret=>wX P ⟨k,m⟩ .ret fs n T h Q
section
variable {β:Type} {i:Nat} {T1:β->Tmps} {L1:β->HL} {J:β->Prop}
theorem QeM:loopX P k m env H I μ i T1 L1 J a fs Q .normal T h n=∃a',μ a'<μ a/\I a'/\Rec m (env a') (H a') T h:=rfl
theorem Qec {j:Nat}:loopX P k m env H I μ i T1 L1 J a fs Q (.exit j) T h n=if j=i then ∃b,J b/\Rec m (T1 b) (L1 b) T h else wX P ⟨k,m⟩ (.exit j) fs n T h Q:=rfl
theorem QhK:loopX P k m env H I μ i T1 L1 J a fs Q .ret T h n=wX P ⟨k,m⟩ .ret fs n T h Q:=rfl
end
theorem Qaw {b:SCode} {β:Type} (n0:Nat) (env:α->Tmps) (H:α->HL) (I:α->Prop) (μ:α->Nat) (a0:α) (i n1:Nat) (T1:β->Tmps) (L1:β->HL) (J:β->Prop)
  (h0:Rec m (env a0) (H a0) T h) (hI:I a0) (round:∀a,I a->wS P ⟨k,m⟩ b [] n0 (env a) (hp (H a)) (loopX P k m env H I μ i T1 L1 J a fs Q))
  (cont:∀b,J b->wX P ⟨k,m⟩ (.exit i) fs n1 (T1 b) (hp (L1 b)) Q):wS P ⟨k,m⟩ (.loop b) fs n T h Q:=by
 show W2 P ⟨k,m⟩ (.loop b) (fun e B=>∃n,ct P ⟨k,m⟩ fs Q e B.T B.h n) ⟨T,h⟩
 refine W2.post ?_
 refine W2.loop (fun q B=>∃a,μ a=q/\I a/\Rec m (env a) (H a) B.T B.h) (μ a0) ⟨a0,rfl,hI,h0⟩ ?_
 rintro q B ⟨a,rfl,hi,hr⟩
 refine W2.recL hr ((wpC.toW (round a hi)).mono ?_)
 rintro e C ⟨n2,hq⟩
 cases e with
 |normal=>obtain⟨a',h1,h2,h3⟩:=hq;exact⟨μ a',h1,a',rfl,h2,h3⟩
 | exit j =>
  replace hq:loopX P k m env H I μ i T1 L1 J a fs Q (.exit j) C.T C.h n2:=hq
  rw[Qec]at hq
  split at hq
  ·rename_i e; subst e
   obtain⟨b,hJ,hr⟩:=hq
   exact .inr ⟨_,_,hr,n1,cont b hJ⟩
  ·exact .inl ⟨n2,hq⟩
 |ret=>exact .inl ⟨n2,hq⟩
end
section
variable {N:NM} {n:Nat} {d:Option Nat} {af dead:List Nat} {r:List SOper} {T:Tmps} {h:Heap} {Q:QC} {fs:List Fr}
def wA (P:Program) (N:NM) (zs ys:Option (List AV)) (g len2 len sz bytes b:Nat) (d:Option Nat) (ops:List SOper) (dead:List Nat) (fs:List Fr) (n:Nat) (T:Tmps) (h:Heap) (Q:QC):Prop:=
 ∃ y z, ys = some y /\ zs = some z /\ ((len2 + len) * bytes <= 140737488355328 /\ len2 + len <= 140737488355328) /\ y.all AV.one = true /\
   wB P N (some (.cells (g+1) (z++y))) b (.sl b (g+1) 0 (len2+len) sz) d ops dead fs n T h Q
theorem Qfn {sz bytes b g off len b2 g2 off2 len2:Nat}:wM P N (aAppend .dyn n sz bytes (.sl b2 g2 off2 len2 sz) (.sl b g off len sz)) d r dead fs n T h Q=
  wA P N (srcB (h.get b2) g2 off2 len2 sz) (srcB (h.get b) g off len sz) g2 len2 len sz bytes b2 d r dead fs n T h Q:=by
 rw[Qln]
 apply propext;constructor
 ·rintro⟨ys,zs,h1,h2,h3,h4,h5⟩;exact⟨ys,zs,h1,h2,h3,h4,h5⟩
 ·rintro⟨ys,zs,h1,h2,h3,h4,h5⟩;simp_all
theorem QkC {zs ys:List AV} {g len2 len sz bytes b:Nat} (h1:(len2+len)*bytes<=140737488355328) (h2:len2+len<=140737488355328):
  wA P N (some zs) (some ys) g len2 len sz bytes b d r dead fs n T h Q=if ys.all AV.one=true then wB P N (some (.cells (g+1) (zs++ys))) b (.sl b (g+1) 0 (len2+len) sz) d r dead fs n T h Q else False:=by
 by_cases ho:ys.all AV.one=true
 ·rw [if_pos ho]; apply propext; constructor
  ·rintro⟨y,z,e1,e2,_,_,h5⟩;simp_all
  ·intro h5;exact⟨ys,zs,rfl,rfl,⟨h1,h2⟩,ho,h5⟩
 ·rw [if_neg ho]; apply propext; constructor
  ·rintro⟨y,z,e1,e2,_,h4,h5⟩;grind
  simp_all
theorem QfP {g len sz:Nat} {cs:List AV} (hl:cs.length=len*sz):srcB (some (.cells g cs)) g 0 len sz=some cs:=by
 rw[QbT,if_pos ⟨rfl,by omega⟩,List.drop_zero,<-hl,List.take_length]
end
end Go.AM
namespace Go.AM
theorem words:type_of% @Qj9/\type_of% @QlT/\type_of% @Qka/\type_of% @Qhj/\type_of% @QlU/\type_of% @Qkb/\type_of% @QiC/\type_of% @Qkc/\type_of% @QiD/\type_of% @Qkd/\type_of% @QlV/\type_of% @wX_sq/\type_of% @Qhk/\type_of% @Qgb/\type_of% @QlW/\type_of% @Qgc/\type_of% @Qfc/\type_of% @QeI/\type_of% @Qgm/\type_of% @QhA/\type_of% @ev_t/\type_of% @ev_c/\type_of% @ev_f/\type_of% @QlX/\type_of% @QaG/\type_of% @QgN/\type_of% @QlY/\type_of% @QlZ/\type_of% @rm_no/\type_of% @Qke/\type_of% @Qhl/\type_of% @Qhm/\type_of% @QiE/\type_of% @Qhn/\type_of% @Qkf/\type_of% @QiF/\type_of% @QiG/\type_of% @QiH/\type_of% @Qfd/\type_of% @QeE/\type_of% @Ql0/\type_of% @QiI/\type_of% @Qkg/\type_of% @Qkh/\type_of% @Ql1/\type_of% @Qki/\type_of% @Qkj/\type_of% @QiJ/\type_of% @Qho/\type_of% @Ql2/\type_of% @wR_eq/\type_of% @wR_un/\type_of% @Qkk/\type_of% @Qdk/\type_of% @QiL/\type_of% @QiM/\type_of% @QiN/\type_of% @QiO/\type_of% @QiP/\type_of% @Qgd/\type_of% @Qhp/\type_of% @QiQ/\type_of% @Ql4/\type_of% @Qhq/\type_of% @Qkl/\type_of% @QiR/\type_of% @QiS/\type_of% @Qge/\type_of% @Qhr/\type_of% @Qkm/\type_of% @Ql5/\type_of% @Qhs/\type_of% @Qkn/\type_of% @Qko/\type_of% @Qc5/\type_of% @QiT/\type_of% @Ql6/\type_of% @QbS/\type_of% @QgO/\type_of% @Qhv/\type_of% @Qfe/\type_of% @Qff/\type_of% @Qgf/\type_of% @Qhw/\type_of% @QiV/\type_of% @Qhx/\type_of% @Qfg/\type_of% @Qhy/\type_of% @Qht/\type_of% @Qhu/\type_of% @QfK/\type_of% @QfL/\type_of% @QfM/\type_of% @QfN/\type_of% @QiW/\type_of% @QiX/\type_of% @Qdl/\type_of% @Qdm/\type_of% @Qdn/\type_of% @Qdo/\type_of% @Qdp/\type_of% @Qdq/\type_of% @Qkq/\type_of% @Qkr/\type_of% @QeG/\type_of% @Qgh/\type_of% @Qfh/\type_of% @Qgg/\type_of% @QeH/\type_of% @QiY/\type_of% @QiZ/\type_of% @Ql7/\type_of% @wr_u8/\type_of% @Ql9/\type_of% @Qma/\type_of% @Ql8/\type_of% @Qmb/\type_of% @Qgi/\type_of% @Qhz/\type_of% @Qgj/\type_of% @Qfi/\type_of% @Qgk/\type_of% @Qfj/\type_of% @Qfk/\type_of% @Qfl/\type_of% @List.elem_cons.{0}/\type_of% @List.elem_nil.{0}/\type_of% @Bool.false_eq_true/\type_of% @Bool.true_eq_false/\type_of% @List.getElem?_cons_zero.{0}/\type_of% @List.getElem?_cons_succ.{0}/\type_of% @decide_eq_true_eq/\type_of% @decide_eq_false_iff_not/\type_of% @decide_true/\type_of% @decide_false/\type_of% @Bool.not_true/\type_of% @Bool.not_false/\type_of% @Bool.not_eq_true'/\type_of% @Bool.not_eq_eq_eq_not/\type_of% @List.nil_append.{0}/\type_of% @List.append_nil.{0}/\type_of% @List.cons_append.{0}/\type_of% @and_true/\type_of% @true_and/\type_of% @Int.natCast_nonneg/\type_of% @Int.toNat_natCast/\type_of% @Nat.mul_one/\type_of% @Nat.zero_add/\type_of% @Int.toNat_zero/\type_of% @Qgn/\type_of% @Qi0/\type_of% @Qks/\type_of% @Qgl:=
 ⟨@Qj9,@QlT,@Qka,@Qhj,@QlU,@Qkb,@QiC,@Qkc,@QiD,@Qkd,@QlV,@wX_sq,@Qhk,@Qgb,@QlW,@Qgc,@Qfc,@QeI,@Qgm,@QhA,@ev_t,@ev_c,@ev_f,@QlX,@QaG,@QgN,@QlY,@QlZ,@rm_no,@Qke,@Qhl,@Qhm,@QiE,@Qhn,@Qkf,@QiF,@QiG,@QiH,@Qfd,@QeE,@Ql0,@QiI,@Qkg,@Qkh,@Ql1,@Qki,@Qkj,@QiJ,@Qho,@Ql2,@wR_eq,@wR_un,@Qkk,@Qdk,@QiL,@QiM,@QiN,@QiO,@QiP,@Qgd,@Qhp,@QiQ,@Ql4,@Qhq,@Qkl,@QiR,@QiS,@Qge,@Qhr,@Qkm,@Ql5,@Qhs,@Qkn,@Qko,@Qc5,@QiT,@Ql6,@QbS,@QgO,@Qhv,@Qfe,@Qff,@Qgf,@Qhw,@QiV,@Qhx,@Qfg,@Qhy,@Qht,@Qhu,@QfK,@QfL,@QfM,@QfN,@QiW,@QiX,@Qdl,@Qdm,@Qdn,@Qdo,@Qdp,@Qdq,@Qkq,@Qkr,@QeG,@Qgh,@Qfh,@Qgg,@QeH,@QiY,@QiZ,@Ql7,@wr_u8,@Ql9,@Qma,@Ql8,@Qmb,@Qgi,@Qhz,@Qgj,@Qfi,@Qgk,@Qfj,@Qfk,@Qfl,@List.elem_cons.{0},@List.elem_nil.{0},@Bool.false_eq_true,@Bool.true_eq_false,@List.getElem?_cons_zero.{0},@List.getElem?_cons_succ.{0},@decide_eq_true_eq,@decide_eq_false_iff_not,@decide_true,@decide_false,@Bool.not_true,@Bool.not_false,@Bool.not_eq_true',@Bool.not_eq_eq_eq_not,@List.nil_append.{0},@List.append_nil.{0},@List.cons_append.{0},@and_true,@true_and,@Int.natCast_nonneg,@Int.toNat_natCast,@Nat.mul_one,@Nat.zero_add,@Int.toNat_zero,@Qgn,@Qi0,@Qks,@Qgl⟩
theorem wordsN:type_of% @Qi1/\type_of% @QdS/\type_of% @QdB/\type_of% @QhC/\type_of% @Option.map_some.{0,0}/\type_of% @QgP/\type_of% @wN_go/\type_of% @wB_go/\type_of% @QaR/\type_of% @Qa1/\type_of% @QhB/\type_of% @Qgo/\type_of% @QhD/\type_of% @QhE/\type_of% @Qi2/\type_of% @QhF/\type_of% @Qfm/\type_of% @Qku/\type_of% @Qkv/\type_of% @Qmc/\type_of% @Qkw/\type_of% @QhG/\type_of% @Qkx/\type_of% @Qmd/\type_of% @Qky/\type_of% @QhH/\type_of% @Qi3/\type_of% @List.set_cons_zero.{0}/\type_of% @List.set_cons_succ.{0}/\type_of% @List.length_cons.{0}/\type_of% @List.length_nil.{0}/\type_of% @List.all_cons.{0}/\type_of% @List.all_nil.{0}/\type_of% @Bool.and_true/\type_of% @Bool.true_and/\type_of% @List.drop_zero.{0}/\type_of% @List.drop_succ_cons.{0}/\type_of% @List.take_succ_cons.{0}/\type_of% @List.take_zero.{0}/\type_of% @List.head?_cons.{0}/\type_of% @QhI/\type_of% @Nat.le_refl/\type_of% @Int.cast_ofNat_Int/\type_of% @Int.natCast_zero/\type_of% @Int.natCast_one:=
 ⟨@Qi1,@QdS,@QdB,@QhC,@Option.map_some.{0,0},@QgP,@wN_go,@wB_go,@QaR,@Qa1,@QhB,@Qgo,@QhD,@QhE,@Qi2,@QhF,@Qfm,@Qku,@Qkv,@Qmc,@Qkw,@QhG,@Qkx,@Qmd,@Qky,@QhH,@Qi3,@List.set_cons_zero.{0},@List.set_cons_succ.{0},@List.length_cons.{0},@List.length_nil.{0},@List.all_cons.{0},@List.all_nil.{0},@Bool.and_true,@Bool.true_and,@List.drop_zero.{0},@List.drop_succ_cons.{0},@List.take_succ_cons.{0},@List.take_zero.{0},@List.head?_cons.{0},@QhI,@Nat.le_refl,@Int.cast_ofNat_Int,@Int.natCast_zero,@Int.natCast_one⟩
theorem wordsR:type_of% @Qme/\type_of% @Qcd/\type_of% @get_e/\type_of% @QeL/\type_of% @Qgp/\type_of% @QhJ/\type_of% @QeM/\type_of% @Qec/\type_of% @QhK/\type_of% @Qfn/\type_of% @QkC/\type_of% @QfP/\type_of% @Int.ofNat_lt/\type_of% @Int.ofNat_le/\type_of% @Int.ofNat_inj/\type_of% @Int.natCast_pos/\type_of% @Int.natCast_add/\type_of% @List.length_map.{0,0}/\type_of% @List.length_append.{0}/\type_of% @List.take_length.{0}/\type_of% @Nat.zero_mul/\type_of% @Nat.one_mul/\type_of% @Nat.add_zero/\type_of% @Int.zero_add/\type_of% @Nat.not_lt_zero/\type_of% @Int.le_refl/\type_of% @not_true/\type_of% @not_false_iff/\type_of% @Nat.lt_irrefl/\type_of% @Int.lt_irrefl:=
 ⟨@Qme,@Qcd,@get_e,@QeL,@Qgp,@QhJ,@QeM,@Qec,@QhK,@Qfn,@QkC,@QfP,@Int.ofNat_lt,@Int.ofNat_le,@Int.ofNat_inj,@Int.natCast_pos,@Int.natCast_add,@List.length_map.{0,0},@List.length_append.{0},@List.take_length.{0},@Nat.zero_mul,@Nat.one_mul,@Nat.add_zero,@Int.zero_add,@Nat.not_lt_zero,@Int.le_refl,@not_true,@not_false_iff,@Nat.lt_irrefl,@Int.lt_irrefl⟩
end Go.AM
namespace Go.AM
variable {P:Program}
section
variable {h:Heap}
end
section
variable {h:Heap}
theorem FrzTo.fn {f:Nat} {xs ys us vs:List AV} (hL:FrzL h xs ys) (hK:FrzL h us vs):FrzTo h (.fn f xs us) (.fn f ys vs):=fun _ c w v H hv=>by
 simp only[VRel]at hv⊢
 obtain⟨x',y',rfl,h1,h2⟩:=hv
 exact⟨x',y',rfl,hL.rels H h1,hK.rels H h2⟩
theorem FrzTo.ptr {b g off:Nat} {cs ys:List AV} (hb:h.get b=some (.cells g cs)) (hL:FrzL h (cs.drop off) ys):FrzTo h (.ptr b g off) (.fptr ys):=fun _ c w v H hv=>by
 simp only[VRel]at hv
 obtain⟨cb,base,hp,rfl⟩:=hv
 obtain⟨C',e',fr',hO,hC',hfr,hbs,hpre⟩:=H.here hb hp
 have hp2:=QaY off hpre
 rw[List.drop_drop]at hp2
 simp only[VRel]
 exact⟨cb,base+off,C',e',fr',rfl,.inr hO,hC',hL.pre H hp2⟩
theorem HSpec.lend {f:Nat} {args bs:List AV} {v:AV} (hL:FrzL h args bs) (hp:PSpec P f bs v) (hv:flatV v=true):HSpec P f args h v h:=by
 obtain⟨h',hc,_⟩:=hp.2.2
 exact⟨hc,fun c w cargs H ha=>(hp.borrow hv H (hL.rels H ha)).2⟩
end
end Go.AM
namespace Go.AM
variable {P:Program}
section
variable {N:NM} {n:Nat} {d:Option Nat} {af dead:List Nat} {r:List SOper} {T:Tmps} {h:Heap} {Q:QC} {fs:List Fr}
theorem QeN (hl:n<1099511627775):wM P N (aMakeMap .dyn n) d r dead fs n T h Q=if h.get n=none then wR P N r dead fs (n+1) (putD T d (.map n 0)) (h.set n (.map 0 [])) Q else False:=by
 have hl':Nat.blt n lim=true:=by simp[Nat.blt];unfold lim;omega
 apply propext;constructor
 ·rintro ⟨v', h1, hm, hk⟩
  unfold aMakeMap HM.new at hm
  simp only[HM.run]at hm
  cases hn:h.get n with
  |none=>
   rw[hn]at hm
   obtain⟨hl,hm⟩:=QaE hm
   simp only[HM.run,Option.some.injEq,Prod.mk.injEq]at hm
   obtain⟨rfl,rfl⟩:=hm
   rw[if_pos rfl];exact hk
  |some z=>rw[hn]at hm;cases hm
 ·split
  ·rename_i hn
   intro hk
   refine⟨_,_,?_,hk⟩
   grind [aMakeMap,HM.new,HM.run]
  simp_all
def keyM (k:IntKind) (v:AV) (l:List Nat):List (AV×AV):=l.map fun x:Nat=>(.int k (x:Int),v)
theorem RnM.keyM {m:Nat} {π:Nat->Option Src} {h:Heap} {k:IntKind} {v:AV} (hv:noRef v=true):∀{l:List Nat},RnM m π h (keyM k v l) (keyM k v l)
 |[]=>trivial
 |x::l=>⟨⟨Rn.same rfl,Rn.same hv⟩,RnM.keyM hv (l:=l)⟩
end
theorem wordsM:AV.nilmap.boxable=true/\AV.nilmap.cells=[.nilmap]/\(∀b g,(AV.map b g).cells=[.map b g])/\(∀b g,(AV.map b g).one=true)/\(∀b g,(AV.map b g).boxable=true)/\AV.nilmap.one=true:=
 ⟨rfl,rfl,fun _ _=>rfl,fun _ _=>rfl,fun _ _=>rfl,rfl⟩
theorem HSpec.QoS {f m:Nat} {sf:SFn} {args:List AV} {L0 L:HL} {v:AV} (n:Nat) (hok:okFn P f sf=true) (hl:Nat.ble args.length sf.n=true) (hm:(Nat.ble m 1099511627775&&L0.all fun p=>Nat.blt p.1 m)=true)
  (hv:noRef v=true) (hw:wS P ⟨sf.n,m⟩ sf.body [] n (argT 0 args) (hp L0) fun e T k _=>(e= .normal\/e= .ret)/\∃vs,resV T k sf.res=some vs/\resOf vs=v/\Rec m [] L T k):HSpec P f args (hp L0) v (hp L):=by
 simp only[Bool.and_eq_true,Nat.ble_eq]at hm
 refine HSpec.of_W2 hok (Nat.le_of_ble_eq_true hl) (fun b hb=>?_) ((wpC.toW hw).mono ?_)
 ·have : ∀ M : HL, M.all (fun p => Nat.blt p.1 m) = true -> (hp M).get b = none := by
   intro M
   induction M with
   |nil=>intro _;exact get_e
   |cons q M ih=>
    obtain⟨j,x⟩:=q
    intro hM
    simp only[List.all_cons,Bool.and_eq_true,Nat.blt,Nat.ble_eq]at hM
    rw[Qcd,Qa1 (by omega) (by omega)];exact ih (by grind [Nat.blt])
  grind
 ·rintro e B ⟨n', h1, vs, h2, h3, ps, ho, hro, hb, ht⟩
  exact⟨h1,vs,_,h2,Rec.maps ho hb,Rec.heap ho hb,Rec.dom ho hro,by simp_all [Rn.same]⟩
end Go.AM
namespace Go.AM
variable {P:Program}
section
variable {N:NM} {n:Nat} {d:Option Nat} {dead:List Nat} {r:List SOper} {T:Tmps} {h:Heap} {Q:QC} {fs:List Fr}
theorem Qfo {sz bytes len b2 g2 off2 len2:Nat} {cs:List AV}:wM P N (aAppend .dyn n sz bytes (.sl b2 g2 off2 len2 sz) (.fsl cs len sz)) d r dead fs n T h Q=
  wA P N (srcB (h.get b2) g2 off2 len2 sz) (some cs) g2 len2 len sz bytes b2 d r dead fs n T h Q:=by
 simp only[aAppend,aSrc,if_true,slLen,QcA,QcP,QeF]
 apply propext;constructor
 ·rintro ⟨h2, cs2, hb2, h3, h4⟩
  rw[hb2,QbT,if_pos ⟨rfl,h3⟩]
  exact⟨_,_,rfl,rfl,⟨h2.1,h2.2.1⟩,h2.2.2,h4⟩
 ·rintro ⟨ys, zs, hy, hz, h2, h3, h4⟩
  cases hy
  unfold srcB at hz
  grind
theorem QdJ {sz bytes b2 g2 off2 len2:Nat}:wM P N (aAppend .dyn n sz bytes (.sl b2 g2 off2 len2 sz) .nilsl) d r dead fs n T h Q=
  wA P N (srcB (h.get b2) g2 off2 len2 sz) (some []) g2 len2 0 sz bytes b2 d r dead fs n T h Q:=by
 simp only[aAppend,aSrc,if_true,slLen,QcA,QcP,QeF]
 apply propext;constructor
 ·rintro ⟨h2, cs2, hb2, h3, h4⟩
  rw[hb2,QbT,if_pos ⟨rfl,h3⟩]
  exact⟨_,_,rfl,rfl,⟨h2.1,h2.2.1⟩,h2.2.2,h4⟩
 ·rintro ⟨ys, zs, hy, hz, h2, h3, h4⟩
  cases hy
  unfold srcB at hz
  grind
end
theorem Qfp {cs:List AV} {len sz:Nat} {k:IntKind} {a:Int}:aSliceC (some sz) (.fsl cs len sz) (some (.int k a)) none none=
  if 0<=a/\a<=len then some (.fsl ((cs.drop (a.toNat*sz)).take ((len-a.toNat)*sz)) (len-a.toNat) sz)else none:=by
 simp_all [aSliceC,aSlice,bnd]
theorem Qfq {cs:List AV} {len sz:Nat} {k:IntKind} {b:Int}:aSliceC (some sz) (.fsl cs len sz) none (some (.int k b)) none=
  if 0<=b/\b<=len then some (.fsl (cs.take (b.toNat*sz)) b.toNat sz)else none:=by
 simp_all [aSliceC,aSlice,bnd]
theorem Qfr {cs:List AV} {len sz:Nat} {k k2:IntKind} {a b:Int}:aSliceC (some sz) (.fsl cs len sz) (some (.int k a)) (some (.int k2 b)) none=
  if 0<=a/\a<=b/\b<=len then some (.fsl ((cs.drop (a.toNat*sz)).take ((b.toNat-a.toNat)*sz)) (b.toNat-a.toNat) sz)else none:=by
 simp_all [aSliceC,aSlice,bnd]
theorem Qgq {b g off len sz:Nat} {k:IntKind} {a:Int}:aSliceC (some sz) (.sl b g off len sz) (some (.int k a)) none none=
  if 0<=a/\a<=len then some (.sl b g (off+a.toNat*sz) (len-a.toNat) sz)else none:=by
 simp_all [aSliceC,aSlice,bnd]
theorem Qgr {b g off len sz:Nat} {k:IntKind} {c:Int}:aSliceC (some sz) (.sl b g off len sz) none (some (.int k c)) none=
  if 0<=c/\c<=len then some (.sl b g off c.toNat sz)else none:=by
 simp_all [aSliceC,aSlice,bnd]
theorem Qgs {b g off len sz:Nat} {k k2:IntKind} {a c:Int}:aSliceC (some sz) (.sl b g off len sz) (some (.int k a)) (some (.int k2 c)) none=
  if 0<=a/\a<=c/\c<=len then some (.sl b g (off+a.toNat*sz) (c.toNat-a.toNat) sz)else none:=by
 simp_all [aSliceC,aSlice,bnd]
end Go.AM
namespace Go.AM
variable {P:Program}
def HM.tch {α:Type} (B:Nat->Prop):HM α->Prop
 | .ret _=>True
 | .fail=>True
 | .look b k=>B b/\∀x,(k x).tch B
 | .put b _ k=>B b/\k.tch B
theorem HM.QoT {α:Type} {B:Nat->Prop} (m:HM α):m.tch B->∀h b,b∈(m.fp h).1\/b∈(m.fp h).2->B b:=by
 induction m with
 |ret a=>intro _ h b hb;simp[HM.fp]at hb
 |fail=>intro _ h b hb;simp[HM.fp]at hb
 |look b k ih=>
  rintro⟨h1,h2⟩ h b' hb
  simp only[HM.fp,List.mem_cons]at hb
  rcases hb with(rfl|hb)|hb
  ·exact h1
  ·grind
  ·grind
 |put b x k ih=>
  rintro⟨h1,h2⟩ h b' hb
  simp only[HM.fp,List.mem_cons]at hb
  rcases hb with hb|rfl|hb
  ·grind
  ·exact h1
  ·grind
theorem HM.Qnl {α β:Type} {B:Nat->Prop} {m:HM α} {f:α->HM β} (h1:m.tch B) (h2:∀a,(f a).tch B):(m.bind f).tch B:=by
 induction m with
 |ret a=>exact h2 a
 |fail=>trivial
 |look b k ih=>exact⟨h1.1,fun x=>ih x (h1.2 x)⟩
 |put b x k ih=>exact⟨h1.1,ih h1.2⟩
theorem QkD {α:Type} {B:Nat->Prop} (o:Option α):(HM.opt o).tch B:=by cases o<;>trivial
theorem QcR {α:Type} {B:Nat->Prop} {b g:Nat} {k:List AV->HM α} (hb:B b) (hk:∀cs,(k cs).tch B):(HM.cells b g k).tch B:=by
 refine⟨hb,fun x=>?_⟩
 match x with
 |some (.cells g' cs)=>
  simp only
  cases Nat.beq g' g<;>first|exact trivial|exact hk cs
 |some (.map _ _)=>trivial
 |some (.dead _)=>trivial
 |some (.loop ..)=>trivial
 |none=>trivial
theorem QgQ {α:Type} {B:Nat->Prop} {i:Nat} {x:Nat->Blk} {k:Nat->Nat->HM α} (hb:B i) (hk:∀b g,(k b g).tch B):(HM.new .dyn i x k).tch B:=by
 refine⟨hb,fun y=>?_⟩
 match y with
 |none=>exact⟨hb,hk _ _⟩
 |some z=>trivial
def blks:AV->Option (List Nat)
 | .ptr b _ _=>some [b]
 | .sl b _ _ _ _=>some [b]
 | .map b _=>some [b]
 | .any=>none
 | .agg _=>none
 | .tup []=>some []
 | .tup _=>none
 | .fn _ _ _=>none
 | .ifc _ _=>none
 | .typed _ _ _=>none
 |_=>some []
def Pts (v:AV) (bs:List Nat):Prop:=∃cs,blks v=some cs/\∀b∈cs,b∈bs
abbrev Abs:=List (Nat×Option (List Nat))
def absT (T:Tmps):Abs->Nat->Option (List Nat)
 |[],i=>blks (lk T i)
 |(j,a)::r,i=>bif Nat.beq j i then a else absT T r i
def absO (T:Tmps) (A:Abs):Opd->Option (List Nat)
 | .t i=>absT T A i
 | .c v=>blks v
 |_=>none
def SOp.absV (i:Nat) (ax:Opd->Option (List Nat)):SOp->Option (List Nat)
 | .mov x=>ax x
 | .slice _ x _ _ _=>ax x
 | .iaddr _ _ x _=>ax x
 | .faddr _ x=>ax x
 | .alloc .dyn _=>some [i]
 | .box .dyn _=>some [i]
 | .bslice false .dyn _ _ _ _=>some [i]
 | .mkslice .dyn _ _ _ _ _=>some [i]
 | .mkmap .dyn=>some [i]
 | .append .dyn _ _ x _=>(ax x).map fun bs=>i::bs
 |_=>none
def SOp.touch (i:Nat) (ax:Opd->Option (List Nat)):SOp->Option (List Nat)
 | .load _ x=>ax x
 | .store _ x _=>ax x
 | .len _ x=>ax x
 | .alloc .dyn _=>some [i]
 | .box .dyn _=>some [i]
 | .bslice _ .dyn _ _ _ _=>some [i]
 | .mkslice .dyn _ _ _ _ _=>some [i]
 | .mkmap .dyn=>some [i]
 | .append .dyn _ _ x y=>match ax x,ax y with
  |some a,some b=>some (i::(a++b))
  |_,_=>none
 | .copy _ x y=>match ax x,ax y with
  |some a,some b=>some (a++b)
  |_,_=>none
 | .lookup _ _ _ _ x _=>ax x
 | .mupd _ _ x _ _=>ax x
 |s=>bif Nat.beq s.cls 0 then some []else none
def touches (n:Nat) (T:Tmps):List SOper->Abs->List (Option (List Nat))
 |[],_=>[]
 |s::r,A=>s.op.touch n (absO T A)::touches (n+1) T r (match s.dst with|some d=>(d,s.op.absV n (absO T A))::A|none=>A)
def pairsOK (ts:List (Option (List Nat))) (ps:List (Nat×Nat)):Bool:=
 ps.all fun p=>match ts.getD p.1 none,ts.getD p.2 none with
  |some a,some b=>a.all fun x=> !b.elem x
  |_,_=>false
section
variable {i:Nat} {T:Tmps} {ax:Opd->Option (List Nat)} {B:Nat->Prop}
theorem Qnm {n:Option Nat} {v:AV} {bs:List Nat} (h:Pts v bs):(aLoad n v).tch (· ∈bs):=by
 obtain⟨cs,h1,h2⟩:=h
 unfold aLoad
 split
 ·simp only [blks, Option.some.injEq] at h1
  subst h1
  refine QcR (h2 _ (by simp)) fun cs=>?_
  split
  ·exact QkD _
  ·split<;>trivial
 ·split
  ·exact QkD _
  ·split<;>trivial
 ·trivial
theorem Qmh {n:Nat} {v u:AV} {bs:List Nat} (h:Pts v bs):(aStore n v u).tch (· ∈bs):=by
 obtain⟨cs,h1,h2⟩:=h
 unfold aStore
 split
 ·simp only [blks, Option.some.injEq] at h1
  subst h1
  have hb:=h2 _ (List.mem_singleton.2 rfl)
  refine QcR hb fun cs=>?_
  split
  ·exact⟨hb,trivial⟩
  ·trivial
 ·trivial
theorem Qn6 {k:Nat} {v:AV} {bs:List Nat} (h:Pts v bs):(aLenC k v).tch (· ∈bs):=by
 obtain⟨cs,h1,h2⟩:=h
 unfold aLenC
 split
 ·unfold aLen
  split<;>try trivial
  simp only[blks,Option.some.injEq]at h1
  subst h1
  refine⟨h2 _ (by simp),fun y=>?_⟩
  match y with
  |some (.map g' es)=>
   simp only
   generalize Nat.beq g' _=t
   cases t<;>trivial
  |some (.cells _ _)=>trivial
  |some (.dead _)=>trivial
  |some (.loop ..)=>trivial
  |none=>trivial
 ·trivial
theorem QeX {sz:Nat} {v:AV} {bs:List Nat} {k:List AV->Nat->HM AV} (h:Pts v bs) (hs:∀b∈bs,B b) (hk:∀ys n,(k ys n).tch B):(aSrc sz v k).tch B:=by
  obtain⟨cs,h1,h2⟩:=h
  unfold aSrc
  split
  · simp only [blks, Option.some.injEq] at h1
    subst h1
    split
    · refine QcR (hs _ (h2 _ (by simp))) fun cs => ?_
      split
      · exact hk _ _
      · trivial
    · trivial
  · split
    · exact hk _ _
    · trivial
  · exact hk _ _
  · exact hk _ _
  · exact hk _ _
  · split
    · exact hk _ _
    · trivial
  · trivial
theorem Qlo {sz bytes : Nat} {x y : AV} {a b : List Nat} (hx : Pts x a) (hy : Pts y b) : (aAppend .dyn i sz bytes x y).tch (· ∈ i :: (a ++ b)) := by
  unfold aAppend
  refine QeX hy (fun c hc=>by simp[hc]) fun ys n=>?_
  split
  · obtain ⟨cs, h1, h2⟩ := hx
    split
    · split
      · trivial
      · exact QgQ (by simp) fun _ _=>trivial
    · split
      · trivial
      · exact QgQ (by simp) fun _ _=>trivial
    · split<;>trivial
    · simp only [blks, Option.some.injEq] at h1
      subst h1
      have hb:=h2 _ (List.mem_singleton.2 rfl)
      split
      · refine QcR (by simp [hb]) fun cs => ?_
        split
        · exact⟨by simp[hb],trivial⟩
        · trivial
      · trivial
    · simp[blks]at h1
    · trivial
  · trivial
theorem Qnn {sz:Nat} {x y:AV} {a b:List Nat} (hx:Pts x a) (hy:Pts y b):(aCopy sz x y).tch (· ∈a++b):=by
  obtain⟨cs,h1,h2⟩:=hx
  unfold aCopy
  split
  · simp only [blks, Option.some.injEq] at h1
    subst h1
    have hb:=h2 _ (List.mem_singleton.2 rfl)
    split
    · refine QeX hy (fun c hc => by simp [hc]) fun ys n => ?_
      refine QcR (by simp[hb]) fun cs=>?_
      split
      · exact⟨by simp[hb],trivial⟩
      · trivial
    · trivial
  · exact QeX hy (fun c hc=>by simp[hc]) fun ys n=>trivial
  · exact QeX hy (fun c hc=>by simp[hc]) fun ys n=>trivial
  · trivial
theorem Qfs {α:Type} {b g:Nat} {k:List (AV×AV)->HM α} (hb:B b) (hk:∀es,(k es).tch B):(HM.entries b g k).tch B:=by
 refine⟨hb,fun x=>?_⟩
 match x with
 |some (.map g' es)=>
  simp only
  cases Nat.beq g' g<;>first|exact trivial|exact hk es
 |some (.cells _ _)=>trivial
 |some (.dead _)=>trivial
 |some (.loop ..)=>trivial
 |none=>trivial
theorem Qlp {row ok:Bool} {ks:List LK} {z x k:AV} {bs:List Nat} (h:Pts x bs):(aLookup row ks z ok x k).tch (· ∈bs):=by
 obtain⟨cs,h1,h2⟩:=h
 unfold aLookup
 split
 ·split
  ·trivial
  ·simp only [blks, Option.some.injEq] at h1
   subst h1
   refine Qfs (h2 _ (by simp)) fun es=>?_
   split<;>trivial
  ·split<;>trivial
  ·trivial
 ·trivial
theorem Qno {row:Bool} {ks:List LK} {x k v:AV} {bs:List Nat} (h:Pts x bs):(aMapUpd row ks x k v).tch (· ∈bs):=by
 obtain⟨cs,h1,h2⟩:=h
 unfold aMapUpd
 split
 ·split
  ·simp only [blks, Option.some.injEq] at h1
   subst h1
   have hb:=h2 _ (List.mem_singleton.2 rfl)
   refine Qfs hb fun es=>?_
   split
   ·exact⟨hb,trivial⟩
   ·exact⟨hb,trivial⟩
   ·trivial
  ·trivial
 ·trivial
theorem Qbh {m:HM AV} (h:m.tch B):(hval m).tch B:=HM.Qnl h fun _=>trivial
theorem Qnp {s:SOp} {ts:List Nat} (hax:∀x bs,ax x=some bs->Pts (ev T x) bs) (h:s.touch i ax=some ts):s.cls≠0->(aop i T s).tch (· ∈ts)/\∀m x asg,s≠ .call m x asg:=by
 intro h0
 have new1:∀{x:Nat->Blk} {r:Nat->Nat->AV},(HM.new .dyn i x fun b g=> .ret (r b g)).tch (· ∈[i]):=fun{x r}=>QgQ (by simp) fun _ _=>trivial
 cases s<;>try (exact absurd rfl h0)
 ·rename_i s z
  cases s<;>simp only[SOp.touch,SOp.cls,show Nat.beq 2 0=false from rfl,cond_false,reduceCtorEq,Option.some.injEq]at h
  subst h
  refine⟨Qbh ?_,fun _ _ _=>by simp⟩
  unfold aBox;split
  ·exact new1
  ·trivial
 ·simp only[SOp.touch,SOp.cls,show Nat.beq 2 0=false from rfl,cond_false,reduceCtorEq]at h
 ·rename_i s z
  cases s<;>simp only[SOp.touch,SOp.cls,show Nat.beq 2 0=false from rfl,cond_false,reduceCtorEq,Option.some.injEq]at h
  subst h
  refine⟨Qbh ?_,fun _ _ _=>by simp⟩
  unfold aBox;split
  ·exact new1
  ·trivial
 ·rename_i fz s sz len z ps
  cases s<;>simp only[SOp.touch,SOp.cls,show Nat.beq 2 0=false from rfl,cond_false,reduceCtorEq,Option.some.injEq]at h
  subst h
  refine⟨Qbh ?_,fun _ _ _=>by simp⟩
  unfold aBuildSlice
  split
  ·split
   ·split
    ·split<;>trivial
    ·exact new1
   ·trivial
  ·trivial
 ·exact⟨Qbh (Qnm (hax _ _ h)),fun _ _ _=>by simp⟩
 ·exact⟨Qbh (Qmh (hax _ _ h)),fun _ _ _=>by simp⟩
 ·simp only[SOp.touch,SOp.cls,show Nat.beq 1 0=false from rfl,cond_false,reduceCtorEq]at h
 ·simp only[SOp.touch,SOp.cls,show Nat.beq 2 0=false from rfl,cond_false,reduceCtorEq]at h
 ·simp only[SOp.touch,SOp.cls,show Nat.beq 2 0=false from rfl,cond_false,reduceCtorEq]at h
 ·simp only[SOp.touch,SOp.cls,show Nat.beq 2 0=false from rfl,cond_false,reduceCtorEq]at h
 ·simp only[SOp.touch,SOp.cls,show Nat.beq 2 0=false from rfl,cond_false,reduceCtorEq]at h
 ·simp only[SOp.touch,SOp.cls,show Nat.beq 2 0=false from rfl,cond_false,reduceCtorEq]at h
 ·simp only[SOp.touch,SOp.cls,show Nat.beq 2 0=false from rfl,cond_false,reduceCtorEq]at h
 ·simp only[SOp.touch,SOp.cls,show Nat.beq 1 0=false from rfl,cond_false,reduceCtorEq]at h
 ·rename_i s
  cases s<;>simp only[SOp.touch,SOp.cls,show Nat.beq 2 0=false from rfl,cond_false,reduceCtorEq,Option.some.injEq]at h
  subst h
  exact⟨Qbh new1,fun _ _ _=>by simp⟩
 ·rename_i s sz b z l c
  cases s<;>simp only[SOp.touch,SOp.cls,show Nat.beq 2 0=false from rfl,cond_false,reduceCtorEq,Option.some.injEq]at h
  subst h
  refine⟨Qbh ?_,fun _ _ _=>by simp⟩
  unfold aMakeSlice
  split
  ·split
   ·exact new1
   ·trivial
  ·trivial
 ·exact⟨Qbh (Qlp (hax _ _ h)),fun _ _ _=>by simp⟩
 ·exact⟨Qbh (Qno (hax _ _ h)),fun _ _ _=>by simp⟩
 ·exact⟨Qbh (Qn6 (hax _ _ h)),fun _ _ _=>by simp⟩
 ·rename_i s sz b x y
  cases s<;>simp only[SOp.touch,SOp.cls,show Nat.beq 2 0=false from rfl,cond_false,reduceCtorEq]at h
  split at h
  ·rename_i a b ha hb
   cases h
   exact⟨Qbh (Qlo (hax _ _ ha) (hax _ _ hb)),fun _ _ _=>by simp⟩
  ·cases h
 ·rename_i sz x y
  simp only[SOp.touch]at h
  split at h
  ·rename_i a b ha hb
   cases h
   exact⟨Qbh (Qnn (hax _ _ ha) (hax _ _ hb)),fun _ _ _=>by simp⟩
  ·cases h
 ·rename_i m x asg
  exfalso
  simp only[SOp.touch]at h
  have:Nat.beq (SOp.call m x asg).cls 0=false:=by cases m<;>rfl
  simp_all
theorem Qft {s : SOper} {h h1 : Heap} {v : AV} {f : FP} {ts : List Nat} (hax : ∀ x bs, ax x = some bs -> Pts (ev T x) bs) (ht : s.op.touch i ax = some ts) (hs : StepV P i s T h v h1 f) :
    f.all=false/\∀b,b∈f.R\/b∈f.W->b∈ts:=by
  by_cases h0:s.op.cls=0
  · obtain ⟨k1, k2, k3⟩ := hs.cls (by omega)
    simp_all
  obtain⟨t1,t2⟩:=Qnp hax ht h0
  have key:∀{s':SOp},s'=s.op->StepX P i s' T h v h1 f->f.all=false/\∀b,b∈f.R\/b∈f.W->b∈ts:=by
    rintro s' rfl ⟨out,h2,hm,ho⟩
    have fin:f=fpOf ((aop i T s.op).fp h)->f.all=false/\∀b,b∈f.R\/b∈f.W->b∈ts:=by
      rintro rfl;exact⟨rfl,fun b hb=>HM.QoT _ t1 h b hb⟩
    match out,ho with
    | .val u,ho=>exact fin ho.2.2
    | .call .pure f' args,ho=>exact fin ho.2.2
    | .call .borrow f' args,ho=>exact fin ho.2.2.2
    | .call .heap f' args, ho =>
      exfalso
      cases hso:s.op with
      |call m x asg=>exact t2 m x asg hso
      | _ =>
        rw[hso]at hm
        first
          |(obtain⟨u,hu,he⟩:=Qaz hm;cases he)
          |(obtain⟨u,h3,hu,he⟩:=Qay hm;cases he)
          |(simp[aop,HM.run]at hm)
    | .round b' g' args, ho =>
      exfalso
      cases hso:s.op with
      |call m x asg=>exact t2 m x asg hso
      | _ =>
        rw[hso]at hm
        first
          |(obtain⟨u,hu,he⟩:=Qaz hm;cases he)
          |(obtain⟨u,h3,hu,he⟩:=Qay hm;cases he)
          |(simp[aop,HM.run]at hm)
  unfold StepV at hs
  grind
theorem Pts.slice {n:Option Nat} {x v:AV} {l h m:Option AV} {bs:List Nat} (hx:Pts x bs) (hv:aSliceC n x l h m=some v):Pts v bs:=by
 obtain⟨cs,h1,h2⟩:=hx
 have key : aSlice x l h m = some v -> Pts v bs := by
  intro hv
  unfold aSlice at hv
  have nil:∀{v:AV},blks v=some []->Pts v bs:=fun h=>⟨[],h,fun b hb=>by cases hb⟩
  split at hv
  ·cases hv
  ·split at hv
   ·split at hv
    ·split at hv
     ·split at hv<;>first|(cases hv;exact nil rfl)|cases hv
     ·split at hv<;>first|(split at hv<;>first|(cases hv;first|exact⟨cs,h1,h2⟩|exact nil rfl)|cases hv)|cases hv
    ·cases hv
   ·cases hv
   ·split at hv
    ·split at hv
     ·cases hv
     ·split at hv
      ·cases hv;exact⟨cs,h1,h2⟩
      ·cases hv
    ·split at hv
     ·cases hv
     ·split at hv
      ·cases hv;exact nil rfl
      ·cases hv
    ·split at hv
     ·cases hv
     ·split at hv
      ·cases hv;exact nil rfl
      ·cases hv
    ·split at hv
     ·cases hv
     ·split at hv
      ·cases hv;exact nil rfl
      ·cases hv
    ·split at hv
     ·cases hv
     ·split at hv
      ·cases hv;exact nil rfl
      ·cases hv
    ·cases hv
 unfold aSliceC at hv
 grind
theorem Pts.iaddr {a:Option Nat} {sz:Nat} {x j v:AV} {bs:List Nat} (hx:Pts x bs) (hv:aIAddr a sz x j=some v):Pts v bs:=by
 obtain⟨cs,h1,h2⟩:=hx
 have nil:∀{v:AV},blks v=some []->Pts v bs:=fun h=>⟨[],h,fun b hb=>by cases hb⟩
 unfold aIAddr at hv
 split at hv
 ·split at hv<;>first|(split at hv<;>first|(cases hv;first|exact⟨cs,h1,h2⟩|exact nil rfl)|cases hv)|cases hv
 ·cases hv
theorem Pts.faddr {off:Nat} {x v:AV} {bs:List Nat} (hx:Pts x bs) (hv:aFAddr off x=some v):Pts v bs:=by
 obtain⟨cs,h1,h2⟩:=hx
 have nil:∀{v:AV},blks v=some []->Pts v bs:=fun h=>⟨[],h,fun b hb=>by cases hb⟩
 unfold aFAddr at hv
 split at hv
 ·cases hv;exact⟨cs,h1,h2⟩
 ·cases hv;exact nil rfl
 ·simp[blks]at h1
 ·cases hv
def HM.gives {α:Type} (R:α->Prop):HM α->Prop
 | .ret a=>R a
 | .fail=>True
 | .look _ k=>∀x,(k x).gives R
 | .put _ _ k=>k.gives R
theorem HM.Qmi {α:Type} {R:α->Prop} (m:HM α):m.gives R->∀h a h1,m.run h=some (a,h1)->R a:=by
 induction m with
 |ret a=>intro hr h b h1 hm;simp only[HM.run,Option.some.injEq,Prod.mk.injEq]at hm;rw[<-hm.1];exact hr
 |fail=>intro _ h b h1 hm;simp[HM.run]at hm
 |look b k ih=>intro hr h a h1 hm;exact ih _ (hr _) h a h1 hm
 |put b x k ih=>intro hr h a h1 hm;exact ih hr _ a h1 (QaE hm).2
theorem Qfu {α:Type} {R:α->Prop} {b g:Nat} {k:List AV->HM α} (hk:∀cs,(k cs).gives R):(HM.cells b g k).gives R:=by
 intro x
 match x with
 |some (.cells g' cs)=>
  simp only
  cases Nat.beq g' g<;>first|exact trivial|exact hk cs
 |some (.map _ _)=>trivial
 |some (.dead _)=>trivial
 |some (.loop ..)=>trivial
 |none=>trivial
theorem QbU {α:Type} {R:α->Prop} {i:Nat} {x:Nat->Blk} {k:Nat->Nat->HM α} (hk:(k i 0).gives R):(HM.new .dyn i x k).gives R:=by
 intro y
 match y with
 |none=>exact hk
 |some z=>trivial
theorem Qmj {R:AV->Prop} {sz:Nat} {v:AV} {k:List AV->Nat->HM AV} (hk:∀ys n,(k ys n).gives R):(aSrc sz v k).gives R:=by
 unfold aSrc
 split
 ·split
  ·refine Qfu fun cs => ?_
   split
   ·exact hk _ _
   ·trivial
  ·trivial
 ·split
  ·exact hk _ _
  ·trivial
 ·exact hk _ _
 ·exact hk _ _
 ·exact hk _ _
 ·split
  ·exact hk _ _
  ·trivial
 ·trivial
theorem Qi6 {sz bytes:Nat} {x y:AV} {a:List Nat} (hx:Pts x a):(aAppend .dyn i sz bytes x y).gives fun v=>Pts v (i::a):=by
 have nil:∀{v:AV},blks v=some []->Pts v (i::a):=fun h=>⟨[],h,fun b hb=>by cases hb⟩
 unfold aAppend
 refine Qmj fun ys n=>?_
 split
 ·obtain ⟨cs, h1, h2⟩ := hx
  split
  ·split
   ·exact nil rfl
   ·exact QbU ⟨_,rfl,fun b hb=>by simp_all⟩
  ·split
   ·exact nil rfl
   ·exact QbU ⟨_,rfl,fun b hb=>by simp_all⟩
  ·split
   ·exact nil rfl
   ·trivial
  ·simp only [blks, Option.some.injEq] at h1
   subst h1
   split
   ·refine Qfu fun cs => ?_
    split
    ·exact⟨_,rfl,fun b hb=>List.mem_cons_of_mem _ (h2 b hb)⟩
    ·trivial
   ·trivial
  ·simp[blks]at h1
  ·trivial
 ·trivial
theorem Qgt {s:SOper} {h h1:Heap} {v:AV} {f:FP} {bs:List Nat} (hax:∀x bs,ax x=some bs->Pts (ev T x) bs) (ht:s.op.absV i ax=some bs) (hs:StepV P i s T h v h1 f):Pts v bs:=by
 have self:∀{v:AV},blks v=some [i]->Pts v [i]:=fun h=>⟨_,h,fun b hb=>hb⟩
 have key:∀{s':SOp},s'.absV i ax=some bs->StepX P i s' T h v h1 f->Pts v bs:=by
  rintro s' ht ⟨out,h2,hm,ho⟩
  have hv:∀{m:HM AV},aop i T s'=hval m->(m.gives fun v=>Pts v bs)->Pts v bs:=by
   grind [Qay,HM.Qmi]
  have hl:∀{o:Option AV},aop i T s'=lift o->(∀u,o=some u->Pts u bs)->Pts v bs:=by
   grind [Qaz]
  cases s'<;>try (simp only[SOp.absV,reduceCtorEq]at ht;done)
  ·simp only [aop, HM.run, Option.some.injEq, Prod.mk.injEq] at hm
   obtain⟨rfl,rfl⟩:=hm
   rw[ho.1];exact hax _ _ ht
  ·rename_i s z
   cases s<;>simp only[SOp.absV,reduceCtorEq,Option.some.injEq]at ht
   subst ht
   refine hv rfl ?_
   unfold aBox;split
   ·exact QbU (self rfl)
   ·trivial
  ·rename_i s z
   cases s<;>simp only[SOp.absV,reduceCtorEq,Option.some.injEq]at ht
   subst ht
   refine hv rfl ?_
   unfold aBox;split
   ·exact QbU (self rfl)
   ·trivial
  ·rename_i fz s sz len z ps
   cases fz<;>cases s<;>simp only[SOp.absV,reduceCtorEq,Option.some.injEq]at ht
   subst ht
   refine hv rfl ?_
   unfold aBuildSlice
   split
   ·split
    ·rw[if_neg (by simp)];exact QbU (self rfl)
    ·trivial
   ·trivial
  ·rename_i s
   cases s<;>simp only[SOp.absV,reduceCtorEq,Option.some.injEq]at ht
   subst ht
   exact hv rfl (QbU (self rfl))
  ·rename_i s sz b z l c
   cases s<;>simp only[SOp.absV,reduceCtorEq,Option.some.injEq]at ht
   subst ht
   refine hv rfl ?_
   unfold aMakeSlice
   split
   ·split
    ·exact QbU (self rfl)
    ·trivial
   ·trivial
  ·exact hl rfl fun u hu=>(hax _ _ ht).slice hu
  ·exact hl rfl fun u hu=>(hax _ _ ht).faddr hu
  ·exact hl rfl fun u hu=>(hax _ _ ht).iaddr hu
  ·rename_i s sz b x y
   cases s<;>simp only[SOp.absV,reduceCtorEq,Option.map_eq_some_iff]at ht
   obtain⟨a,ha,rfl⟩:=ht
   exact hv rfl (Qi6 (hax _ _ ha))
 unfold StepV at hs
 split at hs
 ·exact key ht hs
 ·obtain ⟨t, _, hs⟩ := hs
  split at hs
  ·exact key ht hs
  ·obtain⟨rfl,_⟩:=hs;exact⟨[],rfl,fun b hb=>by cases hb⟩
end
def AbsOK (T0:Tmps) (A:Abs) (T:Tmps):Prop:=∀j bs,absT T0 A j=some bs->Pts (lk T j) bs
theorem AbsOK.opd {T0 T:Tmps} {A:Abs} (h:AbsOK T0 A T):∀x bs,absO T0 A x=some bs->Pts (ev T x) bs:=by
 intro x bs hx
 cases x with
 |t i=>exact h i bs hx
 |c v=>exact⟨bs,hx,fun b hb=>hb⟩
 |f n=>cases hx
 |g n=>cases hx
theorem AbsOK.nil {T:Tmps}:AbsOK T [] T:=fun j bs h=>⟨bs,h,fun b hb=>hb⟩
theorem AbsOK.up {T0 T:Tmps} {A:Abs} {d:Nat} {v:AV} {a:Option (List Nat)} (h:AbsOK T0 A T) (hv:∀bs,a=some bs->Pts v bs):AbsOK T0 ((d,a)::A) (up T d v):=by
 intro j bs hj
 rw[lk_up]
 simp only[absT]at hj
 by_cases e:d=j
 ·simp_all
 ·have : Nat.beq d j = false := by simp_all [Bool.eq_false_iff]
  rw[this]at hj
  rw[if_neg (fun h=>e h.symm)]
  exact h j bs hj
theorem QkE {T0:Tmps}:∀{r:List SOper} {n:Nat} {A:Abs} {T:Tmps} {h:Heap} {K:Tmps->Heap->Nat->Prop} (hA:AbsOK T0 A T) (K':List FP->Tmps->Heap->Nat->Prop),
  (∀fs T h n',fs.length=r.length->(∀(j:Nat) ts,(touches n T0 r A).getD j none=some ts->(fs.getD j ⟨false,[],[]⟩).all=false/\∀b,b∈(fs.getD j ⟨false,[],[]⟩).R\/b∈(fs.getD j ⟨false,[],[]⟩).W->b∈ts)->K T h n'->K' fs T h n')->
  wpR P n r T h K->wpRF P n r T h K'
 |[],n,A,T,h,K,hA,K',hK,hw=>hK [] T h n rfl (fun j ts hj=>by simp_all) hw
 | s :: r, n, A, T, h, K, hA, K', hK, hw => by
  obtain⟨v,h1,f,hs,hr⟩:=hw
  refine⟨v,h1,f,hs,?_⟩
  have hA2:AbsOK T0 (match s.dst with|some d=>(d,s.op.absV n (absO T0 A))::A|none=>A) (putD T s.dst v):=by
   cases s.dst with
   |none=>exact hA
   |some d=>exact AbsOK.up hA fun bs hb=>Qgt hA.opd hb hs
  refine QkE hA2 (fun fs T h n=>K' (f::fs) T h n) (fun fs T h n' hl hf hk=>?_) hr
  refine hK (f::fs) T h n' (by simp[hl]) (fun j ts hj=>?_) hk
  cases j with
  |zero=>
   simp only[touches,List.getD_cons_zero]at hj⊢
   exact Qft hA.opd hj hs
  |succ j=>
   simp only[touches,List.getD_cons_succ]at hj⊢
   exact hf j ts hj
inductive PairsOK (n:Nat) (T:Tmps) (ops:List SOper) (ps:List (Nat×Nat)):Prop
 |mk (h:pairsOK (touches n T ops []) ps=true)
theorem Qgu {N:NM} {ops:List SOper} {p:Nat×Nat} {ps:List (Nat×Nat)} {dead:List Nat} {fs:List Fr} {n:Nat} {T:Tmps} {h:Heap} {Q:QC} (hp:PairsOK n T ops (p::ps)):
  wS P N (.region ops (p::ps) dead) fs n T h Q=wR P N ops dead fs n T h Q:=by
 obtain⟨hp⟩:=hp
 apply propext;constructor
 ·intro hw
  have:∀{r:List SOper} {n:Nat} {T:Tmps} {h:Heap} {K:List FP->Tmps->Heap->Nat->Prop} {K':Tmps->Heap->Nat->Prop},(∀fs T h n,K fs T h n->K' T h n)->wpRF P n r T h K->wpR P n r T h K':=by
   intro r
   induction r with
   |nil=>intro n T h K K' hK hw;exact hK _ _ _ _ hw
   |cons s r ih=>
    rintro n T h K K' hK ⟨v,h1,f,hs,hr⟩
    exact⟨v,h1,f,hs,ih (fun fs T h n hk=>hK _ _ _ _ hk) hr⟩
  exact this (fun fs' T h n hk=>hk.2) hw
 ·intro hw
  refine QkE AbsOK.nil _ (fun fs' T h n' hl hf hk=>⟨?_,hk⟩) hw
  rw[List.all_eq_true]
  intro q hq
  have:=List.all_eq_true.1 hp q hq
  split at this
  ·rename_i a b ha hb
   obtain⟨f1,f2⟩:=hf _ _ ha
   obtain⟨g1,g2⟩:=hf _ _ hb
   have hd:∀x y,x∈a->y∈b->x≠y:=by
    grind
   have dj:∀xs ys:List Nat,(∀x∈xs,∀y∈ys,x≠y)->disj xs ys=true:=by
    intro xs ys hh
    unfold disj
    grind
   grind [FP.apart]
  ·cases this
theorem FrzL.nil {h:Heap}:FrzL h [] []:=trivial
theorem FrzL.cons {h:Heap} {x y:AV} {xs ys:List AV} (h1:FrzTo h x y) (h2:FrzL h xs ys):FrzL h (x::xs) (y::ys):=⟨h1,h2⟩
end Go.AM
namespace Go.AM
variable {P:Program}
def setL:HL->Heap->Heap
 |[],h=>h
 |(k,x)::r,h=>(setL r h).set k x
theorem Qi7 {h:Heap}:setL [] h=h:=rfl
theorem QhL {k:Nat} {x:Blk} {r:HL} {h:Heap}:setL ((k,x)::r) h=(setL r h).set k x:=rfl
theorem Qi8 {b:Nat} {h:Heap} (hf:Fresh b h):∀{L:HL},(L.all fun p=>Nat.ble b p.1&&Nat.blt p.1 1099511627775)=true->∀k,(setL L h).get k=if k<b then h.get k else(hp L).get k
 |[],_,k=>by
  simp only[setL,hp]
  split
  ·rfl
  ·rw[hf k (by omega),get_e]
 |(j,x)::r,hL,k=>by
  simp only[List.all_cons,Bool.and_eq_true,Nat.ble_eq,Nat.blt_eq]at hL
  obtain⟨⟨h1,h2⟩,h3⟩:=hL
  have ih:=Qi8 hf (L:=r) (by simpa using h3) k
  simp only[setL,hp]
  by_cases e:k=j
  ·simp_all [QaR,if_neg]
  simp_all [Qa1]
theorem HSpec.of_O {f b:Nat} {args:List AV} {v:AV} {h:Heap} {L:HL} (hn:noRefs args=true) (hs:HSpec P f args .e v (hp L)) (hf:Fresh b h) (hL:(L.all fun p=>Nat.ble b p.1&&Nat.blt p.1 1099511627775)=true):HSpec P f args h v (setL L h):=by
 obtain⟨hc,hs⟩:=hs
 refine⟨hc,fun c w cargs H ha=>?_⟩
 refine(hs (only c.F) w cargs (HRel.only H.inF) (VRels.noRef (c:=c) (c':=only c.F) (fun _ h=>h) _ _ hn ha)).mono ?_
 rintro e w' ⟨cv,c',rfl,E,H',V⟩
 have hnewO:∀k,c'.O k->w.heap.size<=k:=fun k hO=>(E.own k hO).elim (fun h=>h.elim) id
 have hnewF:∀k,c'.F k->c.F k\/w.heap.size<=k:=fun k hF=>(E.frzNew k hF).elim .inl fun h=>h.elim (fun h=>h.elim) .inr
 have hkeep:∀k,k<w.heap.size->w'.heap[k]?=w.heap[k]?:=fun k hk=>E.keep k hk (fun h=>h)
 have hg:=Qi8 hf hL
 have hlow:∀k,(hp L).get k≠none->b<=k:=fun k hk=>by
  rcases Nat.lt_or_ge k b with h1|h1
  ·exfalso
   apply hk
   have:∀{M:HL},(M.all fun p=>Nat.ble b p.1&&Nat.blt p.1 1099511627775)=true->(hp M).get k=none:=by
    intro M
    induction M with
    |nil=>intro _;exact get_e
    |cons q M ih=>
     obtain⟨j,x⟩:=q
     intro hM
     simp only[List.all_cons,Bool.and_eq_true,Nat.ble_eq,Nat.blt_eq]at hM
     rw[Qcd,Qa1 hM.1.2 (by omega)];exact ih (by grind)
   exact this hL
  ·exact h1
 have hrlow:∀k g,k<b->c'.ρ k g=none:=fun k g hk=>by
  have:(hp L).get k=none:=by
   grind
  exact H'.fresh k this g
 have hrhigh:∀k g,b<=k->c.ρ k g=none:=fun k g hk=>H.fresh k (hf k hk) g
 let c2:Ctx (okc P):={ρ:=fun k g=>if k<b then c.ρ k g else c'.ρ k g,F:=c'.F,O:=fun k=>c.O k\/c'.O k,base:=c.base}
 have hr1:∀k g,k<b->c2.ρ k g=c.ρ k g:=fun k g hk=>if_pos hk
 have hr2:∀k g,b<=k->c2.ρ k g=c'.ρ k g:=fun k g hk=>if_neg (by omega)
 have hx1:∀k g p,c.ρ k g=some p->c2.ρ k g=some p:=fun k g p hp=>by
  grind
 have hx2:∀k g p,c'.ρ k g=some p->c2.ρ k g=some p:=fun k g p hp=>by
  grind
 have E2:Evo c w c2 w':=⟨E.os,E.tape,E.output,E.size,E.shape,fun k hk _=>hkeep k hk,hx1,fun k hk=>E.frz k hk,fun k hk=>(hnewF k hk).elim .inl fun h=> .inr (.inr h),fun k hk=>hk.elim .inl fun h=> .inr (hnewO k h),rfl⟩
 have X2:Ext c' w' c2 w':=⟨hx2,fun _ h=>h,fun k _ _ h=>h,fun k C e fr h=>⟨C,fr,h,rfl⟩⟩
 refine⟨cv,c2,rfl,E2,?_,VRel.mono X2 _ _ V⟩
 refine⟨fun k hk g=>?_,fun k x hk g hlt=>?_,fun k x hk=>?_,?_,fun k hF hO=>?_,fun k hF=>H'.inF k hF,fun k hO=>hO.elim (fun h=>Nat.lt_of_lt_of_le (H.inO k h) E.size) (H'.inO k)⟩
 ·rw [hg k] at hk
  split at hk
  ·rename_i h1;rw[hr1 k g h1];exact H.fresh k hk g
  ·rename_i h1;rw[hr2 k g (by omega)];exact H'.fresh k hk g
 ·rw [hg k] at hk
  split at hk
  ·rename_i h1;rw[hr1 k g h1];exact H.later k x hk g hlt
  ·rename_i h1;rw[hr2 k g (by omega)];exact H'.later k x hk g hlt
 ·rw [hg k] at hk
  split at hk
  ·refine BRel.mono (E2.ext H.disj) (fun cb base hd hp => ?_) (H.blk k x hk)
   have hO:=H.owned ⟨x,hk,rfl,hd⟩ hp
   exact⟨.inl hO,hkeep cb (H.inO _ hO)⟩
  ·refine BRel.mono X2 (fun cb base hd hp => ?_) (H'.blk k x hk)
   have hO:=H'.owned ⟨x,hk,rfl,hd⟩ hp
   grind
 ·intro b1 g1 b2 g2 cb base1 base2 l1 l2 p1 p2
  have key:∀k g base,Live (setL L h) k g->c2.ρ k g=some (.loc cb base)->(k<b/\Live h k g/\c.ρ k g=some (.loc cb base)/\cb<w.heap.size)\/(b<=k/\Live (hp L) k g/\c'.ρ k g=some (.loc cb base)/\w.heap.size<=cb):=by
   rintro k g base ⟨x,hk,rfl,hd⟩ hp
   rw[hg k]at hk
   split at hk
   ·rename_i h1
    rw[hr1 k _ h1]at hp
    exact .inl ⟨h1,⟨x,hk,rfl,hd⟩,hp,H.inO _ (H.owned ⟨x,hk,rfl,hd⟩ hp)⟩
   ·rename_i h1
    rw[hr2 k _ (by omega)]at hp
    exact .inr ⟨by omega,⟨x,hk,rfl,hd⟩,hp,hnewO _ (H'.owned ⟨x,hk,rfl,hd⟩ hp)⟩
  rcases key b1 g1 base1 l1 p1 with⟨k1,k2,k3,k4⟩|⟨k1,k2,k3,k4⟩<;>rcases key b2 g2 base2 l2 p2 with⟨j1,j2,j3,j4⟩|⟨j1,j2,j3,j4⟩
  ·exact H.inj _ _ _ _ _ _ _ k2 j2 k3 j3
  ·omega
  ·omega
  ·exact H'.inj _ _ _ _ _ _ _ k2 j2 k3 j3
 ·rcases hO with hO | hO
  ·rcases hnewF k hF with h1 | h1
   ·exact H.disj k h1 hO
   ·have:=H.inO k hO;omega
  ·exact H'.disj k hF hO
theorem HSpec.QdT {f:Nat} {sf:SFn} {args:List AV} {v:AV} {L:HL} (n:Nat) (hok:okFn P f sf=true) (hl:Nat.ble args.length sf.n=true)
  (hw:wS P ⟨sf.n,0⟩ sf.body [] n (argT 0 args) .e fun e T k _=>(e= .normal\/e= .ret)/\∃vs,resV T k sf.res=some vs/\Rec 0 [(0,v)] L [(0,resOf vs)] k):HSpec P f args .e v (hp L):=by
 refine HSpec.of_W2 (m:=0) hok (Nat.le_of_ble_eq_true hl) (fun b _=>get_e) ((wpC.toW hw).mono ?_)
 rintro e B ⟨n',h1,vs,h2,ps,ho,hro,hb,ht⟩
 exact⟨h1,vs,_,h2,Rec.maps ho hb,Rec.heap ho hb,Rec.dom ho hro,ht 0⟩
end Go.AM
namespace Go.AM
theorem wV:type_of% @words/\type_of% @wordsN/\type_of% @wordsR/\type_of% @Qgu/\type_of% @Qfo/\type_of% @QdJ/\type_of% @Qfp/\type_of% @Qfq/\type_of% @Qfr/\type_of% @Qgq/\type_of% @Qgr/\type_of% @Qgs/\type_of% @QhL/\type_of% @Qi7/\type_of% @SX.exit.injEq/\type_of% @if_true.{1}/\type_of% @if_false.{1}/\type_of% @ne_eq.{1}:=
 ⟨@words,@wordsN,@wordsR,@Qgu,@Qfo,@QdJ,@Qfp,@Qfq,@Qfr,@Qgq,@Qgr,@Qgs,@QhL,@Qi7,@SX.exit.injEq,@if_true,@if_false,@ne_eq⟩
theorem gg {p:Prop} (h:p:=by first|(simp(disch:=omega) only[QaR,Qa1,Qcd];done)|(simp(disch:=omega) only[QaR,Qa1,Qcd];rfl)):p:=h
end Go.AM
namespace Go.AM
theorem Qi9 {b:Bool}:(AV.bool b).cells=[.bool b]:=rfl
theorem Qmk {b:Bool}:(AV.bool b).one=true:=rfl
theorem Qml {b:Bool}:(AV.bool b).boxable=true:=rfl
theorem Qja {b g o:Nat}:aNil (.ptr b g o)=some (.ptr b g o):=rfl
theorem QhM {cs:List AV}:aNil (.fptr cs)=some (.fptr cs):=rfl
end Go.AM
namespace Go.AM.SD
open Go.AM
def ints (l:List Int):List AV:=l.map (.int .i64)
abbrev sli (l:List Int):AV:= .fsl (ints l) l.length 1
theorem Qaa (l:List Int):noRefs (ints l)=true:=by
 induction l with
 |nil=>rfl
 |cons x l ih=>simp only[ints,List.map_cons,noRefs,noRef,Bool.true_and];exact ih
theorem Qed {l:List Int}:(ints l).length=l.length:=by simp[ints]
theorem lenW:type_of% @List.length_map.{0,0}/\type_of% @List.length_append.{0}/\type_of% @List.length_cons.{0}/\type_of% @List.length_nil.{0}/\type_of% @Qed:=⟨@List.length_map.{0,0},@List.length_append.{0},@List.length_cons.{0},@List.length_nil.{0},@Qed⟩
theorem Qae {l:List Int} {i:Nat} {x:Int} (h:l[i]?=some x):((ints l).drop i).head?=some (.int .i64 x):=by
 rw[List.head?_drop];simp[ints,h]
abbrev nz (l:List Nat):List Int:=l.map fun x:Nat=>(x:Int)
theorem nz_at {l:List Nat} {i x:Nat} (h:l[i]?=some x):(nz l)[i]?=some (x:Int):=by simp[nz,h]
theorem Qad {α:Type} {l:List α} {i:Nat} (h:i<l.length):∃x,l[i]?=some x:=⟨l[i],List.getElem?_eq_getElem h⟩
theorem Qaf {a b:List AV}:noRefs (a++b)=(noRefs a&&noRefs b):=by
 induction a with
 |nil=>simp[noRefs]
 |cons x a ih=>simp only[List.cons_append,noRefs,ih,Bool.and_assoc]
theorem QaJ {α:Type} {f:α->List AV} (h:∀x,noRefs (f x)=true) (l:List α):noRefs (l.flatMap f)=true:=by
 induction l with
 |nil=>rfl
 |cons x l ih=>rw[List.flatMap_cons,Qaf,h,ih];rfl
theorem Qbn {α:Type} {f:α->List AV} {k:Nat} (h:∀x,(f x).length=k) (l:List α):(l.flatMap f).length=l.length*k:=by
 induction l with
 |nil=>simp
 |cons x l ih=>rw[List.flatMap_cons,List.length_append,h,ih,List.length_cons,Nat.succ_mul];omega
theorem Qa3 {α:Type} {f:α->List AV} {k:Nat} (h:∀x,(f x).length=k):∀{l:List α} {i:Nat} {x:α},l[i]?=some x->(l.flatMap f).drop (i*k)=f x++(l.drop (i+1)).flatMap f
 |[],_,_,hx=>by simp at hx
 |y::l,0,x,hx=>by
  simp at hx;subst hx;simp
 |y::l,i+1,x,hx=>by
  simp at hx
  rw[List.flatMap_cons,List.drop_append,h,List.drop_of_length_le (by rw[h,Nat.succ_mul];omega),List.nil_append]
  have:(i+1)*k-k=i*k:=by rw[Nat.succ_mul];omega
  rw[this,Qa3 h hx,List.drop_succ_cons]
structure Eg where
 fr:Int
 ev:Int
 to:Int
deriving DecidableEq
def egC (e:Eg):List AV:=[.int .i64 e.fr,.int .i64 e.ev,.int .i64 e.to]
abbrev egs (l:List Eg):AV:= .fsl (l.flatMap egC) l.length 3
theorem Qaj (l:List Eg):noRefs (l.flatMap egC)=true:=QaJ (fun x=>rfl) l
theorem Qa9 (l:List Eg):noRef (egs l)=true:=by simp only[noRef];exact Qaj l
theorem QcC {l:List Eg} {i:Nat} {e:Eg} (h:l[i]?=some e):(l.flatMap egC).drop (i*3)= .int .i64 e.fr:: .int .i64 e.ev:: .int .i64 e.to::(l.drop (i+1)).flatMap egC:=Qa3 (f:=egC) (k:=3) (fun _=>rfl) h
theorem Qan (l:List Int):noRef (sli l)=true:=by simp only[noRef];exact Qaa l
structure Au where
 al:List Int
 n:Int
 ms:List Int
 es:List Eg
abbrev auV (a:Au):AV:= .agg [sli a.al,.int .i64 a.n,sli a.ms,egs a.es]
def eg (e:Ed):Eg:=⟨e.1,e.2.1,e.2.2⟩
def au (a:Aut):Au:=⟨nz a.al,a.n,nz a.ms,a.es.map eg⟩
def rmC (r:Rm):List AV:=[.int .i64 r.st,.int .i64 r.rank,.int .i64 r.reason,.int .i64 r.ev]
theorem Qak (l:List Rm):noRefs (l.flatMap rmC)=true:=QaJ (fun x=>rfl) l
end Go.AM.SD
namespace Go.AM.SD
def edC (e:Ed):List AV:=[.int .i64 (e.1:Int),.int .i64 (e.2.1:Int),.int .i64 (e.2.2:Int)]
abbrev egsN (l:List Ed):AV:= .fsl (l.flatMap edC) l.length 3
theorem Qah (l:List Ed):noRefs (l.flatMap edC)=true:=QaJ (fun x=>rfl) l
theorem QaM (l:List Ed):noRef (egsN l)=true:=by simp only[noRef];exact Qah l
theorem QaS {l:List Ed} {i:Nat} {e:Ed} (h:l[i]?=some e):(l.flatMap edC).drop (i*3)= .int .i64 (e.1:Int):: .int .i64 (e.2.1:Int):: .int .i64 (e.2.2:Int)::(l.drop (i+1)).flatMap edC:=Qa3 (f:=edC) (k:=3) (fun _=>rfl) h
theorem Qn7 (l:List Ed):egs (l.map eg)=egsN l:=by
 unfold egs egsN
 rw[List.length_map,List.flatMap_map];rfl
abbrev sliN (l:List Nat):AV:= .fsl (ints (nz l)) l.length 1
theorem Qb3 (l:List Nat):sli (nz l)=sliN l:=by unfold sli sliN;rw[List.length_map]
theorem Qab (l:List Nat):noRef (sliN l)=true:=by simp only[noRef];exact Qaa _
theorem QaN {l:List Nat} {i x:Nat} (h:l[i]?=some x):((ints (nz l)).drop i).head?=some (.int .i64 (x:Int)):=Qae (nz_at h)
abbrev aV (a:Aut):AV:= .agg [sliN a.al,.int .i64 (a.n:Int),sliN a.ms,egsN a.es]
theorem QoU (a:Aut):auV (au a)=aV a:=by
 show AV.agg [sli (nz a.al),.int .i64 (a.n:Int),sli (nz a.ms),egs (a.es.map eg)]=_
 rw[Qb3,Qb3,Qn7]
theorem QcD (a:Aut):noRef (aV a)=true:=by rw[aV,noRef,noRefs,noRefs,noRefs,noRefs,Qab,Qab,QaM];rfl
def bls (l:List Bool):List AV:=l.map .bool
theorem Qai (l:List Bool):noRefs (bls l)=true:=by
 induction l with
 |nil=>rfl
 |cons x l ih=>simp only[bls,List.map_cons,noRefs,noRef,Bool.true_and];exact ih
theorem QkF {l:List Bool}:(bls l).length=l.length:=by simp[bls]
theorem QaD {a b:List Int}:ints (a++b)=ints a++ints b:=by simp[ints]
theorem QaK {a b:List Nat}:nz (a++b)=nz a++nz b:=by simp
theorem QdU {α:Type} {l:List α} {x:α} (h:x∈l):∃j:Nat,l[j]?=some x/\j<l.length:=by
 obtain⟨j,hj⟩:=List.mem_iff_getElem?.1 h
 exact⟨j,hj,(List.getElem?_eq_some_iff.1 hj).1⟩
theorem Qjb {l:List Nat} {x:Nat}:decide ((x:Int)∈nz l)=l.contains x:=by
 have:(x:Int)∈nz l↔x∈l:=⟨fun h=>by
  obtain⟨y,hy,e⟩:=List.mem_map.1 h
  have e:y=x:=by omega
  exact e▸hy,fun h=>List.mem_map.2 ⟨x,h,rfl⟩⟩
 by_cases h:x∈l
 ·rw[decide_eq_true (this.2 h)];simp[h]
 ·rw[decide_eq_false fun h2=>h (this.1 h2)];simp[h]
end Go.AM.SD
namespace Go.AM
theorem Qjc {s:List UInt8}:(AV.str s).cells=[.str s]:=rfl
theorem Qmm {s:List UInt8}:(AV.str s).one=true:=rfl
theorem Qmn {s:List UInt8}:(AV.str s).boxable=true:=rfl
theorem QhN {a b:List UInt8}:aBin .add (.str a) (.str b)=if a.length+b.length<=140737488355328 then some (.str (a++b))else none:=rfl
open SD
theorem wW:type_of% @QeN/\type_of% @wordsM/\type_of% @Qja/\type_of% @QhM/\type_of% @Int.one_mul/\type_of% @QkF/\type_of% @Qed/\type_of% @Qi9/\type_of% @Qmk/\type_of% @Qml/\type_of% @List.length_replicate.{0}/\type_of% @Qjc/\type_of% @Qmm/\type_of% @Qmn/\type_of% @QiK/\type_of% @Ql3/\type_of% @Qdk/\type_of% @QhN:=
 ⟨@QeN,@wordsM,@Qja,@QhM,@Int.one_mul,@QkF,@Qed,@Qi9,@Qmk,@Qml,@List.length_replicate,@Qjc,@Qmm,@Qmn,@QiK,@Ql3,@Qdk,@QhN⟩
end Go.AM
namespace Go.AM
variable {P:Program}
noncomputable section
structure FFn where
 n:Nat
 res:List SRes
 body:FCode
def FFn.slim (f:FFn):SFn:=⟨f.n,f.res,f.body.slim⟩
structure Ans (α:Type) where
 bad:α
 asm:List AV->List AV->α->α
 holds:α->Prop
def ansB:Ans Bool:=⟨false,fun _ _ _=>false,fun b=>b=true⟩
structure Ans.OK {α:Type} (A:Ans α):Prop where
 bad:¬A.holds A.bad
 asm:∀x y p,A.holds (A.asm x y p)->x=y/\A.holds p
theorem QkG:ansB.OK:=⟨fun h=>(by cases h),fun _ _ _ h=>(by cases h)⟩
variable {α:Type}
abbrev ifB (c:Bool) (a b:α):α:=@Bool.rec (fun _=>α) b a c
theorem Qaq (c:Bool) (a b:α):ifB c a b=if c=true then a else b:=by cases c<;>rfl
def fNat (m:Nat) (k:Nat->α):α:=@Nat.rec (fun _=>α) (k 0) (fun n _=>k (Nat.succ n)) m
theorem Qa4 (m:Nat) (k:Nat->α):fNat m k=k m:=by cases m<;>rfl
def fInt (n:Int) (k:Int->α):α:=@Int.rec (fun _=>α) (fun m=>fNat m fun m=>k (.ofNat m)) (fun m=>fNat m fun m=>k (.negSucc m)) n
theorem Qn8 (n:Int) (k:Int->α):fInt n k=k n:=by cases n<;>simp[fInt,Qa4]
def fBool (b:Bool) (k:Bool->α):α:=@Bool.rec (fun _=>α) (k false) (k true) b
theorem Qb6 (b:Bool) (k:Bool->α):fBool b k=k b:=by cases b<;>rfl
def fList {β:Type} (l:List β) (k:List β->α):α:=@List.rec β (fun _=>(List β->α)->α) (fun k=>k []) (fun x _ ih k=>ih fun r=>k (x::r)) l k
theorem Qb7 {β:Type} (l:List β) (k:List β->α):fList l k=k l:=by
 have:∀(l:List β) (k:List β->α),@List.rec β (fun _=>(List β->α)->α) (fun k=>k []) (fun x _ ih k=>ih fun r=>k (x::r)) l k=k l:=by
  intro l
  induction l with
  |nil=>intro k;rfl
  |cons x r ih=>intro k;exact ih _
 exact this l k
def fAV (v:AV) (k:AV->α):α:=
 match v with
 | .int t n=>fInt n fun n=>k (.int t n)
 | .bool b=>fBool b fun b=>k (.bool b)
 | .any=>k .any
 | .str s=>fList s fun s=>k (.str s)
 | .agg cs=>fList cs fun cs=>k (.agg cs)
 | .tup cs=>fList cs fun cs=>k (.tup cs)
 | .nilptr=>k .nilptr
 | .ptr b g o=>fNat o fun o=>k (.ptr b g o)
 | .fptr cs=>fList cs fun cs=>k (.fptr cs)
 | .nilsl=>k .nilsl
 | .sl b g o l s=>fNat o fun o=>fNat l fun l=>k (.sl b g o l s)
 | .fsl cs l s=>fNat l fun l=>fList cs fun cs=>k (.fsl cs l s)
 | .esl=>k .esl
 | .nsl=>k .nsl
 | .nilmap=>k .nilmap
 | .map b g=>k (.map b g)
 | .fmap x y=>fList x fun x=>fList y fun y=>k (.fmap x y)
 | .nilfn=>k .nilfn
 | .fn f x y=>fList x fun x=>fList y fun y=>k (.fn f x y)
 | .yld b g=>k (.yld b g)
 | .nilif=>k .nilif
 | .ifc t v=>k (.ifc t v)
 | .typed t n v=>fNat t fun t=>fNat n fun n=>k (.typed t n v)
theorem Qco (v:AV) (k:AV->α):fAV v k=k v:=by
 unfold fAV
 grind [Qn8,Qb6,Qb7,Qa4]
def fBlk (x:Blk) (k:Blk->α):α:=
 match x with
 | .cells g cs=>fList cs fun cs=>k (.cells g cs)
 |x=>k x
theorem Qn9 (x:Blk) (k:Blk->α):fBlk x k=k x:=by
 unfold fBlk;grind [Qb7]
def lkK (T:Tmps) (i:Nat) (k:AV->α):α:=@List.rec (Nat×AV) (fun _=>α) (k .any) (fun p _ ih=>ifB (Nat.beq p.1 i) (k p.2) ih) T
theorem QdV (T:Tmps) (i:Nat) (k:AV->α):lkK T i k=k (lk T i):=by
 induction T with
 |nil=>rfl
 |cons p T ih=>
  show ifB (Nat.beq p.1 i) (k p.2) (lkK T i k)=_
  rw[ih,Qaq,QaG]
  by_cases h:p.1=i
  ·subst h;simp
  ·simp_all [Bool.eq_false_iff]
def evK (T:Tmps) (x:Opd) (k:AV->α):α:=@Opd.rec (fun _=>α) (fun i=>lkK T i k) (fun v=>k v) (fun n=>k (.fn n [] [])) (fun _=>k .any) x
theorem QaW (T:Tmps) (x:Opd) (k:AV->α):evK T x k=k (ev T x):=by
 cases x
 ·exact QdV _ _ _
 ·rfl
 ·rfl
 ·rfl
def upR (T:Tmps) (i:Nat) (v:AV) (k:Tmps->α):α:=
 @List.rec (Nat×AV) (fun _=>(Tmps->α)->α) (fun k=>k [(i,v)]) (fun p r ih k=>ifB (Nat.beq p.1 i) (k ((i,v)::r)) (ih fun r'=>k (p::r'))) T k
theorem QcS (T:Tmps) (i:Nat) (v:AV) (k:Tmps->α):upR T i v k=k (up T i v):=by
 have:∀(T:Tmps) (k:Tmps->α),@List.rec (Nat×AV) (fun _=>(Tmps->α)->α) (fun k=>k [(i,v)]) (fun p r ih k=>ifB (Nat.beq p.1 i) (k ((i,v)::r)) (ih fun r'=>k (p::r'))) T k=k (up T i v):=by
  intro T
  induction T with
  |nil=>intro k;rfl
  |cons p T ih=>
   intro k
   show ifB (Nat.beq p.1 i) (k ((i,v)::T)) (@List.rec (Nat×AV) (fun _=>(Tmps->α)->α) (fun k=>k [(i,v)]) (fun p r ih k=>ifB (Nat.beq p.1 i) (k ((i,v)::r)) (ih fun r'=>k (p::r'))) T fun r'=>k (p::r'))=_
   rw[ih,Qaq,QgN]
   by_cases h:p.1=i
   ·subst h;simp
   ·simp_all [Bool.eq_false_iff]
 exact this T k
def putS (nw:Bool) (T:Tmps) (dst:Option Nat) (v:AV) (k:Tmps->α):α:=
 @Option.rec Nat (fun _=>α) (k T) (fun d=>ifB nw (k ((d,v)::T)) (upR T d v k)) dst
theorem QhO (nw:Bool) (T:Tmps) (dst:Option Nat) (v:AV) (k:Tmps->α):∃T',putS nw T dst v k=k T'/\∀i,lk T' i=lk (putD T dst v) i:=by
 cases dst with
 |none=>exact⟨T,rfl,fun _=>rfl⟩
 | some d =>
  cases nw with
  |false=>exact⟨up T d v,QcS T d v k,fun _=>rfl⟩
  |true=>
   refine⟨(d,v)::T,rfl,fun i=>?_⟩
   rw[QaG,Qbq]
   by_cases h:d=i
   ·subst h;simp
   ·simp_all
def rmR (m:Nat) (T:Tmps) (k:Tmps->α):α:=
 @List.rec (Nat×AV) (fun _=>(Tmps->α)->α) (fun k=>k []) (fun p r ih k=>ifB (Nat.beq (Nat.land (Nat.shiftRight m p.1) 1) 1) (ih k) (ih fun r'=>k (p::r'))) T k
def rmM (m:Nat):Tmps->Tmps
 |[]=>[]
 |p::r=>if Nat.beq (Nat.land (Nat.shiftRight m p.1) 1) 1=true then rmM m r else p::rmM m r
theorem Qmo (m:Nat) (T:Tmps) (k:Tmps->α):rmR m T k=k (rmM m T):=by
 have:∀(T:Tmps) (k:Tmps->α),@List.rec (Nat×AV) (fun _=>(Tmps->α)->α) (fun k=>k []) (fun p r ih k=>ifB (Nat.beq (Nat.land (Nat.shiftRight m p.1) 1) 1) (ih k) (ih fun r'=>k (p::r'))) T k=k (rmM m T):=by
  intro T
  induction T with
  |nil=>intro k;rfl
  |cons p T ih=>
   intro k
   show ifB (Nat.beq (Nat.land (Nat.shiftRight m p.1) 1) 1) (@List.rec (Nat×AV) (fun _=>(Tmps->α)->α) (fun k=>k []) (fun p r ih k=>ifB (Nat.beq (Nat.land (Nat.shiftRight m p.1) 1) 1) (ih k) (ih fun r'=>k (p::r'))) T k) (@List.rec (Nat×AV) (fun _=>(Tmps->α)->α) (fun k=>k []) (fun p r ih k=>ifB (Nat.beq (Nat.land (Nat.shiftRight m p.1) 1) 1) (ih k) (ih fun r'=>k (p::r'))) T fun r'=>k (p::r'))=_
   rw[ih,ih,Qaq]
   simp only[rmM]
   split<;>rfl
 exact this T k
theorem QkH (m:Nat) (T:Tmps):Sub (rmM m T) T:=by
 have dead:∀(T:Tmps) (i:Nat),Nat.beq (Nat.land (Nat.shiftRight m i) 1) 1=true->lk (rmM m T) i= .any:=by
  intro T i hi
  induction T with
  |nil=>rfl
  | cons p T ih =>
   simp only[rmM]
   split
   ·exact ih
   ·rename_i h
    rw[QaG,if_neg (by grind)];exact ih
 have live:∀(T:Tmps) (i:Nat),¬Nat.beq (Nat.land (Nat.shiftRight m i) 1) 1=true->lk (rmM m T) i=lk T i:=by
  intro T i hi
  induction T with
  |nil=>rfl
  | cons p T ih =>
   simp only[rmM]
   split
   ·rename_i h
    rw[QaG,if_neg (by grind)];exact ih
   ·grind [QaG]
 intro i
 grind
def getR {β:Type} (t:Tr β) (b:Nat) (k:Option β->α):α:=
 @Tr.rec β (fun _=>Nat->α) (fun _=>k none) (fun _ v _ il ir b=>ifB (Nat.beq b 0) (k v) (ifB (Nat.beq (Nat.mod b 2) 1) (il (Nat.div b 2)) (ir (Nat.sub (Nat.div b 2) 1)))) t b
theorem Qbf {β:Type} (t:Tr β) (b:Nat) (k:Option β->α):getR t b k=k (t.get b):=by
 induction t generalizing b with
 |e=>rfl
 |n l v r il ir=>
  show ifB (Nat.beq b 0) (k v) (ifB (Nat.beq (Nat.mod b 2) 1) (getR l (Nat.div b 2) k) (getR r (Nat.sub (Nat.div b 2) 1) k))=_
  rw[il,ir,Qaq,Qaq]
  simp only[Tr.get]
  have e1:Nat.mod b 2=b % 2:=rfl
  have e2:Nat.div b 2=b/2:=rfl
  have e3:Nat.sub (b/2) 1=b/2-1:=rfl
  rw[e1,e2,e3]
  cases Nat.beq b 0<;>cases Nat.beq (b % 2) 1<;>rfl
def setE {β:Type} (f:Nat) (b:Nat) (x:β) (k:Tr β->α):α:=
 @Nat.rec (fun _=>Nat->(Tr β->α)->α) (fun _ k=>k .e) (fun _ ih b k=>ifB (Nat.beq b 0) (k (.n .e (some x) .e)) (ifB (Nat.beq (Nat.mod b 2) 1) (ih (Nat.div b 2) fun l=>k (.n l none .e)) (ih (Nat.sub (Nat.div b 2) 1) fun r=>k (.n .e none r)))) f b k
theorem Qoa {β:Type} (f:Nat) (b:Nat) (x:β) (k:Tr β->α):setE f b x k=k (Tr.setF f .e b x):=by
 induction f generalizing b k with
 |zero=>rfl
 |succ f ih=>
  show ifB (Nat.beq b 0) (k (.n .e (some x) .e)) (ifB (Nat.beq (Nat.mod b 2) 1) (setE f (Nat.div b 2) x fun l=>k (.n l none .e)) (setE f (Nat.sub (Nat.div b 2) 1) x fun r=>k (.n .e none r)))=_
  rw[ih,ih,Qaq,Qaq]
  simp only[Tr.setF]
  have e1:Nat.mod b 2=b % 2:=rfl
  have e2:Nat.div b 2=b/2:=rfl
  have e3:Nat.sub (b/2) 1=b/2-1:=rfl
  rw[e1,e2,e3]
  cases Nat.beq b 0<;>cases Nat.beq (b % 2) 1<;>rfl
def setR {β:Type} (t:Tr β) (f:Nat) (b:Nat) (x:β) (k:Tr β->α):α:=
 @Tr.rec β (fun _ => Nat -> Nat -> (Tr β -> α) -> α) (fun f b k => setE f b x k)
  (fun l v r il ir f b k=>@Nat.rec (fun _=>α) (k (.n l v r)) (fun f _=>ifB (Nat.beq b 0) (k (.n l (some x) r)) (ifB (Nat.beq (Nat.mod b 2) 1) (il f (Nat.div b 2) fun l=>k (.n l v r)) (ir f (Nat.sub (Nat.div b 2) 1) fun r=>k (.n l v r)))) f) t f b k
theorem Qob {β:Type} (t:Tr β) (f:Nat) (b:Nat) (x:β) (k:Tr β->α):setR t f b x k=k (Tr.setF f t b x):=by
 induction t generalizing f b k with
 |e=>exact Qoa f b x k
 | n l v r il ir =>
  cases f with
  |zero=>rfl
  |succ f=>
   show ifB (Nat.beq b 0) (k (.n l (some x) r)) (ifB (Nat.beq (Nat.mod b 2) 1) (setR l f (Nat.div b 2) x fun l=>k (.n l v r)) (setR r f (Nat.sub (Nat.div b 2) 1) x fun r=>k (.n l v r)))=_
   rw[il,ir,Qaq,Qaq]
   simp only[Tr.setF]
   have e1:Nat.mod b 2=b % 2:=rfl
   have e2:Nat.div b 2=b/2:=rfl
   have e3:Nat.sub (b/2) 1=b/2-1:=rfl
   rw[e1,e2,e3]
   cases Nat.beq b 0<;>cases Nat.beq (b % 2) 1<;>rfl
def putBR (A:Ans α) (h:Heap) (b:Nat) (x:Blk) (k:Heap->α):α:=ifB (Nat.ble (Nat.succ b) lim) (setR h 40 b x k) A.bad
theorem Qbo (A:Ans α) (h:Heap) (b:Nat) (x:Blk) (k:Heap->α):putBR A h b x k=if b<lim then k (h.set b x)else A.bad:=by
 unfold putBR
 rw[Qob,Qaq]
 by_cases hb:b<lim
 ·rw[if_pos (Nat.ble_eq_true_of_le hb),if_pos hb];rfl
 ·rw[if_neg (fun h=>hb (Nat.le_of_ble_eq_true h)),if_neg hb]
def runR {β:Type} (A:Ans α) (m:HM β) (h:Heap) (k:β->Heap->α):α:=
 @HM.rec β (fun _=>Heap->α) (fun a h=>k a h) (fun _=>A.bad) (fun b _ ih h=>getR h b fun o=>ih o h) (fun b x _ ih h=>fBlk x fun x=>putBR A h b x fun h=>ih h) m h
theorem Qce {β:Type} (A:Ans α) (m:HM β):∀(h:Heap) (k:β->Heap->α),runR A m h k=match m.run h with|some (a,h')=>k a h'|none=>A.bad:=by
 induction m with
 |ret a=>intro h k;rfl
 |fail=>intro h k;rfl
 |look b m ih=>
  intro h k
  show getR h b (fun o=>runR A (m o) h k)=_
  rw[Qbf]
  exact ih _ h k
 | put b x m ih =>
  intro h k
  show fBlk x (fun x=>putBR A h b x fun h=>runR A m h k)=_
  rw[Qn9,Qbo]
  simp only[HM.run]
  by_cases hb:b<lim
  ·have : Nat.blt b lim = true := by simp_all
   grind
  ·have : Nat.blt b lim = false := by simp_all [Bool.eq_false_iff]
   grind
def optR (A:Ans α) (o:Option AV) (k:AV->α):α:=@Option.rec AV (fun _=>α) A.bad (fun v=>fAV v k) o
theorem Qbg (A:Ans α) (o:Option AV) (k:AV->α):optR A o k=match o with|some v=>k v|none=>A.bad:=by
 cases o with
 |none=>rfl
 |some v=>exact Qco v k
def hiN:IntKind->Nat
 | .i8=>127| .i16=>32767| .i32=>2147483647| .i64=>9223372036854775807
 | .u8=>255| .u16=>65535| .u32=>4294967295| .u64=>18446744073709551615
theorem QoV (k:IntKind):hi k=hiN k:=by cases k<;>rfl
theorem lo_le (k:IntKind):lo k<=0:=by cases k<;>decide
theorem Qgv {k:IntKind} {m:Nat} (h:m<=hiN k):wr k (.ofNat m)= .ofNat m:=
 wr_of (by grind [lo_le]) (by simp_all [QoV])
def kn:IntKind->Nat
 | .i8=>0| .i16=>1| .i32=>2| .i64=>3| .u8=>4| .u16=>5| .u32=>6| .u64=>7
theorem Qjd {k k':IntKind} (h:Nat.beq (kn k) (kn k')=true):k=k':=by cases k<;>cases k'<;>first|rfl|(cases h)
def bin2 (A:Ans α) (op:BinOp) (kd:IntKind) (a b:Nat) (slow:α) (k:AV->α):α:=
 match op with
 | .add=>fNat (Nat.add a b) fun r=>ifB (Nat.ble r (hiN kd)) (k (.int kd (.ofNat r))) slow
 | .sub=>ifB (Nat.ble b a) (fNat (Nat.sub a b) fun r=>ifB (Nat.ble r (hiN kd)) (k (.int kd (.ofNat r))) slow) slow
 | .mul=>fNat (Nat.mul a b) fun r=>ifB (Nat.ble r (hiN kd)) (k (.int kd (.ofNat r))) slow
 | .eql=>fBool (Nat.beq a b) fun t=>k (.bool t)
 | .neq=>fBool (Nat.beq a b) fun t=>ifB t (k (.bool false)) (k (.bool true))
 | .lss=>fBool (Nat.ble (Nat.succ a) b) fun t=>k (.bool t)
 | .leq=>fBool (Nat.ble a b) fun t=>k (.bool t)
 | .gtr=>fBool (Nat.ble (Nat.succ b) a) fun t=>k (.bool t)
 | .geq=>fBool (Nat.ble b a) fun t=>k (.bool t)
 |_=>slow
def binN (op:BinOp) (below:Bool) (slow:α) (k:AV->α):α:=
 match op with
 | .eql=>k (.bool false)
 | .neq=>k (.bool true)
 | .lss=>ifB below (k (.bool true)) (k (.bool false))
 | .leq=>ifB below (k (.bool true)) (k (.bool false))
 | .gtr=>ifB below (k (.bool false)) (k (.bool true))
 | .geq=>ifB below (k (.bool false)) (k (.bool true))
 |_=>slow
def binR (A:Ans α) (op:BinOp) (x y:AV) (k:AV->α):α:=
 match x with
 | .int kx (.ofNat a)=>(match y with
  | .int ky (.ofNat b)=>ifB (Nat.beq (kn kx) (kn ky)) (bin2 A op kx a b (optR A (aBin op x y) k) k) (optR A (aBin op x y) k)
  | .int ky (.negSucc b)=>ifB (Nat.beq (kn kx) (kn ky)) (binN op false (optR A (aBin op x y) k) k) (optR A (aBin op x y) k)
  |_=>optR A (aBin op x y) k)
 | .int kx (.negSucc a)=>(match y with
  | .int ky (.ofNat b)=>ifB (Nat.beq (kn kx) (kn ky)) (binN op true (optR A (aBin op x y) k) k) (optR A (aBin op x y) k)
  |_=>optR A (aBin op x y) k)
 |_=>optR A (aBin op x y) k
theorem Qoc (A:Ans α) (op:BinOp) (kd:IntKind) (a b:Nat) (k:AV->α):
  binN op true (optR A (aBin op (.int kd (.negSucc a)) (.int kd (.ofNat b))) k) k=optR A (aBin op (.int kd (.negSucc a)) (.int kd (.ofNat b))) k:=by
 have hlt:(Int.negSucc a:Int)<Int.ofNat b:=by grind
 generalize Int.negSucc a=x at*
 generalize Int.ofNat b=y at*
 unfold binN
 grind [Qdl,Qbg,decide,Qdm,Qdn,Qdo,Qdp,Qdq]
theorem binN_eq' (A:Ans α) (op:BinOp) (kd:IntKind) (a b:Nat) (k:AV->α):
  binN op false (optR A (aBin op (.int kd (.ofNat a)) (.int kd (.negSucc b))) k) k=optR A (aBin op (.int kd (.ofNat a)) (.int kd (.negSucc b))) k:=by
 have hlt:(Int.negSucc b:Int)<Int.ofNat a:=by grind
 generalize Int.negSucc b=x at*
 generalize Int.ofNat a=y at*
 unfold binN
 grind [Qdl,Qbg,decide,Qdm,Qdn,Qdo,Qdp,Qdq]
theorem Qod (A:Ans α) (op:BinOp) (kd:IntKind) (a b:Nat) (k:AV->α):
  bin2 A op kd a b (optR A (aBin op (.int kd (.ofNat a)) (.int kd (.ofNat b))) k) k=optR A (aBin op (.int kd (.ofNat a)) (.int kd (.ofNat b))) k:=by
 unfold bin2
 cases op<;>simp only<;>try rfl
 ·rw [Qa4, Qaq]
  split
  ·rename_i h1
   rw[QfL,show(Int.ofNat a+Int.ofNat b:Int)=Int.ofNat (a+b) from rfl,Qgv (m:=a+b) (Nat.le_of_ble_eq_true h1),Qbg];rfl
  ·rfl
 ·rw [Qaq]
  split
  ·rename_i h0
   have h0:=Nat.le_of_ble_eq_true h0
   rw[Qa4,Qaq]
   split
   ·rename_i h1
    rw[QfM,show(Int.ofNat a-Int.ofNat b:Int)=Int.ofNat (a-b) from(Int.ofNat_sub h0).symm,Qgv (m:=a-b) (Nat.le_of_ble_eq_true h1),Qbg];rfl
   ·rfl
  ·rfl
 ·rw [Qa4, Qaq]
  split
  ·rename_i h1
   rw[QfN,show(Int.ofNat a*Int.ofNat b:Int)=Int.ofNat (a*b) from rfl,Qgv (m:=a*b) (Nat.le_of_ble_eq_true h1),Qbg];rfl
  ·rfl
 ·rw [Qb6, Qdl, Qbg]
  simp only
  congr 2
  rw[Bool.eq_iff_iff];simp;omega
 ·rw [Qb6, Qdm, Qbg, Qaq]
  simp only
  by_cases e:a=b
  ·subst e;simp
  ·have h1 : Nat.beq a b = false := by simp_all [Bool.eq_false_iff]
   grind [decide]
 ·rw [Qb6, Qdn, Qbg]
  simp only
  congr 2
  rw[Bool.eq_iff_iff];simp;omega
 ·rw [Qb6, Qdo, Qbg]
  simp only
  congr 2
  rw[Bool.eq_iff_iff];simp
 ·rw [Qb6, Qdp, Qbg]
  simp only
  congr 2
  rw[Bool.eq_iff_iff];simp;omega
 ·rw [Qb6, Qdq, Qbg]
  simp only
  congr 2
  rw[Bool.eq_iff_iff];simp
theorem Qoe (A:Ans α) (op:BinOp) (x y:AV) (k:AV->α):binR A op x y k=match aBin op x y with|some v=>k v|none=>A.bad:=by
 rw[<-Qbg A]
 unfold binR
 split
 ·split
  ·grind [Qaq,Qjd,Qod]
  ·grind [Qaq,Qjd,binN_eq']
  ·rfl
 ·split
  ·grind [Qaq,Qjd,Qoc]
  ·rfl
 ·rfl
def nthR (A:Ans α) (cs:List AV) (j:Nat) (k:AV->α):α:=
 @List.rec AV (fun _=>Nat->α) (fun _=>A.bad) (fun c _ ih j=>@Nat.rec (fun _=>α) (k c) (fun j _=>ih j) j) cs j
theorem QkI (A:Ans α) (cs:List AV) (j:Nat) (k:AV->α):nthR A cs j k=match cs[j]? with|some v=>k v|none=>A.bad:=by
 induction cs generalizing j with
 |nil=>rfl
 |cons c cs ih=>
  cases j with
  |zero=>rfl
  |succ j=>exact(ih j).trans (by simp)
def nthSetR (cs:List AV) (j:Nat) (v:AV) (k:List AV->α):α:=
 @List.rec AV (fun _=>Nat->(List AV->α)->α) (fun _ k=>k []) (fun c r ih j k=>@Nat.rec (fun _=>α) (k (v::r)) (fun j _=>ih j fun r=>k (c::r)) j) cs j k
theorem Qlq (cs:List AV) (j:Nat) (v:AV) (k:List AV->α):nthSetR cs j v k=k (cs.set j v):=by
 induction cs generalizing j k with
 |nil=>rfl
 |cons c cs ih=>
  cases j with
  |zero=>rfl
  |succ j=>exact ih j _
def dropR (cs:List AV) (j:Nat) (k:List AV->α):α:=
 @List.rec AV (fun _=>Nat->α) (fun _=>k []) (fun c r ih j=>@Nat.rec (fun _=>α) (k (c::r)) (fun j _=>ih j) j) cs j
theorem QfQ (cs:List AV) (j:Nat) (k:List AV->α):dropR cs j k=k (cs.drop j):=by
 induction cs generalizing j with
 |nil=>simp[dropR]
 |cons c cs ih=>
  cases j with
  |zero=>rfl
  |succ j=>exact ih j
def isPtr:AV->Bool
 | .ptr .. =>true
 |_=>false
def loadR (A:Ans α) (m:Option Nat) (x:AV) (h:Heap) (k:AV->α):α:=
 match m with
 | none => (match x with
  | .ptr b g off=>getR h b fun o=>(match o with
   |some (.cells g' cs)=>ifB (Nat.beq g' g) (nthR A cs off k) A.bad
   |_=>A.bad)
  | .fptr cs=>(match cs with
   |c::_=>k c
   |[]=>A.bad)
  |_=>A.bad)
 |some _=>runR A (aLoad m x) h fun v _=>fAV v k
theorem Qje (A:Ans α) (m:Option Nat) (x:AV) (h:Heap) (k:AV->α):loadR A m x h k=match (aLoad m x).run h with|some (v,_)=>k v|none=>A.bad:=by
 unfold loadR
 split
 ·split
  ·rename_i b g off
   rw[Qbf]
   simp only[aLoad,HM.cells,HM.run]
   cases hb:h.get b with
   |none=>rfl
   | some x =>
    cases x with
    |map g' es=>rfl
    |dead g'=>rfl
    |loop=>rfl
    | cells g' cs =>
     simp only
     rw[Qaq,QkI]
     cases hg:Nat.beq g' g with
     |true=>
      simp only[cond_true,if_true]
      cases cs[off]?<;>rfl
     |false=>simp[HM.run]
  ·rename_i cs
   split<;>rfl
  ·rename_i h1 h2
   cases x<;>first|rfl|(exact absurd rfl (h1 _ _ _))|(exact absurd rfl (h2 _))
 grind [Qce,Qco]
def one1:AV->Bool
 | .any| .agg _| .tup _=>false
 |_=>true
def storeR (A:Ans α) (m:Nat) (x v:AV) (h:Heap) (k:AV->Heap->α):α:=
 match x with
 | .ptr b g off => ifB (one1 v && Nat.beq m 1) (getR h b fun o => (match o with
   |some (.cells g' cs)=>ifB (Nat.beq g' g) (ifB (Nat.ble (Nat.succ off) cs.length) (nthSetR cs off v fun cs=>putBR A h b (.cells g' cs) fun h=>k .any h) A.bad) A.bad
   |_=>A.bad)) (runR A (aStore m x v) h k)
 |_=>runR A (aStore m x v) h k
theorem Qmp (A : Ans α) (m : Nat) (x v : AV) (h : Heap) (k : AV -> Heap -> α) : storeR A m x v h k = match (aStore m x v).run h with | some (u, h') => k u h' | none => A.bad := by
  unfold storeR
  split
  · rename_i b g off
    rw[Qaq]
    split
    · rename_i h1
      simp only[Bool.and_eq_true]at h1
      obtain⟨h1,h2⟩:=h1
      have:m=1:=by simpa using h2
      subst this
      have hv:v.cells=[v]/\AV.one v=true:=by cases v<;>first|(exact⟨rfl,rfl⟩)|(cases h1)
      rw[Qbf]
      simp only[aStore,HM.cells,HM.run]
      cases hb:h.get b with
      |none=>rfl
      | some x =>
        cases x with
        |map g' es=>rfl
        |dead g'=>rfl
        |loop=>rfl
        | cells g' cs =>
          simp only
          rw[Qaq,Qaq]
          cases hg:Nat.beq g' g with
          |false=>simp[HM.run]
          | true =>
            have:g'=g:=by simpa using hg
            subst this
            simp only[cond_true,if_true,hv.1]
            by_cases hl:off<cs.length
            · rw [if_pos (Nat.ble_eq_true_of_le hl), if_pos ⟨rfl, hl, by simp [hv.2]⟩, Qlq, Qbo]
              simp only[HM.run]
              have e:Go.AM.putR cs off [v]=cs.set off v:=rfl
              by_cases hb:b<lim
              · have : Nat.blt b lim = true := by simp_all
                grind
              · have : Nat.blt b lim = false := by simp_all [Bool.eq_false_iff]
                grind
            · rw [if_neg (fun h => hl (Nat.le_of_ble_eq_true h)), if_neg (by simp; omega)]
              rfl
    grind [Qce]
  grind [Qce]
end
end Go.AM
namespace Go.AM
variable {P:Program}
theorem HRel.turnL {ok:Okc} {c:Ctx ok} {h:Heap} {w:World} (H:HRel c h w) {b g cb:Nat} {r:Loop} {x:Blk} (o:Obj) (hb:b<lim) (hl:Live h b g) (hp:c.ρ b g=some (.loc cb 0)) (hr:w.heap[cb]?=some (.loop r))
  (hg:x.gen=g) (hx:∀c',Evo c w c' (w.putObj cb o)->c'.ρ b g=some (.loc cb 0)->c'.O cb->BRel c' (w.putObj cb o) b x):
  ∃c',Evo c w c' (w.putObj cb o)/\HRel c' (h.set b x) (w.putObj cb o)/\c'.ρ b g=some (.loc cb 0):=by
 subst hg
 have hlt:=QaP hr
 have other:∀k,k≠cb->(w.putObj cb o).heap[k]?=w.heap[k]?:=fun k hk=>World.putObj_heap_other hk
 have hlater:∀y,x.gen<y->c.ρ b y=none:=by
  intro y hy
  obtain⟨z,hz,hzg,_⟩:=hl
  exact H.later b z hz y (by omega)
 have:=H.put (w':=w.putObj cb o) (cb:=cb) (base:=0) hb hlater (.inr hp) (.inr ⟨x.gen,0,hl,hp⟩) rfl rfl rfl (by simp_all) (by simp_all)
  (fun k _ hk=>other k hk) (fun C e fr hc=>by simp_all) (fun E=>hx _ E (by show(if b=b/\x.gen=x.gen then _ else _)=_;simp_all) (.inr rfl))
 exact⟨_,this.1,this.2,by show(if b=b/\x.gen=x.gen then _ else _)=_;simp_all⟩
def upsT:Tmps->List Nat->List AV->Tmps
 |T,p::ps,x::xs=>upsT (up T p x) ps xs
 |T,_,_=>T
theorem Qjf {ok:Okc} {c:Ctx ok} {w:World}:∀(ps:List Nat) (xs:List AV) (vs:List Value) (T:Tmps) (t:Array Value),(∀p∈ps,p<t.size)->xs.length=ps.length->VRels c w xs vs->(∀i,VRel c w (lk T i) (t.getD i undef))->
  (∀i,VRel c w (lk (upsT T ps xs) i) (((ps.zip vs).foldl (fun t (p:Nat×Value)=>t.setIfInBounds p.1 p.2) t).getD i undef))/\((ps.zip vs).foldl (fun t (p:Nat×Value)=>t.setIfInBounds p.1 p.2) t).size=t.size
 |[],xs,vs,T,t,_,_,_,ht=>by cases xs<;>exact⟨ht,rfl⟩
 |p::ps,[],_,_,_,_,hl,_,_=>by simp at hl
 | p :: ps, x :: xs, vs, T, t, hp, hl, hv, ht => by
  simp only[VRels]at hv
  obtain⟨v,vs',rfl,h1,h2⟩:=hv
  have hlt:p<t.size:=hp p (by simp)
  obtain⟨k1,k2⟩:=Qjf ps xs vs' (up T p x) (t.setIfInBounds p v) (fun q hq=>by simp_all) (by simpa using hl) h2 (fun i=>by
   rw[lk_up]
   by_cases e:i=p
   ·simp_all
   ·rw [if_neg e]
    have:=ht i
    simpa[Array.getElem?_setIfInBounds_ne (fun h=>e h.symm)]using this)
  exact⟨k1,by simp_all⟩
def stOf:SX->LSt
 | .normal=> .ready
 |e=> .done e
def SX.isNormal:SX->Bool
 | .normal=>true
 |_=>false
theorem RSpec.of_W {b g N : Nat} {T : Tmps} {ps : List Nat} {asg body : LCode} {args : List AV} {h h' : Heap} {v : AV} (hb : h.get b = some (.loop g N T ps asg body .ready)) (hl : b < lim) (hlen : args.length = ps.length) (hps : ∀ p ∈ ps, p < N)
    (hw : W P N asg.slim (fun e B => e = .normal /\ ∃ N1 T1 ps1 as1 body1, B.h.get b = some (.loop g N1 T1 ps1 as1 body1 .ready) /\
      W P N body.slim (fun e C => ∃ N2 T2 ps2 as2 body2, C.h.get b = some (.loop g N2 T2 ps2 as2 body2 .busy) /\ v = .bool e.isNormal /\ ∀ x, (C.h.set b (.loop g N2 T2 ps2 as2 body2 (stOf e))).get x = h'.get x)
        ⟨B.T,B.h.set b (.loop g N1 T1 ps1 as1 body1 .busy)⟩)
      ⟨upsT T ps args,h⟩):RSpec P b g args h v h':=by
  intro c w cargs cb H ha hcb
  obtain⟨cb0,r,h1,h2,h3,L⟩:=H.blk b _ hb
  rw[hcb]at h1;cases h1
  have hcs:cargs.size=r.params.size:=by
    have e1:=Qam ha
    have e2:r.params.toList.length=ps.length:=by rw[L.params]
    simp_all
  refine⟨r.fn,_,r.assign,r.body,run_yield h3 hcs,roundIn_of_wpIn trivial ?_⟩
  have hfold:(r.params.zip cargs).foldl (fun tmps (x:Nat×Value)=>tmps.setIfInBounds x.1 x.2) r.tmps=(ps.zip cargs.toList).foldl (fun t (p:Nat×Value)=>t.setIfInBounds p.1 p.2) r.tmps:=by
    rw[<-Array.foldl_toList,Array.toList_zip,L.params]
  obtain⟨ht,hts⟩:=Qjf ps args cargs.toList T r.tmps (fun p hp=>by rw[L.size];exact hps p hp) hlen ha L.tmps
  refine hw r.assign L.okA.1 (c.rb 0) ⟨_,[]⟩ w ⟨H.rebase 0,fun i=>?_,?_,Nat.zero_le _⟩ (some cb) (fun e=>by rw[L.okA.2]at e;cases e) _ ?_
  · rw[hfold];exact(ht i).rebase 0
  · rw[hfold,hts,L.size]
  rintro e B c1 a1 w1 ⟨rfl,N1,T1,ps1,as1,body1,hB,hw2⟩ S1 E1
  obtain⟨cb1,r1,g1,g2,g3,L1⟩:=S1.heap.blk b _ hB
  have hcb1:c1.ρ b g=some (.loc cb 0):=E1.rho _ _ _ hcb
  rw[show c1.ρ b g=some (.loc cb1 0) from g1]at hcb1;cases hcb1
  refine⟨_,run_beginRound g3 L1.state,?_⟩
  obtain ⟨c2, E2, H2, hcb2⟩ := S1.heap.turnL (.loop { r1 with state := .busy }) (x := .loop g N1 T1 ps1 as1 body1 .busy) hl ⟨_, hB, rfl, fun k => by simp⟩ g1 g3 rfl (fun c' E' k1 k2 =>
    ⟨cb,_,k1,k2,World.putObj_heap_same (QaP g3),by
      have L':=L1.mono (E'.ext S1.heap.disj)
      exact⟨L'.params,L'.size,L'.tmps,L'.okA,L'.okB,rfl,L'.pend⟩⟩)
  refine hw2 r.body L.okB.1 c2 a1 _ ⟨H2,fun i=>VRel.mono (E2.ext S1.heap.disj) _ _ (S1.tmps i),S1.size,S1.defers.mono E2⟩ (some cb) (fun e=>by rw[L.okB.2]at e;cases e) _ ?_
  rintro e C c3 a3 w3 ⟨N2,T2,ps2,as2,body2,hC,rfl,hh⟩ S3 E3
  obtain⟨cb3,r3,q1,q2,q3,L3⟩:=S3.heap.blk b _ hC
  have hcb3:c3.ρ b g=some (.loc cb 0):=E3.rho _ _ _ hcb2
  rw[show c3.ρ b g=some (.loc cb3 0) from q1]at hcb3;cases hcb3
  have fin:∀(jump:Option Code),jump.isNone=e.isNormal->(stOf e).pend=jump->(stOf e).state=(if jump.isNone then .ready else .done)->
      ∃v w',(Instr.endRound cb jump).run P w3= .ok v w'/\Rets P c w h' (.bool e.isNormal) (.returned v) w':=by
    intro jump j1 j2 j3
    obtain ⟨c4, E4, H4, _⟩ := S3.heap.turnL (.loop { r3 with state := if jump.isNone then .ready else .done, pending := jump }) (x := .loop g N2 T2 ps2 as2 body2 (stOf e)) hl ⟨_, hC, rfl, fun k => by simp⟩ q1 q3 rfl (fun c' E' k1 k2 =>
      ⟨cb,_,k1,k2,World.putObj_heap_same (QaP q3),by
        have L':=L3.mono (E'.ext S3.heap.disj)
        exact⟨L'.params,L'.size,L'.tmps,L'.okA,L'.okB,j3.symm,j2.symm⟩⟩)
    have E:=((E1.trans E2).trans E3).trans E4
    exact⟨_,_,run_endRound jump q3,_,(c4.rb (c.base)),rfl,E.rebase,(Qcn hh H4).rebase _,by simp[VRel,j1]⟩
  cases e with
  |normal=>exact fin none rfl rfl rfl
  |exit i=>exact fin (some (.exit i)) rfl rfl rfl
  |ret=>exact fin (some .ret) rfl rfl rfl
def leftQ (Q:SX->St->Prop) (B:St):LSt->Prop
 | .ready=>Q .normal B
 | .busy=>False
 | .done e=>e.isNormal=false/\Q e B
theorem W.rfunc {N : Nat} {Q : SX -> St -> Prop} {A : St} {g : Opd} {ps : List Nat} {asg body : SCode} {f b : Nat} {first cap : List AV} {v : AV} {h2 : Heap} {T2 : Tmps} {N2 : Nat} {ps2 : List Nat} {as2 body2 : LCode} {st : LSt} (las lbody : LCode) (hla : las.slim = asg) (hlb : lbody.slim = body)
    (hg:ev A.T g= .fn f first cap) (hb:A.h.get b=none) (hl:b<lim) (hs:HSpec P f (first++[.yld b 0]++cap) (A.h.set b (.loop 0 N A.T ps las lbody .ready)) v h2)
    (hst:h2.get b=some (.loop 0 N2 T2 ps2 as2 body2 st))
    (hQ:leftQ Q ⟨A.T,h2.set b (.dead 0)⟩ st):W P N (.rfunc g ps N asg body) Q A:=by
  intro code hok c a w S ro hro Q' hQ'
  cases code<;>simp only[okCode,Bool.false_eq_true,Bool.and_eq_true,beq_iff_eq,Bool.not_eq_true']at hok
  rename_i g' ps' asg' body'
  obtain⟨⟨⟨⟨⟨⟨⟨k1,k2⟩,_⟩,_⟩,k3⟩,k4⟩,k5⟩,k6⟩:=hok
  have:=hro rfl
  subst this
  have hg':=Qac S.tmps k1
  rw[hg]at hg'
  simp only[VRel]at hg'
  obtain⟨x',y',hgv,hx,hy⟩:=hg'
  refine wpIn_rangeFunc fun fn _=>?_
  obtain⟨E0,H0⟩:=S.heap.grow (w':=w.alloc (.deferred (some []))) rfl rfl rfl (by simp) (fun k hk=>Go.RowKit.Below.heap_alloc w _ k hk)
  obtain⟨rec,hrec⟩:∃rec:Loop,rec={state:= .ready,pending:=none,fn,tmps:=a.tmps,params:=ps',assign:=asg',body:=body',defers:=w.heap.size}:=⟨_,rfl⟩
  have hsz1:(w.alloc (.deferred (some []))).heap.size=w.heap.size+1:=by simp
  obtain⟨E1,H1⟩:=H0.put (w':=(w.alloc (.deferred (some []))).alloc (.loop rec)) (b:=b) (cb:=w.heap.size+1) (base:=0) (x:= .loop 0 N A.T ps las lbody .ready) hl (fun y hy=>H0.fresh b hb y) (.inl (H0.fresh b hb _)) (.inl hsz1.symm)
    rfl rfl rfl (by simp) (by simp) (fun k hk _ => Go.RowKit.Below.heap_alloc _ _ k hk) (fun C e fr hc => by simp_all) (fun E =>
      ⟨w.heap.size+1,rec,by show(if b=b/\0=0 then _ else _)=_;simp_all,.inr rfl,by have:=World.alloc_heap_new (w.alloc (.deferred (some []))) (.loop rec);simp_all,by
        subst hrec
        exact⟨k2,S.size,fun i=>VRel.mono (E0.trans E|>.ext S.heap.disj) _ _ (S.tmps i),by rw[hla];exact⟨k5,k3⟩,by rw[hlb];exact⟨k6,k4⟩,rfl,rfl⟩⟩)
  generalize hc1:c.with b (Blk.loop 0 N A.T ps las lbody .ready).gen (.loc (w.heap.size+1) 0) (some (w.heap.size+1))=c1 at E1 H1
  have hρ1:c1.ρ b 0=some (.loc (w.heap.size+1) 0):=by rw[<-hc1];show(if b=b/\0=0 then _ else _)=_;simp_all
  have hO1:∀k,c1.O k->c.O k\/k=w.heap.size+1:=by
    intro k hk;rw[<-hc1]at hk
    rcases hk with hk|hk
    · exact .inl hk
    simp_all
  have hF1:∀k,c1.F k->c.F k:=by intro k hk;rw[<-hc1]at hk;exact hk
  generalize hW1:(w.alloc (.deferred (some []))).alloc (.loop rec)=W1 at E1 H1
  have hD1:W1.heap[w.heap.size]?=some (.deferred (some [])):=by
    grind [Go.RowKit.Below.heap_alloc,World.alloc_heap_new]
  have E01:=E0.trans E1
  have hargs:VRels c1 W1 (first++[.yld b 0]++cap) (x'++ #[Value.func (.yield (w.heap.size+1)) #[] #[]]++y').toList:=by
    have e1:=VRels.mono (E01.ext S.heap.disj) _ _ hx
    have e2:=VRels.mono (E01.ext S.heap.disj) _ _ hy
    have e3:VRels c1 W1 [.yld b 0] [.func (.yield (w.heap.size+1)) #[] #[]]:=by
      simp only[VRels,VRel];simp_all
    grind [Qa7]
  refine⟨w.heap.size+1,[{target:= .collected w.heap.size,args:= #[]}],W1,{target:= .fn (.func f) y',args:=x'++ #[.func (.yield (w.heap.size+1)) #[] #[]]},W1,f,x'++ #[.func (.yield (w.heap.size+1)) #[] #[]]++y',W1,?_,?_,fun _ _=>trivial,?_,fun h=>by simp[FW,Fence.wide]at h,?_⟩
  · rw[<-hW1,hrec];exact run_enterLoop_outer _ _ _ _ _
  · simp_all [resolve,Deferred.ofValue,Act.eval]
  · simp only [invoke]
    exact Qex hs.1 _
  · refine callsFW ((hs.2 c1 W1 _ H1 hargs).mono ?_)
    rintro e w2 ⟨cv,c2,rfl,E2,H2,V2⟩
    obtain⟨cb,r,p1,p2,p3,L⟩:=H2.blk b _ hst
    have hρ2:c2.ρ b 0=some (.loc (w.heap.size+1) 0):=E2.rho _ _ _ hρ1
    rw[show c2.ρ b 0=some (.loc cb 0) from p1]at hρ2;cases hρ2
    have hbusy:r.state≠ .busy:=by
      rw[L.state]
      cases st<;>simp[LSt.state,leftQ]at hQ⊢
    obtain⟨c3,E3,H3,_⟩:=H2.turnL (.loop {r with state:= .exhausted}) (x:= .dead 0) hl ⟨_,hst,rfl,fun k=>by simp⟩ p1 p3 rfl (fun c' _ _ _=>trivial)
    have hel:=run_endLoop (P:=P) p3 hbusy
    generalize w2.putObj (w.heap.size+1) (.loop {r with state:= .exhausted})=W3 at E3 H3 hel
    refine⟨r.pending,W3,hel,?_⟩
    have E:=(E01.trans E2).trans E3
    have hlow:=S.defers.low
    have hD:w.heap.size<W1.heap.size:=QaP hD1
    have notO1:¬c1.O w.heap.size:=fun h=>by
      rcases hO1 _ h with h|h
      · have:=S.heap.inO _ h;omega
      · omega
    have M : Marks c3 W3 ({ target := .collected w.heap.size, args := #[] } :: a.defers) := by
      have notF1:¬c1.F w.heap.size:=fun h=>by have:=S.heap.inF _ (hF1 _ h);omega
      have step:=(E2.trans E3)
      have m1 : Marks c1 W1 ({ target := .collected w.heap.size, args := #[] } :: a.defers) := by
        refine⟨⟨w.heap.size,rfl,by rw[E01.base];exact hlow,notO1,notF1,hD1,fun d' hd' e=>?_⟩,S.defers.mono E01⟩
        have key:∀{ds:List Deferred},Marks c w ds->∀d∈ds,∀D,d.target= .collected D->D<w.heap.size:=by
          intro ds
          induction ds with
          |nil=>intro _ d hd;cases hd
          | cons x xs ih =>
            rintro⟨⟨D0,x1,x2,x3,x4,x5,x6⟩,hr⟩ d hd D e
            rcases List.mem_cons.1 hd with rfl|hd
            · grind
            · grind
        have:=key S.defers d' hd' _ e
        omega
      exact m1.mono step
    have S3 : SRel N c3 ⟨A.T, h2.set b (.dead 0)⟩ { a with defers := { target := .collected w.heap.size, args := #[] } :: a.defers } W3 :=
      ⟨H3,fun i=>VRel.mono (E.ext S.heap.disj) _ _ (S.tmps i),S.size,M⟩
    have hpend:=L.pend
    cases st with
    | ready =>
      rw[show r.pending=none from hpend]
      exact hQ' .normal _ c3 _ _ hQ S3 E
    |busy=>exact hQ.elim
    | done e =>
      rw[show r.pending=some e.toCode from hpend]
      obtain⟨he,hq⟩:=hQ
      cases e with
      |normal=>cases he
      |exit i=>exact wpIn_exit (hQ' (.exit i) _ c3 _ _ hq S3 E)
      |ret=>exact wpIn_ret (hQ' .ret _ c3 _ _ hq S3 E)
end Go.AM
namespace Go.AM
variable {P:Program}
noncomputable section
variable {α:Type}
inductive CM where
 |c (m:CallM)
 |rnd (g:Nat)
 |give (b g:Nat) (xs:List AV)
 |new
 |fr (hB:Heap)
abbrev CallerA (α:Type):=CM->Nat->List AV->Heap->Nat->(AV->Heap->Nat->α)->α
abbrev KcA (α:Type):=SX->Tmps->Heap->Nat->α
def evsK (T:Tmps) (xs:List Opd) (k:List AV->α):α:=
 @List.rec Opd (fun _=>(List AV->α)->α) (fun k=>k []) (fun x _ ih k=>evK T x fun v=>ih fun vs=>k (v::vs)) xs k
theorem QgR (T:Tmps) (xs:List Opd) (k:List AV->α):evsK T xs k=k (evs T xs):=by
 have:∀(xs:List Opd) (k:List AV->α),@List.rec Opd (fun _=>(List AV->α)->α) (fun k=>k []) (fun x _ ih k=>evK T x fun v=>ih fun vs=>k (v::vs)) xs k=k (evs T xs):=by
  intro xs
  induction xs with
  |nil=>intro k;rfl
  |cons x r ih=>
   intro k
   show evK T x (fun v=>@List.rec Opd (fun _=>(List AV->α)->α) (fun k=>k []) (fun x _ ih k=>evK T x fun v=>ih fun vs=>k (v::vs)) r fun vs=>k (v::vs))=_
   rw[QaW];exact ih _
 exact this xs k
def iaddrR (A:Ans α) (arr:Option Nat) (sz:Nat) (x i:AV) (k:AV->α):α:=
 match i with
 | .int _ (.ofNat j) => (match arr with
  |none=>(match x with
   | .sl b g off len s=>ifB (Nat.ble (Nat.succ j) len&&Nat.beq s sz) (fNat (Nat.add off (Nat.mul j sz)) fun o=>k (.ptr b g o)) A.bad
   | .fsl cs len s=>ifB (Nat.ble (Nat.succ j) len&&Nat.beq s sz) (fNat (Nat.mul j sz) fun o=>dropR cs o fun cs=>k (.fptr cs)) A.bad
   |_=>A.bad)
  |some m=>(match x with
   | .ptr b g off=>ifB (Nat.ble (Nat.succ j) m) (fNat (Nat.add off (Nat.mul j sz)) fun o=>k (.ptr b g o)) A.bad
   | .fptr cs=>ifB (Nat.ble (Nat.succ j) m) (fNat (Nat.mul j sz) fun o=>dropR cs o fun cs=>k (.fptr cs)) A.bad
   |_=>A.bad))
 |_=>A.bad
theorem Qmq (A:Ans α) (arr:Option Nat) (sz:Nat) (x i:AV) (k:AV->α):iaddrR A arr sz x i k=A.bad\/∃v,aIAddr arr sz x i=some v/\iaddrR A arr sz x i k=k v:=by
 unfold iaddrR
 split
 ·rename_i kd j
  have cond2:∀(len s:Nat),(Nat.ble (Nat.succ j) len&&Nat.beq s sz)=true->((0:Int)<=Int.ofNat j/\Int.ofNat j<(len:Int)/\s=sz):=by
   intro len s h
   simp only[Bool.and_eq_true]at h
   refine⟨Int.natCast_nonneg j,Int.ofNat_lt.2 (Nat.le_of_ble_eq_true h.1),by simpa using h.2⟩
  have cond1:∀(len:Nat),Nat.ble (Nat.succ j) len=true->((0:Int)<=Int.ofNat j/\Int.ofNat j<(len:Int)):=by
   simp_all
  split
  ·split
   ·rw [Qaq]; split
    ·simp_all [aIAddr,Qa4]
    simp_all
   ·rw [Qaq]; split
    ·simp_all [aIAddr,Qa4,QfQ]
    simp_all
   simp_all
  ·split
   ·rw [Qaq]; split
    ·simp_all [aIAddr,Qa4]
    simp_all
   ·rw [Qaq]; split
    ·simp_all [aIAddr,Qa4,QfQ]
    simp_all
   simp_all
 simp_all
def convR (A:Ans α) (kd:IntKind) (x:AV) (k:AV->α):α:=
 match x with
 | .int _ (.ofNat m)=>ifB (Nat.ble m (hiN kd)) (k (.int kd (.ofNat m))) (optR A (aConv kd x) k)
 |_=>optR A (aConv kd x) k
theorem Qnq (A:Ans α) (kd:IntKind) (x:AV) (k:AV->α):convR A kd x k=match aConv kd x with|some v=>k v|none=>A.bad:=by
 refine Eq.trans (b:=optR A (aConv kd x) k) ?_ (by cases aConv kd x with|none=>rfl|some v=>exact Qco v k)
 unfold convR
 split
 ·grind [Qaq,QeG,Qgv,Nat.le_of_ble_eq_true,Qbg]
 ·rfl
def opR (A:Ans α) (call:CallerA α) (i:Nat) (s:SOp) (T:Tmps) (h:Heap) (n:Nat) (k:AV->Heap->Nat->α):α:=
 match s with
 | .mov x=>evK T x fun v=>k v h n
 | .bin op x y=>evK T x fun a=>evK T y fun b=>binR A op a b fun v=>k v h n
 | .load m x=>evK T x fun a=>loadR A m a h fun v=>k v h n
 | .store m x v=>evK T x fun a=>evK T v fun v=>storeR A m a v h fun u h=>k u h n
 | .iaddr arr sz x j=>evK T x fun a=>evK T j fun j=>iaddrR A arr sz a j fun v=>k v h n
 | .faddr off x=>evK T x fun a=>optR A (aFAddr off a) fun v=>k v h n
 | .conv kd x=>evK T x fun a=>convR A kd a fun v=>k v h n
 | .extract j x=>evK T x fun a=>(match a with
  | .tup vs=>nthR A vs j fun v=>k v h n
  |_=>A.bad)
 | .pick c a b=>evK T c fun c=>(match c with
  | .bool t=>ifB t (evK T a fun v=>k v h n) (evK T b fun v=>k v h n)
  |_=>A.bad)
 | .un .not x=>evK T x fun a=>(match a with
  | .bool t=>ifB t (k (.bool false) h n) (k (.bool true) h n)
  |_=>A.bad)
 | .len 1 x => evK T x fun a => (match a with
  | .sl _ _ _ len _=>k (.int .i64 (.ofNat len)) h n
  | .fsl _ len _=>k (.int .i64 (.ofNat len)) h n
  | .nilsl=>k (.int .i64 (.ofNat 0)) h n
  |_=>runR A (aop i T s) h fun out h2=>(match out with
   | .val v=>fAV v fun v=>k v h2 n
   |_=>A.bad))
 | .call m x args => evK T x fun f => (match f with
  | .fn f first captured=>evsK T args fun asg=>(match m with
   | .heap=>fList (first++asg++captured) fun asg=>call (.c .heap) f asg h n k
   | .pure=>fList (first++asg++captured) fun asg=>call (.c .pure) f asg h n fun v _ n=>k v h n
   | .borrow=>runR A (mapH (frzH 4) (first++asg++captured)) h fun asg h2=>call (.c .borrow) f asg h2 n fun v _ n=>ifB (flatV v) (k v h2 n) A.bad)
  | .yld b g=>(match m with
   | .heap=>evsK T args fun asg=>fList asg fun asg=>call (.rnd g) b asg h n k
   |_=>A.bad)
  |_=>A.bad)
 |s=>runR A (aop i T s) h fun out h2=>(match out with
  | .val v=>fAV v fun v=>k v h2 n
  |_=>A.bad)
theorem Qlr {m:Option Nat} {x v:AV} {h h':Heap} (hm:(aLoad m x).run h=some (v,h')):h'=h:=by
 cases x with
 | ptr b g off =>
  simp only[aLoad]at hm
  obtain⟨cs,_,hm⟩:=QaO hm
  cases m with
  |none=>
   cases hc:cs[off]? with
   |none=>simp[hc,HM.opt,HM.run]at hm
   |some u=>simp only[hc,HM.opt,HM.run,Option.some.injEq,Prod.mk.injEq]at hm;exact hm.2.symm
  |some m=>
   simp only at hm
   split at hm
   ·simp_all [HM.run]
   ·simp[HM.run]at hm
 | fptr cs =>
  simp only[aLoad]at hm
  cases m with
  |none=>
   cases cs with
   |nil=>simp[HM.opt,HM.run]at hm
   |cons u cs=>simp only[HM.opt,List.head?_cons,HM.run,Option.some.injEq,Prod.mk.injEq]at hm;exact hm.2.symm
  |some m=>
   simp only at hm
   split at hm
   ·simp_all [HM.run]
   ·simp[HM.run]at hm
 |_=>simp[aLoad,HM.run]at hm
def stepFP (i:Nat) (s:SOp) (T:Tmps) (h:Heap):FP:=
 match s with
 | .call .heap _ _=>⟨true,[],[]⟩
 |s=>fpOf ((aop i T s).fp h)
def CallOKA (P:Program) (A:Ans α) (call:CallerA α):Prop:=∀(m:CallM) (f:Nat) (args:List AV) (h:Heap) (n:Nat) (k:AV->Heap->Nat->α),A.holds (call (.c m) f args h n k)->
 ∃v h' n',A.holds (k v h' n')/\(m= .heap->HSpec P f args h v h')/\(m≠ .heap->PSpec P f args v)
def RndOK (P:Program) (A:Ans α) (call:CallerA α):Prop:=∀(g b:Nat) (args:List AV) (h:Heap) (n:Nat) (k:AV->Heap->Nat->α),A.holds (call (.rnd g) b args h n k)->
 ∃v h' n',A.holds (k v h' n')/\RSpec P b g args h v h'
section
variable {A:Ans α} (hA:A.OK) {call:CallerA α} (hc:CallOKA P A call) (hrn:RndOK P A call)
include hA hc hrn
theorem QhP {i : Nat} {s : SOp} {T : Tmps} {h : Heap} {n : Nat} {k : AV -> Heap -> Nat -> α} (hx : A.holds (opR A call i s T h n k)) :
  ∃v h1 n',A.holds (k v h1 n')/\StepX P i s T h v h1 (stepFP i s T h):=by
 have lft:∀{s:SOp} {o:Option AV} {v:AV},(∀m x a,s≠ .call m x a)->aop i T s=lift o->o=some v->StepX P i s T h v h (stepFP i s T h):=by
  intro s o v hs e ho
  refine⟨.val v,h,by rw[e,ho];rfl,rfl,rfl,?_⟩
  cases s<;>first|rfl|(exact absurd rfl (hs _ _ _))
 have hvl:∀{s:SOp} {m:HM AV} {v:AV} {h1:Heap},(∀m x a,s≠ .call m x a)->aop i T s=hval m->m.run h=some (v,h1)->StepX P i s T h v h1 (stepFP i s T h):=by
  intro s m v h1 hs e hm
  refine⟨.val v,h1,by grind [run_hval'],rfl,rfl,?_⟩
  cases s<;>first|rfl|(exact absurd rfl (hs _ _ _))
 have dflt:∀{s:SOp},(∀m x a,s≠ .call m x a)->A.holds (runR A (aop i T s) h fun out h2=>(match out with
   | .val v=>fAV v fun v=>k v h2 n
   |_=>A.bad))->∃v h1 n',A.holds (k v h1 n')/\StepX P i s T h v h1 (stepFP i s T h):=by
  intro s hs hx
  rw[Qce]at hx
  cases hr:(aop i T s).run h with
  |none=>rw[hr]at hx;exact absurd hx hA.bad
  | some r =>
   obtain⟨out,h2⟩:=r
   rw[hr]at hx
   cases out with
   |call m f asg=>exact absurd hx hA.bad
   |round b g asg=>exact absurd hx hA.bad
   |val v=>
    simp only[Qco]at hx
    refine⟨v,h2,n,hx,.val v,h2,hr,rfl,rfl,?_⟩
    cases s<;>first|rfl|(exact absurd rfl (hs _ _ _))
 unfold opR at hx
 split at hx
 ·rw [QaW] at hx
  exact⟨_,h,n,hx,lft (by simp) (o:=some _) rfl rfl⟩
 ·rw [QaW, QaW, Qoe] at hx
  split at hx
  ·rename_i hv;exact⟨_,h,n,hx,lft (by simp) rfl hv⟩
  ·exact absurd hx hA.bad
 ·rw [QaW, Qje] at hx
  split at hx
  ·rename_i v h' hv
   have:h'=h:=Qlr hv
   subst this
   exact⟨v,h',n,hx,hvl (by simp) rfl hv⟩
  ·exact absurd hx hA.bad
 ·rw [QaW, QaW, Qmp] at hx
  split at hx
  ·rename_i hv;exact⟨_,_,n,hx,hvl (by simp) rfl hv⟩
  ·exact absurd hx hA.bad
 ·rw [QaW, QaW] at hx
  rcases Qmq A _ _ _ _ (fun v=>k v h n)with e|⟨v,hv,e⟩
  ·rw[e]at hx;exact absurd hx hA.bad
  ·rw[e]at hx;exact⟨v,h,n,hx,lft (by simp) rfl hv⟩
 ·rw [QaW, Qbg] at hx
  split at hx
  ·rename_i hv;exact⟨_,h,n,hx,lft (by simp) rfl hv⟩
  ·exact absurd hx hA.bad
 ·rw [QaW, Qnq] at hx
  split at hx
  ·rename_i hv;exact⟨_,h,n,hx,lft (by simp) rfl hv⟩
  ·exact absurd hx hA.bad
 ·rw [QaW] at hx
  split at hx
  ·rename_i vs hv
   rw[QkI]at hx
   split at hx
   ·rename_i hj
    exact⟨_,h,n,hx,lft (by simp) rfl (by rw[hv];exact hj)⟩
   ·exact absurd hx hA.bad
  ·exact absurd hx hA.bad
 ·rw [QaW] at hx
  split at hx
  ·rename_i t hv
   rw[Qaq,QaW,QaW]at hx
   split at hx
   ·rename_i ht;exact⟨_,h,n,hx,lft (by simp) rfl (by rw[hv,ht];rfl)⟩
   ·rename_i ht;exact⟨_,h,n,hx,lft (by simp) rfl (by rw[hv];simp at ht;rw[ht];rfl)⟩
  ·exact absurd hx hA.bad
 ·rw [QaW] at hx
  split at hx
  ·rename_i t hv
   rw[Qaq]at hx
   split at hx
   ·rename_i ht;exact⟨_,h,n,hx,lft (by simp) rfl (by rw[hv,ht];rfl)⟩
   ·rename_i ht;exact⟨_,h,n,hx,lft (by simp) rfl (by rw[hv];simp at ht;rw[ht];rfl)⟩
  ·exact absurd hx hA.bad
 ·rw [QaW] at hx
  split at hx
  ·rename_i hv;exact⟨_,h,n,hx,hvl (m:= .ret _) (by simp) (by show hval (aLenC 1 (ev T _))=_;rw[hv];rfl) rfl⟩
  ·rename_i hv;exact⟨_,h,n,hx,hvl (m:= .ret _) (by simp) (by show hval (aLenC 1 (ev T _))=_;rw[hv];rfl) rfl⟩
  ·rename_i hv;exact⟨_,h,n,hx,hvl (m:= .ret _) (by simp) (by show hval (aLenC 1 (ev T _))=_;rw[hv];rfl) rfl⟩
  simp_all
 ·rename_i m x args
  rw[QaW]at hx
  split at hx
  ·rename_i f first captured hv
   rw[QgR]at hx
   have e:aop i T (.call m x args)=aCall m (.fn f first captured) (evs T args):=by rw[<-hv];rfl
   cases m with
   |heap=>
    simp only[Qb7]at hx
    obtain⟨v,h1,n',hk,hs,_⟩:=hc _ _ _ _ _ _ hx
    exact⟨v,h1,n',hk,.call .heap f (first++evs T args++captured),h,by rw[e];rfl,.inl ⟨hs rfl,rfl⟩⟩
   |pure=>
    simp only[Qb7]at hx
    obtain⟨v,h1,n',hk,_,hs⟩:=hc _ _ _ _ _ _ hx
    exact⟨v,h,n',hk,.call .pure f (first++evs T args++captured),h,by rw[e];rfl,hs (by simp),rfl,rfl⟩
   | borrow =>
    simp only[Qce]at hx
    split at hx
    ·rename_i asg h2 hm
     obtain⟨v,h1,n',hk,_,hs⟩:=hc _ _ _ _ _ _ hx
     rw[Qaq]at hk
     split at hk
     ·rename_i hf
      refine⟨v,h2,n',hk,.call .borrow f asg,h2,?_,hs (by simp),hf,rfl,rfl⟩
      rw[e]
      have:∀(m:HM (List AV)) (h:Heap) (k:List AV->AOut),m.run h=some (asg,h2)->(m.bind fun asg=> .ret (k asg)).run h=some (k asg,h2):=by
       intro m
       induction m with
       |ret a=>intro h k hm;simp only[HM.run,Option.some.injEq,Prod.mk.injEq]at hm;obtain⟨rfl,rfl⟩:=hm;rfl
       |fail=>intro h k hm;simp[HM.run]at hm
       |look b k' ih=>intro h k hm;exact ih _ h k hm
       |put b x k' ih=>
        intro h k hm
        obtain⟨hl,hm⟩:=QaE hm
        have:=ih _ k hm
        simp only[HM.bind,HM.run]
        have hl':Nat.blt b lim=true:=by simp_all
        rw[hl'];exact this
      exact this _ h (fun asg=> .call .borrow f asg) hm
     ·exact absurd hk hA.bad
    ·exact absurd hx hA.bad
  ·rename_i b g hv
   cases m with
   |heap=>
    rw[QgR]at hx
    simp only[Qb7]at hx
    have e:aop i T (.call .heap x args)=aCall .heap (.yld b g) (evs T args):=by rw[<-hv];rfl
    obtain⟨v,h1,n',hk,hs⟩:=hrn _ _ _ _ _ _ hx
    exact⟨v,h1,n',hk,.round b g (evs T args),h,by rw[e];rfl,hs,rfl⟩
   |pure=>exact absurd hx hA.bad
   |borrow=>exact absurd hx hA.bad
  ·exact absurd hx hA.bad
 simp_all
end
def operR (A:Ans α) (call:CallerA α) (i:Nat) (s:SOper) (T:Tmps) (h:Heap) (n:Nat) (k:AV->Heap->Nat->α):α:=
 match s.guard with
 |none=>opR A call i s.op T h n k
 |some (g,want)=>lkK T g fun x=>(match x with
  | .bool b=>ifB want (ifB b (opR A call i s.op T h n k) (k (.tup []) h n)) (ifB b (k (.tup []) h n) (opR A call i s.op T h n k))
  | .tup []=>k (.tup []) h n
  |_=>A.bad)
def operFP (i:Nat) (s:SOper) (T:Tmps) (h:Heap):FP:=
 match s.guard with
 |none=>stepFP i s.op T h
 |some (g,want)=>match wantedA (lk T g) want with
  |some true=>stepFP i s.op T h
  |_=>⟨false,[],[]⟩
section
variable {A:Ans α} (hA:A.OK) {call:CallerA α} (hc:CallOKA P A call) (hrn:RndOK P A call)
include hA hc hrn
theorem Qfv {i:Nat} {s:SOper} {T:Tmps} {h:Heap} {n:Nat} {k:AV->Heap->Nat->α} (hx:A.holds (operR A call i s T h n k)):
  ∃v h1 n',A.holds (k v h1 n')/\StepV P i s T h v h1 (operFP i s T h):=by
 unfold operR at hx
 unfold StepV operFP
 cases hg:s.guard with
 |none=>
  rw[hg]at hx
  obtain⟨v,h1,n',hk,hs⟩:=QhP hA hc hrn hx
  exact⟨v,h1,n',hk,hs⟩
 | some p =>
  obtain⟨g,want⟩:=p
  rw[hg]at hx
  simp only[QdV]at hx⊢
  split at hx
  ·rename_i b hb
   rw[hb]
   have run:A.holds (opR A call i s.op T h n k)->b=want->∃v h1 n',A.holds (k v h1 n')/\∃b',wantedA (.bool b) want=some b'/\if b'=true then StepX P i s.op T h v h1 (match wantedA (.bool b) want with|some true=>stepFP i s.op T h|_=>⟨false,[],[]⟩)else(v= .tup []/\h1=h/\(match wantedA (.bool b) want with|some true=>stepFP i s.op T h|_=>⟨false,[],[]⟩)=⟨false,[],[]⟩):=by
    grind [QhP,wantedA]
   have skip:A.holds (k (.tup []) h n)->b≠want->∃v h1 n',A.holds (k v h1 n')/\∃b',wantedA (.bool b) want=some b'/\if b'=true then StepX P i s.op T h v h1 (match wantedA (.bool b) want with|some true=>stepFP i s.op T h|_=>⟨false,[],[]⟩)else(v= .tup []/\h1=h/\(match wantedA (.bool b) want with|some true=>stepFP i s.op T h|_=>⟨false,[],[]⟩)=⟨false,[],[]⟩):=by
    grind [wantedA]
   simp only[Qaq]at hx
   grind
  ·grind [wantedA]
  ·exact absurd hx hA.bad
end
def ownArg:List AV->Option (Nat×Nat)
 |[]=>none
 | .sl b g _ _ _::_=>some (b,g)
 |_::xs=>ownArg xs
def newR (A:Ans α) (call:CallerA α) (f:Nat) (args asg:List AV) (same:Bool) (R:List Nat) (i:Nat) (h:Heap) (n:Nat) (k:AV->Heap->Nat->FP->α):α:=
 ifB (noRefs asg) (call .new f asg h n fun v h' _ => (match v with
  | .sl b g off len sz=>getR h' b fun o=>(match o with
   | some (.cells g' cs) => ifB (Nat.beq g' g && Nat.ble off cs.length && Nat.ble (Nat.succ i) lim) (dropR cs off fun ys => ifB (flatVs ys || (noRefs ys && same)) (getR h i fun o => (match o with
     |none=>putBR A h i (.cells 0 ys) fun h1=>k (.sl i 0 0 len sz) h1 n ⟨false,i::R,[i]⟩
     |some _=>A.bad)) A.bad) A.bad
   |_=>A.bad)
  |v=>runR A (frzH 6 v) h' fun v _=>ifB (noRef v&&(flatV v||same)) (fAV v fun v=>k v h n ⟨false,R,[]⟩) A.bad)) A.bad
mutual
def refsV:AV->List Nat->List Nat
 | .ptr b _ _,acc=>b::acc
 | .sl b _ _ _ _,acc=>b::acc
 | .map b _,acc=>b::acc
 | .yld b _,acc=>b::acc
 | .agg cs,acc| .tup cs,acc| .fptr cs,acc| .fsl cs _ _,acc=>refsL cs acc
 | .fmap ks vs,acc=>refsL ks (refsL vs acc)
 | .fn _ x y,acc=>refsL x (refsL y acc)
 | .ifc _ v,acc=>refsV v acc
 | .typed _ _ v,acc=>refsV v acc
 |_,acc=>acc
termination_by structural x=>x
def refsL:List AV->List Nat->List Nat
 |[],acc=>acc
 |x::xs,acc=>refsV x (refsL xs acc)
termination_by structural x=>x
end
def refsE:List (AV×AV)->List Nat->List Nat
 |[],acc=>acc
 |p::r,acc=>refsV p.1 (refsV p.2 (refsE r acc))
def refsB (o:Option Blk) (acc:List Nat):List Nat:=
 match o with
 |some (.cells _ cs)=>refsL cs acc
 |some (.map _ es)=>refsE es acc
 |_=>acc
def fNats (l:List Nat) (k:List Nat->α):α:=
 @List.rec Nat (fun _=>(List Nat->α)->α) (fun k=>k []) (fun x _ ih k=>fNat x fun x=>ih fun l=>k (x::l)) l k
theorem QfR (l:List Nat) (k:List Nat->α):fNats l k=k l:=by
 induction l generalizing k with
 |nil=>rfl
 |cons x r ih=>
  show fNat x (fun x=>fNats r fun l=>k (x::l))=_
  rw[Qa4,ih]
def closR (h:Heap) (d:Nat) (todo acc:List Nat) (k:List Nat->α):α:=
 @Nat.rec (fun _ => List Nat -> List Nat -> α) (fun _ acc => k acc) (fun _ ih todo acc => match todo with
  |[]=>k acc
  |b::todo=>ifB (hasB acc b) (ih todo acc) (getR h b fun o=>fNats (refsB o todo) fun todo=>ih todo (b::acc))) d todo acc
theorem QfS (h:Heap):∀(d:Nat) (todo acc:List Nat) (k:List Nat->α),∃B,closR h d todo acc k=k B
 |0,todo,acc,k=>⟨acc,rfl⟩
 |d+1,[],acc,k=>⟨acc,rfl⟩
 | d + 1, b :: todo, acc, k => by
  have e:closR h (d+1) (b::todo) acc k=ifB (hasB acc b) (closR h d todo acc k) (getR h b fun o=>fNats (refsB o todo) fun todo=>closR h d todo (b::acc) k):=rfl
  rw[e,Qaq]
  split
  ·exact QfS h d todo acc k
  ·rw [Qbf, QfR]
   exact QfS h d _ _ k
def domK (t:Heap) (m o:Nat) (acc:List Nat) (k:List Nat->α):α:=
 @Tr.rec Blk (fun _ => Nat -> Nat -> List Nat -> (List Nat -> α) -> α) (fun _ _ acc k => k acc) (fun _ v _ il ir m o acc k =>
  fNat (Nat.mul 2 m) fun m2=>fNat (Nat.add m o) fun o1=>fNat (Nat.add m2 o) fun o2=>(match v with
   |some _=>il m2 o1 (o::acc) fun acc=>ir m2 o2 acc k
   |none=>il m2 o1 acc fun acc=>ir m2 o2 acc k)) t m o acc k
def domL:Heap->Nat->Nat->List Nat->List Nat
 | .e,_,_,acc=>acc
 | .n l v r,m,o,acc=>domL r (2*m) (2*m+o) (domL l (2*m) (m+o) (match v with|some _=>o::acc|none=>acc))
theorem QgS:∀(t:Heap) (m o:Nat) (acc:List Nat) (k:List Nat->α),domK t m o acc k=k (domL t m o acc)
 | .e,m,o,acc,k=>rfl
 | .n l v r, m, o, acc, k => by
  have e:domK (.n l v r) m o acc k=fNat (Nat.mul 2 m) fun m2=>fNat (Nat.add m o) fun o1=>fNat (Nat.add m2 o) fun o2=>(match v with
   |some _=>domK l m2 o1 (o::acc) fun acc=>domK r m2 o2 acc k
   |none=>domK l m2 o1 acc fun acc=>domK r m2 o2 acc k):=rfl
  rw[e]
  simp only[Qa4]
  cases v<;>simp only[QgS l,QgS r,domL]<;>rfl
theorem Qdr:∀(t:Heap) (m o:Nat) {acc:List Nat} {b:Nat},b∈acc->b∈domL t m o acc
 | .e,_,_,_,_,h=>h
 | .n l v r,m,o,acc,b,h=>by
  simp only[domL]
  refine Qdr r _ _ (Qdr l _ _ ?_)
  grind
theorem QfT:∀(t:Heap) (m o:Nat) (acc:List Nat) (j:Nat),t.get j≠none->m*j+o∈domL t m o acc
 | .e,_,_,_,j,h=>absurd (by simp[Tr.get]) h
 | .n l v r, m, o, acc, j, h => by
  rw[Tr.get_n]at h
  simp only[domL]
  by_cases h0:j=0
  ·subst h0
   rw[if_pos rfl]at h
   refine Qdr r _ _ (Qdr l _ _ ?_)
   grind
  ·rw [if_neg h0] at h
   by_cases h1:j % 2=1
   ·rw [if_pos h1] at h
    refine Qdr r _ _ ?_
    have:=QfT l (2*m) (m+o) (match v with|some _=>o::acc|none=>acc) (j/2) h
    have e:2*m*(j/2)+(m+o)=m*j+o:=by
     have:j=2*(j/2)+1:=by omega
     grind
    simp_all
   ·rw [if_neg h1] at h
    have:=QfT r (2*m) (2*m+o) (domL l (2*m) (m+o) (match v with|some _=>o::acc|none=>acc)) (j/2-1) h
    have e:2*m*(j/2-1)+(2*m+o)=m*j+o:=by
     have:j=2*(j/2-1)+2:=by omega
     grind
    simp_all
def overR (A:Ans α) (k1 h:Heap) (D:List Nat) (k:Heap->α):α:=
 @List.rec Nat (fun _ => Heap -> α) (fun h => k h) (fun b _ ih h => getR k1 b fun o => (match o with
  |some x=>putBR A h b x fun h=>ih h
  |none=>ih h)) D h
theorem Qee {A:Ans α} {k1:Heap}:∀{D:List Nat} {h:Heap} {k:Heap->α},(∀b∈D,b<lim)->overR A k1 h D k=k (over k1 h D)
 |[],h,k,_=>rfl
 | b :: D, h, k, hD => by
  have e:overR A k1 h (b::D) k=getR k1 b fun o=>(match o with
   |some x=>putBR A h b x fun h=>overR A k1 h D k
   |none=>overR A k1 h D k):=rfl
  rw[e,Qbf]
  simp only[over]
  cases k1.get b with
  |none=>exact Qee fun b hb=>hD b (by simp[hb])
  |some x=>
   simp only
   rw[Qbo,if_pos (hD b (by simp))]
   exact Qee fun b hb=>hD b (by simp[hb])
def frR (A:Ans α) (call:CallerA α) (f:Nat) (asg:List AV) (h:Heap) (n:Nat) (k:AV->Heap->Nat->FP->α):α:=
 fNats (refsL asg []) fun todo=>closR h 100000 todo [] fun B=>ifB (allLim B&&inBs B asg&&B.all fun b=>blkIn B (h.get b)) (overR A h .e B fun hB=>call (.fr hB) f asg h n fun v k1 n2=>
  domK k1 1 0 [] fun D=>ifB (allLim D&&(D.all fun b=>hasB B b||(h.get b).isNone)&&(B.all fun b=>hasB D b)&&D.all fun b=>(k1.get b).isSome) (overR A k1 h D fun h1=>fNats (D.filter fun b=> !eqBlk (k1.get b) (h.get b)) fun W=>k v h1 n2 ⟨false,D,W⟩) A.bad) A.bad
def callRG (A:Ans α) (call:CallerA α) (p:Nat) (i:Nat) (x:Opd) (args:List Opd) (T:Tmps) (h:Heap) (n:Nat) (k:AV->Heap->Nat->FP->α):α:=
 evK T x fun f=>(match f with
  | .fn f first captured=>evsK T args fun asg=>fList (first++asg++captured) fun asg=>ifB (noRefs asg) (newR A call f asg asg true [] i h n k) (match p with
   |0=>frR A call f asg h n k
   |_=>runR A (mapH (frzH 4) asg) h fun bsg _=>newR A call f asg bsg false ((mapH (frzH 4) asg).fp h).1 i h n k)
  |_=>A.bad)
def operRG (A:Ans α) (call:CallerA α) (p:Nat) (i:Nat) (s:SOper) (T:Tmps) (h:Heap) (n:Nat) (k:AV->Heap->Nat->FP->α):α:=
 match p,s.op with
 | p + 1, .call .heap x args => (match s.guard with
  |none=>callRG A call p i x args T h n k
  |some (g,want)=>lkK T g fun y=>(match y with
   | .bool b=>ifB want (ifB b (callRG A call p i x args T h n k) (k (.tup []) h n ⟨false,[],[]⟩)) (ifB b (k (.tup []) h n ⟨false,[],[]⟩) (callRG A call p i x args T h n k))
   | .tup []=>k (.tup []) h n ⟨false,[],[]⟩
   |_=>A.bad))
 |_,_=>operR A call i s T h n fun v h1 n=>k v h1 n (operFP i s T h)
def FrOK (P:Program) (A:Ans α) (call:CallerA α):Prop:=∀(hB:Heap) (f:Nat) (args:List AV) (h:Heap) (n:Nat) (k:AV->Heap->Nat->α),
 A.holds (call (.fr hB) f args h n k)->∃v k1 n',A.holds (k v k1 n')/\HSpec P f args hB v k1
def NewOK (P:Program) (A:Ans α) (call:CallerA α):Prop:=∀(f:Nat) (args:List AV) (h:Heap) (n:Nat) (k:AV->Heap->Nat->α),noRefs args=true->
 A.holds (call .new f args h n k)->∃v h' n',A.holds (k v h' n')/\HSpec P f args .e v h'/\∀u hh,(frzH 6 v).run h'=some (u,hh)->noRef u=true->PSpec P f args u
section
variable {A:Ans α} (hA:A.OK) {call:CallerA α}
include hA
theorem Qgw (hnw:NewOK P A call) {f:Nat} {args asg:List AV} {same:Bool} {R:List Nat} {i:Nat} {h:Heap} {n:Nat} {k:AV->Heap->Nat->FP->α} (hs:same=true->asg=args)
  (hR:(asg=args/\R=[])\/((mapH (frzH 4) args).run h=some (asg,h)/\R=((mapH (frzH 4) args).fp h).1)) (hx:A.holds (newR A call f args asg same R i h n k)):
  ∃v h1 n' fp,A.holds (k v h1 n' fp)/\NStep P i f args h v h1 fp:=by
 unfold newR at hx
 rw[Qaq]at hx
 split at hx
 ·rename_i hn
  obtain⟨v,h',n',hk,hsp,hps⟩:=hnw _ _ _ _ _ hn hx
  have flat:∀u,A.holds (runR A (frzH 6 u) h' fun v _=>ifB (noRef v&&(flatV v||same)) (fAV v fun v=>k v h n ⟨false,R,[]⟩) A.bad)->u=v->∃v h1 n' fp,A.holds (k v h1 n' fp)/\NStep P i f args h v h1 fp:=by
   rintro u hx rfl
   rw[Qce]at hx
   split at hx
   ·rename_i v2 h2 hz
    rw[Qaq]at hx
    split at hx
    ·rename_i hc
     simp only[Bool.and_eq_true,Bool.or_eq_true]at hc
     rw[Qco]at hx
     exact⟨v2,h,n,_,hx,asg,R,hR,.inr ⟨hps _ _ hz hc.1,hc.2.imp id hs,rfl,rfl⟩⟩
    ·exact absurd hx hA.bad
   ·exact absurd hx hA.bad
  split at hk
  ·rename_i b g off len sz
   rw[Qbf]at hk
   split at hk
   ·rename_i g' cs hb
    rw[Qaq]at hk
    split at hk
    ·rename_i hc
     simp only[Bool.and_eq_true]at hc
     obtain⟨⟨c1,c2⟩,c3⟩:=hc
     have hg:g'=g:=by simpa using c1
     subst hg
     have hl:i<lim:=Nat.le_of_ble_eq_true c3
     rw[QfQ,Qaq]at hk
     split at hk
     ·rename_i hc2
      simp only[Bool.or_eq_true,Bool.and_eq_true]at hc2
      rw[Qbf]at hk
      split at hk
      ·rename_i hi
       rw[Qbo,if_pos hl]at hk
       exact⟨_,_,_,_,hk,asg,R,hR,.inl ⟨cs.drop off,len,sz,⟨hsp.1,hn,b,g',off,cs,h',rfl,Nat.le_of_ble_eq_true c2,hb,hsp⟩,hc2.imp id (fun h=>⟨h.1,hs h.2⟩),hl,hi,rfl,rfl,rfl⟩⟩
      ·exact absurd hk hA.bad
     ·exact absurd hk hA.bad
    ·exact absurd hk hA.bad
   ·exact absurd hk hA.bad
  grind
 ·exact absurd hx hA.bad
end
section
variable {A:Ans α} (hA:A.OK) {call:CallerA α}
include hA
theorem Qmr (hfr:FrOK P A call) {f:Nat} {asg:List AV} {h:Heap} {n:Nat} {k:AV->Heap->Nat->FP->α} (hx:A.holds (frR A call f asg h n k)):
  ∃v h1 n' fp,A.holds (k v h1 n' fp)/\FStep P f asg h v h1 fp:=by
 unfold frR at hx
 rw[QfR]at hx
 obtain⟨B,e⟩:=QfS (α:=α) h 100000 (refsL asg []) [] (fun B=>ifB (allLim B&&inBs B asg&&B.all fun b=>blkIn B (h.get b)) (overR A h .e B fun hB=>call (.fr hB) f asg h n fun v k1 n2=>
  domK k1 1 0 [] fun D=>ifB (allLim D&&(D.all fun b=>hasB B b||(h.get b).isNone)&&(B.all fun b=>hasB D b)&&D.all fun b=>(k1.get b).isSome) (overR A k1 h D fun h1=>fNats (D.filter fun b=> !eqBlk (k1.get b) (h.get b)) fun W=>k v h1 n2 ⟨false,D,W⟩) A.bad) A.bad)
 rw[e,Qaq]at hx
 clear e
 split at hx
 ·rename_i hc
  simp only[Bool.and_eq_true]at hc
  obtain⟨⟨c1,c2⟩,c3⟩:=hc
  rw[Qee fun b hb=>QcO c1 hb]at hx
  obtain⟨v,k1,n',hk,hs⟩:=hfr _ _ _ _ _ _ hx
  rw[QgS,Qaq]at hk
  split at hk
  ·rename_i hd
   simp only[Bool.and_eq_true]at hd
   obtain⟨⟨⟨d1,d2⟩,d3⟩,d4⟩:=hd
   rw[Qee fun b hb=>QcO d1 hb,QfR]at hk
   refine⟨v,_,n',_,hk,B,domL k1 1 0 [],_,k1,c1,d1,c2,fun b hb=>List.all_eq_true.1 c3 b hb,hs,fun b hb e=>?_,fun b hb=>?_,fun b hb=>Qcz.1 (List.all_eq_true.1 d3 b hb),fun b hb hB=>?_,fun b hb hW=>?_,fun b hb=>(List.mem_filter.1 hb).1,rfl,rfl⟩
   ·grind
   ·have := QfT k1 1 0 [] b hb
    simp_all
   ·have := List.all_eq_true.1 d2 b hb
    simp_all [Qcz]
   grind [Qnc]
  ·exact absurd hk hA.bad
 ·exact absurd hx hA.bad
end
section
variable {A:Ans α} (hA:A.OK) {call:CallerA α} (hc:CallOKA P A call) (hrn:RndOK P A call) (hgv:FrOK P A call) (hnw:NewOK P A call)
include hA hc hrn hgv hnw
theorem QeO {p:Nat} {i:Nat} {x:Opd} {args:List Opd} {T:Tmps} {h:Heap} {n:Nat} {k:AV->Heap->Nat->FP->α} (hx:A.holds (callRG A call p i x args T h n k)):
  ∃v h1 n' f,A.holds (k v h1 n' f)/\StepX P i (.call .heap x args) T h v h1 f:=by
 unfold callRG at hx
 rw[QaW]at hx
 split at hx
 ·rename_i f first captured hv
  rw[QgR,Qb7,Qaq]at hx
  have e:aop i T (.call .heap x args)=aCall .heap (ev T x) (evs T args):=rfl
  have hrun:(aop i T (.call .heap x args)).run h=some (.call .heap f (first++evs T args++captured),h):=by rw[e,hv];rfl
  have step:∀{v:AV} {h1:Heap} {fp:FP},NStep P i f (first++evs T args++captured) h v h1 fp->StepX P i (.call .heap x args) T h v h1 fp:=by
   intro v h1 fp hN
   exact⟨.call .heap f (first++evs T args++captured),h,hrun,.inr (.inr (.inl hN))⟩
  split at hx
  ·obtain ⟨v, h1, n', fp, hk, hN⟩ := Qgw hA hnw (fun _ => rfl) (.inl ⟨rfl, rfl⟩) hx
   grind
  ·split at hx
   ·obtain ⟨v, h1, n', fp, hk, hN⟩ := Qmr hA hgv hx
    exact⟨v,h1,n',fp,hk,.call .heap f (first++evs T args++captured),h,hrun,.inr (.inr (.inr hN))⟩
   ·rw [Qce] at hx
    split at hx
    ·rename_i bsg h2 hm
     have:h2=h:=HM.QlL _ (Qcb (Qde 4) _) hm
     subst this
     obtain⟨v,h1,n',fp,hk,hN⟩:=Qgw hA hnw (fun e=>by cases e) (.inr ⟨hm,rfl⟩) hx
     grind
    ·exact absurd hx hA.bad
 ·exact absurd hx hA.bad
theorem Qjg {p:Nat} {i:Nat} {s:SOper} {T:Tmps} {h:Heap} {n:Nat} {k:AV->Heap->Nat->FP->α} (hx:A.holds (operRG A call p i s T h n k)):
  ∃v h1 n' f,A.holds (k v h1 n' f)/\StepV P i s T h v h1 f:=by
 have dflt:A.holds (operR A call i s T h n fun v h1 n=>k v h1 n (operFP i s T h))->∃v h1 n' f,A.holds (k v h1 n' f)/\StepV P i s T h v h1 f:=by
  grind [Qfv]
 unfold operRG at hx
 split at hx
 ·rename_i p x args ho
  unfold StepV
  cases hg:s.guard with
  |none=>
   rw[hg]at hx
   simp only at hx⊢
   rw[ho]
   exact QeO hA hc hrn hgv hnw hx
  | some q =>
   obtain⟨g,want⟩:=q
   rw[hg]at hx
   simp only[QdV]at hx⊢
   rw[ho]
   split at hx
   ·rename_i b hb
    rw[hb]
    have run:A.holds (callRG A call p i x args T h n k)->b=want->∃v h1 n' f,A.holds (k v h1 n' f)/\∃b',wantedA (.bool b) want=some b'/\if b'=true then StepX P i (.call .heap x args) T h v h1 f else(v= .tup []/\h1=h/\f=⟨false,[],[]⟩):=by
     intro hx2 e
     obtain⟨v,h1,n',f,hk,hs⟩:=QeO hA hc hrn hgv hnw hx2
     subst e
     exact⟨v,h1,n',f,hk,true,by simp[wantedA],by simpa using hs⟩
    have skip:A.holds (k (.tup []) h n ⟨false,[],[]⟩)->b≠want->∃v h1 n' f,A.holds (k v h1 n' f)/\∃b',wantedA (.bool b) want=some b'/\if b'=true then StepX P i (.call .heap x args) T h v h1 f else(v= .tup []/\h1=h/\f=⟨false,[],[]⟩):=by
     intro hx2 e
     have e':(b==want)=false:=by simpa using e
     exact⟨.tup [],h,n,_,hx2,false,by simp[wantedA,e'],by simp⟩
    simp only[Qaq]at hx
    grind
   ·rename_i hb
    rw[hb]
    exact⟨.tup [],h,n,_,hx,false,by simp[wantedA],by simp⟩
   ·exact absurd hx hA.bad
 simp_all
end
def opsR (A:Ans α) (call:CallerA α) (ops:List FOp) (j:Nat) (T:Tmps) (h:Heap) (n:Nat) (k:Tmps->Heap->Nat->α):α:=
 @List.rec FOp (fun _ => Nat -> Tmps -> Heap -> Nat -> α) (fun _ T h n => k T h n)
  (fun s _ ih j T h n=>operR A call j s.o T h n fun v h n=>putS s.nw T s.o.dst v fun T=>fNat (Nat.succ j) fun j=>ih j T h n) ops j T h n
def pmark (ps:List (Nat×Nat)) (i:Nat):Nat:=
 ifB (ps.any fun p=>Nat.beq p.1 i&&Nat.beq p.2 999999) 2 (ifB (ps.any fun p=>Nat.beq p.1 i||Nat.beq p.2 i) 1 0)
def opsRF (A:Ans α) (call:CallerA α) (ps:List (Nat×Nat)) (ops:List FOp) (i j:Nat) (T:Tmps) (h:Heap) (n:Nat) (k:List FP->Tmps->Heap->Nat->α):α:=
 @List.rec FOp (fun _ => Nat -> Nat -> Tmps -> Heap -> Nat -> (List FP -> Tmps -> Heap -> Nat -> α) -> α) (fun _ _ T h n k => k [] T h n)
  (fun s _ ih i j T h n k=>operRG A call (pmark ps i) j s.o T h n fun v h1 n f=>putS s.nw T s.o.dst v fun T1=>fNat (Nat.succ j) fun j1=>fNat (Nat.succ i) fun i1=>ih i1 j1 T1 h1 n fun fs=>k (f::fs)) ops i j T h n k
theorem Qfw {i:Nat} {s:SOp} {T T':Tmps} {h:Heap} {v:AV} {h1:Heap} {f:FP} (e:∀j,lk T j=lk T' j) (hs:StepX P i s T h v h1 f):StepX P i s T' h v h1 f:=by
 grind [StepX,Qhd]
theorem QdK {i:Nat} {s:SOper} {T T':Tmps} {h:Heap} {v:AV} {h1:Heap} {f:FP} (e:∀j,lk T j=lk T' j) (hs:StepV P i s T h v h1 f):StepV P i s T' h v h1 f:=by
 unfold StepV at hs⊢
 split
 ·grind [Qfw]
 ·rename_i g want hg
  rw[hg]at hs
  obtain⟨b,hb,h2⟩:=hs
  refine⟨b,by simp_all,?_⟩
  split
  ·rename_i hb';rw[if_pos hb']at h2;exact Qfw e h2
  simp_all
section
variable {A:Ans α} (hA:A.OK) {call:CallerA α} (hc:CallOKA P A call) (hrn:RndOK P A call)
include hA hc hrn
theorem QcY {base:Nat} {k:Tmps->Heap->Nat->α}:∀(r:List FOp) (i:Nat) (T T0:Tmps) (h:Heap) (n:Nat),(∀j,lk T j=lk T0 j)->A.holds (opsR A call r (base+i) T h n k)->
  ∃T' T0' h' n' fs,A.holds (k T' h' n')/\(∀j,lk T' j=lk T0' j)/\RunF P base i (r.map FOp.o) fs ⟨T0,h⟩ ⟨T0',h'⟩
 |[],i,T,T0,h,n,e,hx=>⟨T,T0,h,n,[],hx,e,rfl,rfl⟩
 | s :: r, i, T, T0, h, n, e, hx => by
  have hx:A.holds (operR A call (base+i) s.o T h n fun v h n=>putS s.nw T s.o.dst v fun T=>fNat (Nat.succ (base+i)) fun j=>opsR A call r j T h n k):=hx
  obtain⟨v,h1,n1,hk,hs⟩:=Qfv hA hc hrn hx
  obtain⟨T1,hT1,e1⟩:=QhO s.nw T s.o.dst v (fun T=>fNat (Nat.succ (base+i)) fun j=>opsR A call r j T h1 n1 k)
  rw[hT1,Qa4]at hk
  have e2:∀j,lk T1 j=lk (putD T0 s.o.dst v) j:=by
   simp_all [Qbq]
  obtain⟨T',T0',h',n',fs,h2,h3,h4⟩:=QcY (base:=base) r (i+1) T1 (putD T0 s.o.dst v) h1 n1 e2 hk
  exact⟨T',T0',h',n',_::fs,h2,h3,_,fs,v,h1,rfl,QdK e hs,h4⟩
omit hc hrn in
theorem Qfx (hc:CallOKA P A call) (hrn:RndOK P A call) (hgv:FrOK P A call) (hnw:NewOK P A call) {ps:List (Nat×Nat)} {base:Nat}:∀(r:List FOp) (i:Nat) (T T0:Tmps) (h:Heap) (n:Nat) (k:List FP->Tmps->Heap->Nat->α),(∀j,lk T j=lk T0 j)->A.holds (opsRF A call ps r i (base+i) T h n k)->
  ∃T' T0' h' n' fs,A.holds (k fs T' h' n')/\(∀j,lk T' j=lk T0' j)/\RunF P base i (r.map FOp.o) fs ⟨T0,h⟩ ⟨T0',h'⟩
 |[],i,T,T0,h,n,k,e,hx=>⟨T,T0,h,n,[],hx,e,rfl,rfl⟩
 | s :: r, i, T, T0, h, n, k, e, hx => by
  have hx:A.holds (operRG A call (pmark ps i) (base+i) s.o T h n fun v h1 n f=>putS s.nw T s.o.dst v fun T1=>fNat (Nat.succ (base+i)) fun j1=>fNat (Nat.succ i) fun i1=>opsRF A call ps r i1 j1 T1 h1 n fun fs=>k (f::fs)):=hx
  obtain⟨v,h1,n1,f,hk,hs⟩:=Qjg hA hc hrn hgv hnw hx
  obtain⟨T1,hT1,e1⟩:=QhO s.nw T s.o.dst v (fun T1=>fNat (Nat.succ (base+i)) fun j1=>fNat (Nat.succ i) fun i1=>opsRF A call ps r i1 j1 T1 h1 n1 fun fs=>k (f::fs))
  rw[hT1,Qa4,Qa4]at hk
  have e2:∀j,lk T1 j=lk (putD T0 s.o.dst v) j:=by
   simp_all [Qbq]
  obtain⟨T',T0',h',n',fs,h2,h3,h4⟩:=Qfx hc hrn hgv hnw (base:=base) r (i+1) T1 (putD T0 s.o.dst v) h1 n1 _ e2 hk
  exact⟨T',T0',h',n',_::fs,h2,h3,_,fs,v,h1,rfl,QdK e hs,h4⟩
end
theorem W.regionS {N:Nat} {Q:SX->St->Prop} {A C:St} {sops:List SOper} {pairs:List (Nat×Nat)} {dead:List Nat} (base:Nat) (fs:List FP) (hr:RunF P base 0 sops fs A C)
  (hp:(pairs.all fun p=>(fs.getD p.1 ⟨false,[],[]⟩).apart (fs.getD p.2 ⟨false,[],[]⟩))=true) {L:Tmps} (hL:Sub L C.T) (hQ:Q .normal ⟨L,C.h⟩):W P N (.region sops pairs dead) Q A:=by
 have h1:=RunF.to_L (P:=P) (base:=base) (sops:=sops) sops [] fs [] A C (by simp) rfl hr
 intro code hok c a w S ro hro Q' hQ'
 cases code<;>simp only[okCode,Bool.false_eq_true]at hok
 refine QeC hok (base:=base) (fpf:=fun i=>fs.getD i ⟨false,[],[]⟩) (by simpa[List.range_eq_range']using h1) ?_ S fun c' a' w' S' E'=>hQ' .normal _ c' a' w' hQ ?_ E'
 ·simp_all
 ·refine ⟨S'.heap, fun i => ?_, S'.size, S'.defers⟩
  rcases hL i with e|e
  ·simp_all [VRel]
  ·show VRel c' w' (lk L i) _
   rw[e];exact S'.tmps i
def argR (i:Nat) (l:List AV) (k:Tmps->α):α:=
 @List.rec AV (fun _=>Nat->(Tmps->α)->α) (fun _ k=>k []) (fun x _ ih i k=>fNat (Nat.succ i) fun j=>ih j fun r=>k ((i,x)::r)) l i k
theorem QgT (i:Nat) (l:List AV) (k:Tmps->α):argR i l k=k (argT i l):=by
 induction l generalizing i k with
 |nil=>rfl
 |cons x r ih=>
  show fNat (Nat.succ i) (fun j=>argR j r fun r=>k ((i,x)::r))=_
  rw[Qa4,ih];rfl
def resR (A:Ans α) (T:Tmps) (h:Heap) (l:List SRes) (k:List AV->α):α:=
 @List.rec SRes (fun _ => (List AV -> α) -> α) (fun k => k []) (fun x _ ih k => (match x with
  | .tmp t=>lkK T t fun v=>ih fun vs=>k (v::vs)
  | .cell a m=>lkK T a fun p=>loadR A m p h fun v=>ih fun vs=>k (v::vs))) l k
theorem QgU (A:Ans α) (T:Tmps) (h:Heap) (l:List SRes) (k:List AV->α):resR A T h l k=match resV T h l with|some vs=>k vs|none=>A.bad:=by
 have:∀(l:List SRes) (k:List AV->α),resR A T h l k=match resV T h l with|some vs=>k vs|none=>A.bad:=by
  intro l
  induction l with
  |nil=>intro k;rfl
  | cons x r ih =>
   intro k
   cases x with
   |tmp t=>
    show lkK T t (fun v=>resR A T h r fun vs=>k (v::vs))=_
    rw[QdV,ih]
    simp only[resV]
    cases resV T h r<;>rfl
   | cell a m =>
    show lkK T a (fun p=>loadR A m p h fun v=>resR A T h r fun vs=>k (v::vs))=_
    rw[QdV,Qje]
    simp only[resV]
    cases(aLoad m (lk T a)).run h with
    |none=>rfl
    |some q=>
     obtain⟨v,h'⟩:=q
     simp only
     rw[ih]
     cases resV T h r<;>rfl
 exact this l k
abbrev Orc:=Nat->Option (List AV×AV)
def bodyR (A:Ans α) (sf:FFn) (run:FCode->Tmps->Heap->Nat->KcA α->α) (args:List AV) (h:Heap) (n:Nat) (k:AV->Heap->Nat->α):α:=
 argR 0 args fun T=>run sf.body T h n fun e T h n=>(match e with
  | .exit _=>A.bad
  |_=>resR A T h sf.res fun vs=>fAV (resOf vs) fun v=>k v h n)
def upsR (T:Tmps) (ps:List Nat) (xs:List AV) (k:Tmps->α):α:=
 match ps,xs with
 |p::ps,x::xs=>upR T p x fun T=>upsR T ps xs k
 |_,_=>k T
theorem QkJ:∀(ps:List Nat) (xs:List AV) (T:Tmps) (k:Tmps->α),upsR T ps xs k=k (upsT T ps xs)
 |[],xs,T,k=>by cases xs<;>rfl
 |p::ps,[],T,k=>rfl
 |p::ps,x::xs,T,k=>by
  show upR T p x (fun T=>upsR T ps xs k)=_
  rw[QcS,QkJ ps xs];rfl
def rndR (A : Ans α) (run : FCode -> Tmps -> Heap -> Nat -> KcA α -> α) (g b : Nat) (args : List AV) (h : Heap) (n : Nat) (k : AV -> Heap -> Nat -> α) : α :=
 getR h b fun o => (match o with
  | some (.loop g' N T ps (.f asg) (.f body) .ready) => ifB (Nat.beq g' g && Nat.ble (Nat.succ b) lim && Nat.beq args.length ps.length && ps.all fun p => Nat.ble (Nat.succ p) N)
    (upsR T ps args fun T1 => run asg T1 h n fun e T2 h2 n2 => (match e with
     | .normal => getR h2 b fun o2 => (match o2 with
      |some (.loop g2 N2 T2' ps2 as2 body2 .ready)=>ifB (Nat.beq g2 g) (putBR A h2 b (.loop g N2 T2' ps2 as2 body2 .busy) fun h3=>run body T2 h3 n2 fun e T4 h4 n4=>getR h4 b fun o4=>(match o4 with
       | some (.loop g4 N4 T4' ps4 as4 body4 .busy) => ifB (Nat.beq g4 g) (match e with
         | .normal=>putBR A h4 b (.loop g N4 T4' ps4 as4 body4 .ready) fun h5=>k (.bool true) h5 n4
         |e=>putBR A h4 b (.loop g N4 T4' ps4 as4 body4 (.done e)) fun h5=>k (.bool false) h5 n4) A.bad
       |_=>A.bad)) A.bad
      |_=>A.bad)
     |_=>A.bad)) A.bad
  |_=>A.bad)
def unRoom (v:AV):AV:=match v with
 | .typed _ (_+1) (.sl b g off len sz)=> .sl b g off len sz
 |v=>v
theorem HSpec.unRoom {f:Nat} {args:List AV} {h h':Heap} {v:AV} (hs:HSpec P f args h v h'):HSpec P f args h (unRoom v) h':=by
 refine⟨hs.1,fun c w cargs H ha=>(hs.2 c w cargs H ha).mono ?_⟩
 rintro e w' ⟨cv,c',he,E,H',V⟩
 refine⟨cv,c',he,E,H',?_⟩
 unfold Go.AM.unRoom
 split
 ·simp only [VRel] at V
  simpa only[VRel]using V.2
 ·exact V
def callR (A : Ans α) (orc : Orc) (fns : Nat -> Option FFn) (run : FCode -> Tmps -> Heap -> Nat -> KcA α -> α) : CallerA α := fun cm f args h n k =>
 match cm with
 | .rnd g=>rndR A run g f args h n k
 | .new => match orc f with
  |some _=>A.bad
  |none=>match fns f with
   |none=>A.bad
   |some sf=>ifB (Nat.ble args.length sf.n) (bodyR A sf run args .e 64 k) A.bad
 | .fr hB => match orc f with
  |some _=>A.bad
  |none=>match fns f with
   |none=>A.bad
   |some sf=>ifB (Nat.ble args.length sf.n) (bodyR A sf run args hB n fun v h n=>k (unRoom v) h n) A.bad
 | .give b g xs => match orc f with
  |some _=>A.bad
  |none=>match fns f with
   |none=>A.bad
   |some sf=>ifB (Nat.ble args.length sf.n) (bodyR A sf run args (one b (.cells g xs)) n fun v h' _=>runR A (frzH 6 v) h' fun v _=>ifB (noRef v) (fAV v fun v=>k v h n) A.bad) A.bad
 | .c m => match orc f with
  |some (asg,v)=>(match m with
   | .heap=>A.bad
   |_=>A.asm args asg (k v h n))
  | none => match fns f with
   |none=>A.bad
   |some sf=>ifB (Nat.ble args.length sf.n) (match m with
    | .heap=>bodyR A sf run args h n fun v h n=>k (unRoom v) h n
    |_=>ifB (noRefs args) (bodyR A sf run args .e 64 fun v h' _=>runR A (frzH 6 v) h' fun v _=>ifB (noRef v) (fAV v fun v=>k v h n) A.bad) A.bad) A.bad
theorem W.Qjh {N:Nat} {sc:SCode} {e0:SX} {T':Tmps} {h':Heap} {A:St} (h:W P N sc (fun e B=>e=e0/\B.h=h'/\Sub T' B.T) A):W P N sc (fun e B=>e=e0/\B=⟨T',h'⟩) A:=by
 intro code hok c a w S ro hro Q' hQ
 refine h code hok c a w S ro hro Q' ?_
 rintro e B c' a' w' ⟨rfl,rfl,hs⟩ S' E'
 refine hQ e ⟨T',B.h⟩ c' a' w' ⟨rfl,rfl⟩ ⟨S'.heap,fun i=>?_,S'.size,S'.defers⟩ E'
 rcases hs i with e|e
 ·simp_all [VRel]
 ·show VRel c' w' (lk T' i) _
  rw[e];exact S'.tmps i
def ml1 (e:SX) (b1 b2:Nat) (J:Prop) (X:SX->Prop):Prop:=
 match e with
 | .normal=>J
 | .exit j=>if j=b2 then J else if j=b1 then X .normal else X (.exit j)
 | .ret=>X .ret
theorem RunF.congr {base:Nat}:∀{r:List SOper} {i:Nat} {fs:List FP} {T T':Tmps} {h:Heap} {C:St},RunF P base i r fs ⟨T,h⟩ C->(∀j,lk T j=lk T' j)->
  ∃D:St,RunF P base i r fs ⟨T',h⟩ D/\D.h=C.h/\∀j,lk C.T j=lk D.T j
 |[],i,fs,T,T',h,C,hr,e=>by
  obtain⟨rfl,rfl⟩:=hr
  exact⟨⟨T',h⟩,⟨rfl,rfl⟩,rfl,e⟩
 |s::r,i,fs,T,T',h,C,hr,e=>by
  obtain⟨f,fs',v,h1,rfl,hs,hr⟩:=hr
  obtain⟨D,hD,e1,e2⟩:=RunF.congr hr (T':=putD T' s.dst v) (fun j=>by grind [Qbq])
  exact⟨D,⟨f,fs',v,h1,rfl,QdK e hs,hD⟩,e1,e2⟩
theorem QbM {X Y:Tmps} {i:Nat} {v:AV} (h:∀j,lk X j=lk Y j):∀j,lk (up X i v) j=lk (up Y i v) j:=by
 simp_all [lk_up]
def mlEnd (A:Ans α) (it nx ok n mb mg:Nat) (T:Tmps) (h:Heap) (k:Tmps->α):α:=
 lkK T it fun p=>(match p with
  | .ptr a 0 0=>ifB (Nat.beq a n) (getR h mb fun o=>(match o with
   |some (.map g es)=>ifB (Nat.beq g mg&&Nat.beq es.length 1) (upR T nx .any fun T=>upR T ok (.bool false) fun T=>k T) A.bad
   |_=>A.bad)) A.bad
  |_=>A.bad)
theorem Qj0 {A:Ans α} (hA:A.OK) {it nx ok n mb mg:Nat} {T:Tmps} {h:Heap} {k:Tmps->α} (hx:A.holds (mlEnd A it nx ok n mb mg T h k)):
  lk T it= .ptr n 0 0/\(∃es,h.get mb=some (.map mg es)/\es.length=1)/\A.holds (k (up (up T nx .any) ok (.bool false))):=by
 unfold mlEnd at hx
 rw[QdV]at hx
 split at hx
 ·rename_i a hp
  rw[Qaq]at hx
  split at hx
  ·rename_i ha
   have:a=n:=by simpa using ha
   subst this
   rw[Qbf]at hx
   split at hx
   ·rename_i g es hg
    rw[Qaq]at hx
    split at hx
    ·simp_all [QcS]
    ·exact absurd hx hA.bad
   ·exact absurd hx hA.bad
  ·exact absurd hx hA.bad
 ·exact absurd hx hA.bad
def exR (A : Ans α) (orc : Orc) (fns : Nat -> Option FFn) (d : Nat) : FCode -> Tmps -> Heap -> Nat -> KcA α -> α :=
 @Nat.rec (fun _ => FCode -> Tmps -> Heap -> Nat -> KcA α -> α) (fun _ _ _ _ _ => A.bad) (fun _ ih c T h n k =>
  match c with
  | .skip=>k .normal T h n
  | .ret=>k .ret T h n
  | .exit i=>k (.exit i) T h n
  | .bad=>A.bad
  | .region ops [] dead=>opsR A (callR A orc fns ih) ops n T h (Nat.add n 64) fun T h n=>rmR dead T fun T=>fNat n fun n=>k .normal T h n
  | .region ops (p :: ps) dead => opsRF A (callR A orc fns ih) (p :: ps) ops 0 n T h (Nat.add n 64) fun fs T h n =>
    ifB ((p::ps).all fun p=>(fs.getD p.1 ⟨false,[],[]⟩).apart (fs.getD p.2 ⟨false,[],[]⟩)) (rmR dead T fun T=>fNat n fun n=>k .normal T h n) A.bad
  | .seq a b=>ih a T h n fun e T h n=>(match e with
   | .normal=>ih b T h n k
   |e=>k e T h n)
  | .cond x a b=>evK T x fun v=>(match v with
   | .bool t=>ifB t (ih a T h n k) (ih b T h n k)
   |_=>A.bad)
  | .block i b=>ih b T h n fun e T h n=>(match e with
   | .exit j=>ifB (Nat.beq j i) (k .normal T h n) (k (.exit j) T h n)
   |e=>k e T h n)
  | .rfunc g ps N asg body => evK T g fun v => (match v with
   | .fn f first cap => getR h n fun o => (match o with
    | none => putBR A h n (.loop 0 N T ps (.f asg) (.f body) .ready) fun h1 => fList (first ++ [.yld n 0] ++ cap) fun args => callR A orc fns ih (.c .heap) f args h1 (Nat.succ n) fun _ h2 n2 => getR h2 n fun o2 => (match o2 with
     |some (.loop 0 _ _ _ _ _ st)=>putBR A h2 n (.dead 0) fun h3=>(match st with
      | .ready=>k .normal T h3 n2
      | .busy=>A.bad
      | .done .normal=>A.bad
      | .done e=>k e T h3 n2)
     |_=>A.bad)
    |some _=>A.bad)
   |_=>A.bad)
  | .mloop pre x it nx ok en b1 b2 rest body => opsR A (callR A orc fns ih) pre n T h (Nat.add n 64) fun T h n => evK T x fun v => (match v with
   | .map mb mg => getR h mb fun o => (match o with
    | some (.map g es) => ifB (Nat.beq g mg) (getR h n fun o => (match o with
     |none=>putBR A h n (.dead 0) fun h=>upR T it (.ptr n 0 0) fun T=>upR T nx .any fun T=>(match es with
      |[]=>upR T ok (.bool false) fun T=>k .normal T h (Nat.succ n)
      | [(kk, vv)] => upR T ok (.bool true) fun T => upR T en (.tup [kk, vv]) fun T =>
        opsR A (callR A orc fns ih) rest (Nat.succ n) T h (Nat.add n 64) fun T h n2=>ih body T h n2 fun e T h n2=>(match e with
         | .normal=>mlEnd A it nx ok n mb mg T h fun T=>k .normal T h n2
         | .exit j=>ifB (Nat.beq j b2) (mlEnd A it nx ok n mb mg T h fun T=>k .normal T h n2) (ifB (Nat.beq j b1) (k .normal T h n2) (k (.exit j) T h n2))
         | .ret=>k .ret T h n2)
      |_=>A.bad)
     |some _=>A.bad)) A.bad
    |_=>A.bad)
   |_=>A.bad)
  | .loop b=>ih b T h n fun e T h n=>(match e with
   | .normal=>ih (.loop b) T h n k
   |e=>k e T h n)) d
def ExOKA (P:Program) (A:Ans α) (run:FCode->Tmps->Heap->Nat->KcA α->α):Prop:=∀(N:Nat) (c:FCode) (T:Tmps) (h:Heap) (n:Nat) (k:KcA α),A.holds (run c T h n k)->
 ∃e T' h' n',A.holds (k e T' h' n')/\WX P N c.slim (fun e' B=>e'=e/\B=⟨T',h'⟩) ⟨T,h⟩
section
variable {A:Ans α} (hA:A.OK) {orc:Orc} {fns:Nat->Option FFn}
include hA
theorem Qls {run : FCode -> Tmps -> Heap -> Nat -> KcA α -> α} (hr : ExOKA P A run) : RndOK P A (callR A orc fns run) := by
 intro g b args h n k hx
 have hx:A.holds (rndR A run g b args h n k):=hx
 unfold rndR at hx
 rw[Qbf]at hx
 split at hx
 ·rename_i g' N T ps asg body hb
  rw[Qaq]at hx
  split at hx
  ·rename_i hc
   simp only[Bool.and_eq_true]at hc
   obtain⟨⟨⟨c1,c2⟩,c3⟩,c4⟩:=hc
   have hg:g'=g:=by simpa using c1
   subst hg
   have hl:b<lim:=Nat.le_of_ble_eq_true c2
   have hlen:args.length=ps.length:=by simpa using c3
   have hps:∀p∈ps,p<N:=fun p hp=>Nat.le_of_ble_eq_true (List.all_eq_true.1 c4 p hp)
   rw[QkJ]at hx
   obtain⟨e,T2,h2,n2,hk,hw,_⟩:=hr N _ _ _ _ _ hx
   cases e with
   |exit j=>exact absurd hk hA.bad
   |ret=>exact absurd hk hA.bad
   | normal =>
    simp only[Qbf]at hk
    split at hk
    ·rename_i g2 N2 T2' ps2 as2 body2 hb2
     rw[Qaq]at hk
     split at hk
     ·rename_i hg2
      have hg2:g2=g':=by simpa using hg2
      subst hg2
      rw[Qbo,if_pos hl]at hk
      obtain⟨e,T4,h4,n4,hk,hw2,_⟩:=hr N _ _ _ _ _ hk
      split at hk
      ·rename_i g4 N4 T4' ps4 as4 body4 hb4
       rw[Qaq]at hk
       split at hk
       ·rename_i hg4
        have hg4:g4=g2:=by simpa using hg4
        subst hg4
        have fin:∀e',e'=e->RSpec P b g4 args h (.bool e'.isNormal) (h4.set b (.loop g4 N4 T4' ps4 as4 body4 (stOf e'))):=by
         rintro e' rfl
         refine RSpec.of_W hb hl hlen hps (hw.mono ?_)
         rintro e0 B ⟨rfl,rfl⟩
         refine⟨rfl,N2,T2',ps2,as2,body2,hb2,hw2.mono ?_⟩
         grind
        cases e with
        |normal=>simp only[Qbo,if_pos hl]at hk;exact⟨_,_,_,hk,fin _ rfl⟩
        |exit j=>simp only[Qbo,if_pos hl]at hk;exact⟨_,_,_,hk,fin _ rfl⟩
        |ret=>simp only[Qbo,if_pos hl]at hk;exact⟨_,_,_,hk,fin _ rfl⟩
       ·exact absurd hk hA.bad
      ·exact absurd hk hA.bad
     ·exact absurd hk hA.bad
    ·exact absurd hk hA.bad
  ·exact absurd hx hA.bad
 ·exact absurd hx hA.bad
end
def OrcOK (P:Program) (orc:Orc):Prop:=∀f asg v,orc f=some (asg,v)->PSpec P f asg v
section
variable {A:Ans α} (hA:A.OK) {orc:Orc} (ho:OrcOK P orc) {fns:Nat->Option FFn} (hf:∀f sf,fns f=some sf->okFn P f sf.slim=true)
include hA ho hf
theorem Qfy {run : FCode -> Tmps -> Heap -> Nat -> KcA α -> α} (hr : ExOKA P A run) : CallOKA P A (callR A orc fns run) := by
 intro m f args h n k hx
 unfold callR at hx
 simp only at hx
 cases hor:orc f with
 | some p =>
  obtain⟨asg,v⟩:=p
  rw[hor]at hx
  simp only at hx
  have hp:=ho f asg v hor
  cases m with
  |heap=>exact absurd hx hA.bad
  |pure=>
   obtain⟨e,hk⟩:=hA.asm _ _ _ hx
   exact⟨v,h,n,hk,fun e=>(by cases e),fun _=>by simp_all⟩
  |borrow=>
   obtain⟨e,hk⟩:=hA.asm _ _ _ hx
   exact⟨v,h,n,hk,fun e=>(by cases e),fun _=>by simp_all⟩
 | none =>
  rw[hor]at hx
  simp only at hx
  cases hs:fns f with
  |none=>rw[hs]at hx;exact absurd hx hA.bad
  | some sf =>
   rw[hs]at hx
   simp only[Qaq]at hx
   have hok:=hf f sf hs
   split at hx
   ·rename_i hl
    have hl:args.length<=sf.slim.n:=Nat.le_of_ble_eq_true hl
    have body:∀(h0:Heap) (n0:Nat) (k':AV->Heap->Nat->α),A.holds (bodyR A sf run args h0 n0 k')->
      ∃e T' h' n' vs,(e= .normal\/e= .ret)/\resV T' h' sf.res=some vs/\A.holds (k' (resOf vs) h' n')/\W P sf.slim.n sf.slim.body (fun e' B=>e'=e/\B=⟨T',h'⟩) ⟨argT 0 args,h0⟩:=by
     intro h0 n0 k' hx
     unfold bodyR at hx
     rw[QgT]at hx
     obtain⟨e,T',h',n',hk,hw,_⟩:=hr sf.slim.n _ _ _ _ _ hx
     have he:e= .normal\/e= .ret:=by cases e<;>first|(exact absurd hk hA.bad)|simp
     have hk:A.holds (resR A T' h' sf.res fun vs=>fAV (resOf vs) fun v=>k' v h' n'):=by grind
     rw[QgU]at hk
     cases hv:resV T' h' sf.res with
     |none=>rw[hv]at hk;exact absurd hk hA.bad
     |some vs=>
      rw[hv]at hk
      simp only[Qco]at hk
      exact⟨e,T',h',n',vs,he,hv,hk,hw⟩
    have pureC:∀(K:AV->α),A.holds (if noRefs args=true then bodyR A sf run args .e 64 (fun v h' _=>runR A (frzH 6 v) h' fun v _=>if noRef v=true then fAV v fun v=>K v else A.bad)else A.bad)->∃v,A.holds (K v)/\PSpec P f args v:=by
     intro K hx
     split at hx
     ·rename_i ha
      obtain⟨e,T',h',n',vs,he,hv,hk,hw⟩:=body _ _ _ hx
      simp only[Qce]at hk
      split at hk
      ·rename_i v h2 hz
       split at hk
       ·rename_i hn
        rw[Qco]at hk
        refine⟨v,hk,PSpec.of_W 6 hok hl ha hn (hw.mono ?_)⟩
        rintro e' B ⟨rfl,rfl⟩
        exact⟨he,vs,hv,h2,hz⟩
       ·exact absurd hk hA.bad
      ·exact absurd hk hA.bad
     ·exact absurd hx hA.bad
    cases m with
    |heap=>
     obtain⟨e,T',h',n',vs,he,hv,hk,hw⟩:=body _ _ _ hx
     refine⟨_,h',n',hk,fun _=>HSpec.unRoom (HSpec.of_W hok hl (hw.mono ?_)),fun h=>absurd rfl h⟩
     rintro e' B ⟨rfl,rfl⟩
     exact⟨he,vs,hv,rfl,fun _=>rfl⟩
    |pure=>
     obtain⟨v,hk,hp⟩:=pureC (fun v=>k v h n) hx
     exact⟨v,h,n,hk,fun h=>(by cases h),fun _=>hp⟩
    |borrow=>
     obtain⟨v,hk,hp⟩:=pureC (fun v=>k v h n) hx
     exact⟨v,h,n,hk,fun h=>(by cases h),fun _=>hp⟩
   ·exact absurd hx hA.bad
omit ho in
theorem Qlt {run:FCode->Tmps->Heap->Nat->KcA α->α} (hr:ExOKA P A run):FrOK P A (callR A orc fns run):=by
 intro hB f args h n k hx
 unfold callR at hx
 simp only at hx
 cases hor:orc f with
 |some p=>rw[hor]at hx;exact absurd hx hA.bad
 | none =>
  rw[hor]at hx
  simp only at hx
  cases hs:fns f with
  |none=>rw[hs]at hx;exact absurd hx hA.bad
  | some sf =>
   rw[hs]at hx
   simp only[Qaq]at hx
   have hok:=hf f sf hs
   split at hx
   ·rename_i hl
    have hl:args.length<=sf.slim.n:=Nat.le_of_ble_eq_true hl
    unfold bodyR at hx
    rw[QgT]at hx
    obtain⟨e,T',h',n',hk,hw,_⟩:=hr sf.slim.n _ _ _ _ _ hx
    have he:e= .normal\/e= .ret:=by cases e<;>first|(exact absurd hk hA.bad)|simp
    have hk:A.holds (resR A T' h' sf.res fun vs=>fAV (resOf vs) fun v=>k (unRoom v) h' n'):=by grind
    rw[QgU]at hk
    cases hv:resV T' h' sf.res with
    |none=>rw[hv]at hk;exact absurd hk hA.bad
    |some vs=>
     rw[hv]at hk
     simp only[Qco]at hk
     refine⟨_,h',n',hk,HSpec.unRoom (HSpec.of_W hok hl (hw.mono ?_))⟩
     rintro e' B ⟨rfl,rfl⟩
     exact⟨he,vs,hv,rfl,fun _=>rfl⟩
   ·exact absurd hx hA.bad
omit ho in
theorem Qj1 {run:FCode->Tmps->Heap->Nat->KcA α->α} (hr:ExOKA P A run):NewOK P A (callR A orc fns run):=by
 intro f args h n k ha hx
 unfold callR at hx
 simp only at hx
 cases hor:orc f with
 |some p=>rw[hor]at hx;exact absurd hx hA.bad
 | none =>
  rw[hor]at hx
  simp only at hx
  cases hs:fns f with
  |none=>rw[hs]at hx;exact absurd hx hA.bad
  | some sf =>
   rw[hs]at hx
   simp only[Qaq]at hx
   have hok:=hf f sf hs
   split at hx
   ·rename_i hl
    have hl:args.length<=sf.slim.n:=Nat.le_of_ble_eq_true hl
    unfold bodyR at hx
    rw[QgT]at hx
    obtain⟨e,T',h',n',hk,hw,_⟩:=hr sf.slim.n _ _ _ _ _ hx
    have he:e= .normal\/e= .ret:=by cases e<;>first|(exact absurd hk hA.bad)|simp
    have hk:A.holds (resR A T' h' sf.res fun vs=>fAV (resOf vs) fun v=>k v h' n'):=by grind
    rw[QgU]at hk
    cases hv:resV T' h' sf.res with
    |none=>rw[hv]at hk;exact absurd hk hA.bad
    | some vs =>
     rw[hv]at hk
     simp only[Qco]at hk
     refine⟨_,h',n',hk,HSpec.of_W hok hl (hw.mono ?_),fun u hh hz hn=>PSpec.of_W 6 hok hl ha hn (hw.mono ?_)⟩
     ·rintro e' B ⟨rfl, rfl⟩
      exact⟨he,vs,hv,rfl,fun _=>rfl⟩
     ·rintro e' B ⟨rfl, rfl⟩
      exact⟨he,vs,hv,hh,hz⟩
   ·exact absurd hx hA.bad
theorem Qms : ∀ d, ExOKA P A (exR A orc fns d) := by
 intro d
 induction d with
 |zero=>intro N c T h n k hx;exact absurd hx hA.bad
 | succ d ih =>
  have hc:=Qfy hA ho hf ih
  have hrn:=Qls (orc:=orc) (fns:=fns) hA ih
  have hgv:=Qlt hA hf (orc:=orc) ih
  have hnw:=Qj1 hA hf (orc:=orc) ih
  intro N c T h n k hx
  cases c with
  |skip=>exact⟨_,_,_,_,hx,.of (W.skip ⟨rfl,rfl⟩) (by simp[FCode.slim])⟩
  |ret=>exact⟨_,_,_,_,hx,.of (W.ret ⟨rfl,rfl⟩) (by simp[FCode.slim])⟩
  |exit i=>exact⟨_,_,_,_,hx,.of (W.exit ⟨rfl,rfl⟩) (by simp[FCode.slim])⟩
  |bad=>exact absurd hx hA.bad
  | region ops pairs dead =>
   cases pairs with
   |nil=>
    have hx:A.holds (opsR A (callR A orc fns (exR A orc fns d)) ops (n+0) T h (Nat.add n 64) fun T h n=>rmR dead T fun T=>fNat n fun n=>k .normal T h n):=hx
    obtain⟨T',T0,h',n',fs,hk,e,hr⟩:=QcY hA hc hrn ops 0 T T h (Nat.add n 64) (fun _=>rfl) hx
    rw[Qmo,Qa4]at hk
    refine⟨_,_,_,_,hk,.of (W.regionS n fs hr (by simp) (L:=rmM dead T') ?_ ⟨rfl,rfl⟩) (by simp[FCode.slim])⟩
    intro i
    rcases QkH dead T' i with h|h
    ·exact .inl h
    ·simp_all
   | cons p ps =>
    have hx:A.holds (opsRF A (callR A orc fns (exR A orc fns d)) (p::ps) ops 0 (n+0) T h (Nat.add n 64) fun fs T h n=>
     ifB ((p::ps).all fun p=>(fs.getD p.1 ⟨false,[],[]⟩).apart (fs.getD p.2 ⟨false,[],[]⟩)) (rmR dead T fun T=>fNat n fun n=>k .normal T h n) A.bad):=hx
    obtain⟨T',T0,h',n',fs,hk,e,hr⟩:=Qfx hA hc hrn hgv hnw ops 0 T T h (Nat.add n 64) _ (fun _=>rfl) hx
    rw[Qaq]at hk
    split at hk
    ·rename_i hp
     rw[Qmo,Qa4]at hk
     refine⟨_,_,_,_,hk,.of (W.regionS n fs hr hp (L:=rmM dead T') ?_ ⟨rfl,rfl⟩) (by simp[FCode.slim])⟩
     intro i
     rcases QkH dead T' i with h|h
     ·exact .inl h
     simp_all
    ·exact absurd hk hA.bad
  | seq a b =>
   obtain⟨e,T',h',n',hk,hw,_⟩:=ih N _ _ _ _ _ hx
   cases e with
   |normal=>
    obtain⟨e2,T2,h2,n2,hk2,hw2,_⟩:=ih N _ _ _ _ _ hk
    refine⟨e2,T2,h2,n2,hk2,.of (W.seq (hw.mono ?_)) (by simp[FCode.slim])⟩
    rintro e' B ⟨rfl,rfl⟩
    exact hw2
   |exit j=>
    refine⟨_,_,_,_,hk,.of (W.seq (hw.mono ?_)) (by simp[FCode.slim])⟩
    rintro e' B ⟨rfl,rfl⟩
    exact⟨rfl,rfl⟩
   |ret=>
    refine⟨_,_,_,_,hk,.of (W.seq (hw.mono ?_)) (by simp[FCode.slim])⟩
    rintro e' B ⟨rfl,rfl⟩
    exact⟨rfl,rfl⟩
  | cond x a b =>
   have hx:A.holds (evK T x fun v=>(match v with
    | .bool t=>ifB t (exR A orc fns d a T h n k) (exR A orc fns d b T h n k)
    |_=>A.bad)):=hx
   rw[QaW]at hx
   split at hx
   ·rename_i t hb
    rw[Qaq]at hx
    cases t with
    |true=>
     obtain⟨e,T',h',n',hk,hw,_⟩:=ih N _ _ _ _ _ hx
     exact⟨e,T',h',n',hk,.of (W.cond hb (fun _=>hw) (fun h=>by cases h)) (by simp[FCode.slim])⟩
    |false=>
     obtain⟨e,T',h',n',hk,hw,_⟩:=ih N _ _ _ _ _ hx
     exact⟨e,T',h',n',hk,.of (W.cond hb (fun h=>by cases h) (fun _=>hw)) (by simp[FCode.slim])⟩
   ·exact absurd hx hA.bad
  | block i b =>
   obtain⟨e,T',h',n',hk,hw,_⟩:=ih N _ _ _ _ _ hx
   cases e with
   |normal=>
    refine⟨_,_,_,_,hk,.of (W.block (hw.mono ?_)) (by simp[FCode.slim])⟩
    rintro e' B ⟨rfl,rfl⟩
    exact⟨rfl,rfl⟩
   |ret=>
    refine⟨_,_,_,_,hk,.of (W.block (hw.mono ?_)) (by simp[FCode.slim])⟩
    rintro e' B ⟨rfl,rfl⟩
    exact⟨rfl,rfl⟩
   | exit j =>
    simp only[Qaq]at hk
    split at hk
    ·rename_i hj
     have:j=i:=by simpa using hj
     refine⟨_,_,_,_,hk,.of (W.block (hw.mono ?_)) (by simp[FCode.slim])⟩
     simp_all
    ·rename_i hj
     have:j≠i:=by simp_all
     refine⟨_,_,_,_,hk,.of (W.block (hw.mono ?_)) (by simp[FCode.slim])⟩
     simp_all
  | rfunc g ps M asg body =>
   have hx:A.holds (evK T g fun v=>(match v with
   | .fn f first cap => getR h n fun o => (match o with
    | none => putBR A h n (.loop 0 M T ps (.f asg) (.f body) .ready) fun h1 => fList (first ++ [.yld n 0] ++ cap) fun args => callR A orc fns (exR A orc fns d) (.c .heap) f args h1 (Nat.succ n) fun _ h2 n2 => getR h2 n fun o2 => (match o2 with
     |some (.loop 0 _ _ _ _ _ st)=>putBR A h2 n (.dead 0) fun h3=>(match st with
      | .ready=>k .normal T h3 n2
      | .busy=>A.bad
      | .done .normal=>A.bad
      | .done e=>k e T h3 n2)
     |_=>A.bad)
    |some _=>A.bad)
   |_=>A.bad)):=hx
   rw[QaW]at hx
   split at hx
   ·rename_i f first cap hg
    rw[Qbf]at hx
    split at hx
    ·rename_i hn
     rw[Qbo]at hx
     split at hx
     ·rename_i hl
      simp only[Qb7]at hx
      obtain⟨v,h2,n2,hk,hs,_⟩:=hc _ _ _ _ _ _ hx
      rw[Qbf]at hk
      split at hk
      ·rename_i N2 T2 ps2 as2 body2 st hst
       rw[Qbo,if_pos hl]at hk
       have key:∀(e:SX),leftQ (fun e' B=>e'=e/\B=⟨T,h2.set n (.dead 0)⟩) ⟨T,h2.set n (.dead 0)⟩ st->WX P N (FCode.rfunc g ps M asg body).slim (fun e' B=>e'=e/\B=⟨T,h2.set n (.dead 0)⟩) ⟨T,h⟩:=by
        intro e hq
        refine .of ?_ (by simp[FCode.slim])
        show W P N (.rfunc g ps M asg.slim body.slim) _ _
        by_cases hNM:M=N
        ·subst hNM
         exact W.rfunc (.f asg) (.f body) rfl rfl hg hn hl (hs rfl) hst hq
        ·intro code hok
         cases code<;>simp only[okCode,Bool.false_eq_true,Bool.and_eq_true,beq_iff_eq,Bool.not_eq_true']at hok
         omega
       split at hk
       ·exact⟨_,_,_,_,hk,key .normal ⟨rfl,rfl⟩⟩
       ·exact absurd hk hA.bad
       ·exact absurd hk hA.bad
       ·rename_i e he
        refine⟨_,_,_,_,hk,key e ⟨?_,rfl,rfl⟩⟩
        cases e<;>first|rfl|(exact absurd rfl he)
      ·exact absurd hk hA.bad
     ·exact absurd hx hA.bad
    ·exact absurd hx hA.bad
   ·exact absurd hx hA.bad
  | mloop pre x it nx ok en b1 b2 rest body =>
   have hx:A.holds (opsR A (callR A orc fns (exR A orc fns d)) pre (n+0) T h (Nat.add n 64) fun T h n=>evK T x fun v=>(match v with
   | .map mb mg => getR h mb fun o => (match o with
    | some (.map g es) => ifB (Nat.beq g mg) (getR h n fun o => (match o with
     |none=>putBR A h n (.dead 0) fun h=>upR T it (.ptr n 0 0) fun T=>upR T nx .any fun T=>(match es with
      |[]=>upR T ok (.bool false) fun T=>k .normal T h (Nat.succ n)
      | [(kk, vv)] => upR T ok (.bool true) fun T => upR T en (.tup [kk, vv]) fun T =>
        opsR A (callR A orc fns (exR A orc fns d)) rest (Nat.succ n+0) T h (Nat.add n 64) fun T h n2=>exR A orc fns d body T h n2 fun e T h n2=>(match e with
         | .normal=>mlEnd A it nx ok n mb mg T h fun T=>k .normal T h n2
         | .exit j=>ifB (Nat.beq j b2) (mlEnd A it nx ok n mb mg T h fun T=>k .normal T h n2) (ifB (Nat.beq j b1) (k .normal T h n2) (k (.exit j) T h n2))
         | .ret=>k .ret T h n2)
      |_=>A.bad)
     |some _=>A.bad)) A.bad
    |_=>A.bad)
   |_=>A.bad)):=hx
   obtain⟨T1,T0,h1,n1,fs1,hk,e1,hr1⟩:=QcY hA hc hrn pre 0 T T h (Nat.add n 64) (fun _=>rfl) hx
   rw[QaW]at hk
   have evc:∀y:Opd,ev T0 y=ev T1 y:=fun y=>(Qit fun i _=>e1 i).symm
   split at hk
   ·rename_i mb mg hxv
    rw[Qbf]at hk
    split at hk
    ·rename_i g es hg
     rw[Qaq]at hk
     split at hk
     ·rename_i hgm
      have hgm:g=mg:=by simpa using hgm
      subst hgm
      rw[Qbf]at hk
      split at hk
      ·rename_i hn
       rw[Qbo]at hk
       split at hk
       ·rename_i hl
        rw[QcS,QcS]at hk
        have hmb:(h1.set n1 (.dead 0)).get mb=some (.map g es):=by
         rw[Tr.QaF _ hl,if_neg (by grind)];exact hg
        have hit:∀j,lk (up T0 it (.ptr n1 0 0)) j=lk (up T1 it (.ptr n1 0 0)) j:=QbM fun j=>(e1 j).symm
        split at hk
        ·-- nothing in it
         rw[QcS]at hk
         refine⟨_,_,_,_,hk,.of (W.Qjh (W.mloop n fs1 hr1 (by rw[evc,hxv]) hg hn hl (fun vis B=>vis=[]/\B.h=h1.set n1 (.dead 0)/\∀j,lk B.T j=lk (up T1 it (.ptr n1 0 0)) j) ?_ ?_ ?_ ?_)) (by simp[FCode.slim])⟩
         ·rintro vis B ⟨rfl, hB, hT⟩
          refine⟨by rw[hT,lk_up,if_pos rfl],[],by simp_all,rfl⟩
         ·simp_all
         ·simp_all
         ·rintro vis B ⟨rfl, hB, hT⟩ _
          exact⟨rfl,hB,.of_eq fun i=>(QbM (QbM hT) i).symm⟩
        ·-- one entry
         rename_i kk vv
         rw[QcS,QcS]at hk
         obtain⟨T2,T20,h2,n2,fs2,hk2,e2,hr2⟩:=QcY hA hc hrn rest 0 _ (up (up (up (up T1 it (.ptr n1 0 0)) nx .any) ok (.bool true)) en (.tup [kk,vv])) _ _ (fun _=>rfl) hk
         obtain⟨e,T3,h3,n3,hk3,hw3,_⟩:=ih N _ _ _ _ _ hk2
         have walk:∀(Qb:SX->St->Prop) (BT:Tmps),(∀j,lk BT j=lk (up T1 it (.ptr n1 0 0)) j)->Qb e ⟨T3,h3⟩->
           ∃bs fs C,RunF P bs 0 (rest.map FOp.o) fs ⟨up (up (up BT nx .any) ok (.bool true)) en (.tup [kk,vv]),h1.set n1 (.dead 0)⟩ C/\W P N body.slim Qb C:=by
          intro Qb BT hBT hq
          obtain⟨D,hD,d1,d2⟩:=hr2.congr (T':=up (up (up BT nx .any) ok (.bool true)) en (.tup [kk,vv])) (QbM (QbM (QbM fun j=>(hBT j).symm)))
          refine⟨_,fs2,D,hD,W.congr (hw3.mono ?_) ⟨fun j=>?_,fun b=>?_⟩⟩
          ·simp_all
          ·simp_all
          ·rw[d1]
         have main:∀(e0:SX) (T4:Tmps) (h4:Heap) (J:List Nat->St->Prop),
           (∀vis B,J vis B->vis=[0]/\lk B.T it= .ptr n1 0 0/\(∃es',B.h.get mb=some (.map g es')/\es'.length=1))->
           ml1 e b1 b2 (J [0] ⟨T3,h3⟩) (fun x=>x=e0/\h3=h4/\Sub T4 T3)->
           (∀vis B,J vis B->SX.normal=e0/\B.h=h4/\Sub T4 (up (up B.T nx .any) ok (.bool false)))->
           W P N (FCode.mloop pre x it nx ok en b1 b2 rest body).slim (fun e' B=>e'=e0/\B=⟨T4,h4⟩) ⟨T,h⟩:=by
          intro e0 T4 h4 J hJ hround hdone
          refine W.Qjh (W.mloop n fs1 hr1 (by rw[evc,hxv]) hg hn hl (fun vis B=>(vis=[]/\B.h=h1.set n1 (.dead 0)/\∀j,lk B.T j=lk (up T1 it (.ptr n1 0 0)) j)\/J vis B) ?_ ?_ ?_ ?_)
          ·rintro vis B (⟨rfl, hB, hT⟩ | hB)
           ·exact⟨by rw[hT,lk_up,if_pos rfl],_,by simp_all,rfl⟩
           grind
          ·simp_all
          ·rintro vis B i k' v' es' hB hni hm' hi
           have hi0:i=0:=by
            grind
           subst hi0
           rcases hB with⟨rfl,hB,hT⟩|hB
           ·rw [hB, hmb] at hm'
            cases hm'
            simp only[List.getElem?_cons_zero,Option.some.injEq,Prod.mk.injEq]at hi
            obtain⟨rfl,rfl⟩:=hi
            rw[hB]
            refine walk _ B.T hT ?_
            grind [ml1]
           grind
          ·rintro vis B (⟨rfl, hB, hT⟩ | hB) hall
           ·simp_all
           grind
         have fin:A.holds (mlEnd A it nx ok n1 mb g T3 h3 fun T=>k .normal T h3 n3)->(∀(J:Prop) (X:SX->Prop),J->ml1 e b1 b2 J X)->
           ∃e T' h' n',A.holds (k e T' h' n')/\WX P N (FCode.mloop pre x it nx ok en b1 b2 rest body).slim (fun e' B=>e'=e/\B=⟨T',h'⟩) ⟨T,h⟩:=by
          intro hend hm
          obtain⟨h5,⟨es',h6,h7⟩,h8⟩:=Qj0 hA hend
          refine⟨_,_,_,_,h8,.of (main .normal _ h3 (fun vis B=>vis=[0]/\B=⟨T3,h3⟩) ?_ (hm _ _ ⟨rfl,rfl⟩) ?_) (by simp[FCode.slim])⟩
          ·simp_all
          ·rintro vis B ⟨rfl,rfl⟩;exact⟨rfl,rfl,.of_eq fun _=>rfl⟩
         cases e with
         |normal=>exact fin hk3 (fun J X hJ=>hJ)
         |ret=>
          exact⟨_,_,_,_,hk3,.of (main .ret T3 h3 (fun _ _=>False) (fun _ _ h=>h.elim) ⟨rfl,rfl,.of_eq fun _=>rfl⟩ (fun _ _ h=>h.elim)) (by simp[FCode.slim])⟩
         | exit j =>
          simp only[Qaq]at hk3
          split at hk3
          ·rename_i hj
           have hj:j=b2:=by simpa using hj
           exact fin hk3 (fun J X hJ=>by show(if j=b2 then J else _);simp_all)
          ·rename_i hj
           have hj:j≠b2:=by simp_all
           split at hk3
           ·rename_i hj1
            have hj1:j=b1:=by simpa using hj1
            exact⟨_,_,_,_,hk3,.of (main .normal T3 h3 (fun _ _=>False) (fun _ _ h=>h.elim) (by show(if j=b2 then _ else if j=b1 then _ else _);rw[if_neg hj,if_pos hj1];exact⟨rfl,rfl,.of_eq fun _=>rfl⟩) (fun _ _ h=>h.elim)) (by simp[FCode.slim])⟩
           ·rename_i hj1
            have hj1:j≠b1:=by simp_all
            exact⟨_,_,_,_,hk3,.of (main (.exit j) T3 h3 (fun _ _=>False) (fun _ _ h=>h.elim) (by show(if j=b2 then _ else if j=b1 then _ else _);rw[if_neg hj,if_neg hj1];exact⟨rfl,rfl,.of_eq fun _=>rfl⟩) (fun _ _ h=>h.elim)) (by simp[FCode.slim])⟩
        ·exact absurd hk hA.bad
       ·exact absurd hk hA.bad
      ·exact absurd hk hA.bad
     ·exact absurd hk hA.bad
    ·exact absurd hk hA.bad
   ·exact absurd hk hA.bad
  | loop b =>
   have key:∃e T' h' n',A.holds (k e T' h' n')/\WL P N b.slim (fun e' B=>e'=e/\B=⟨T',h'⟩) ⟨T,h⟩:=by
    obtain⟨e,T',h',n',hk,hw,_⟩:=ih N _ _ _ _ _ hx
    cases e with
    |normal=>
     obtain⟨e2,T2,h2,n2,hk2,_,hw2⟩:=ih N _ _ _ _ _ hk
     refine⟨e2,T2,h2,n2,hk2,WL.round (hw.mono ?_)⟩
     rintro e' B ⟨rfl,rfl⟩
     exact hw2 _ rfl
    |exit j=>
     refine⟨_,_,_,_,hk,WL.round (hw.mono ?_)⟩
     rintro e' B ⟨rfl,rfl⟩
     exact⟨rfl,rfl⟩
    |ret=>
     refine⟨_,_,_,_,hk,WL.round (hw.mono ?_)⟩
     rintro e' B ⟨rfl,rfl⟩
     exact⟨rfl,rfl⟩
   obtain⟨e,T',h',n',hk,hw⟩:=key
   exact⟨e,T',h',n',hk,hw.loop,fun b' e=>by cases e;exact hw⟩
end
inductive FT2 where
 |z
 |l (k:Nat) (s:FFn)
 |n (k:Nat) (a b:FT2)
def FT2.get (t:FT2) (i:Nat):Option FFn:=
 @FT2.rec (fun _=>Option FFn) none (fun k s=>ifB (Nat.beq i k) (some s) none) (fun k _ _ a b=>ifB (Nat.ble (Nat.succ i) k) a b) t
def FT2.OK (P:Program):FT2->Prop
 | .z=>True
 | .l k s=>okFn P k s.slim=true
 | .n _ a b=>a.OK P/\b.OK P
theorem FT2.ok:∀{t:FT2},t.OK P->∀f sf,t.get f=some sf->okFn P f sf.slim=true
 | .z,_,f,sf,h=>by cases h
 | .l k s, ho, f, sf, h => by
  have h2:ifB (Nat.beq f k) (some s) none=some sf:=h
  rw[Qaq]at h2
  split at h2
  ·rename_i e
   have e:f=k:=by simpa using e
   have h3:s=sf:=by simpa using h2
   rw[e,<-h3]
   exact ho
  ·cases h2
 | .n k a b,ho,f,sf,h=>by
  have h:ifB (Nat.ble (Nat.succ f) k) (a.get f) (b.get f)=some sf:=h
  rw[Qaq]at h
  split at h
  ·exact FT2.ok ho.1 f sf h
  ·exact FT2.ok ho.2 f sf h
def noOrc:Orc:=fun _=>none
theorem Qds:OrcOK P noOrc:=fun f asg v h=>by cases h
theorem QbJ {t:FT2} (ht:t.OK P) {orc:Orc} (ho:OrcOK P orc) {d f:Nat} {args:List AV} {v:AV} (k:AV->Bool) (hk:∀u,k u=true->u=v)
  (hx:callR ansB orc t.get (exR ansB orc t.get d) (.c .pure) f args .e 64 (fun u _ _=>k u)=true):PSpec P f args v:=by
 obtain⟨u,h',n',h1,_,h2⟩:=Qfy QkG ho (FT2.ok ht) (Qms QkG ho (FT2.ok ht) d) _ _ _ _ _ _ hx
 have:=hk _ h1
 simp_all
end
end Go.AM
namespace Go.AM
variable {P:Program}
end Go.AM
namespace Go.AM
abbrev Za (a:List Nat) (n:Nat):List Nat:=a++List.range n
abbrev Zz (d:Nat) (o:SOp) (a:List Nat):SOper:=⟨some d,o,a,none⟩
abbrev Zm (d x:Nat) (a:List Nat):SOper:=⟨some d,.mov (.t x),a,none⟩
abbrev Zl (d x:Nat) (a:List Nat):SOper:=⟨some d,.load none (.t x),a,none⟩
abbrev Zw (d n x:Nat) (a:List Nat):SOper:=⟨some d,.load (some n) (.t x),a,none⟩
abbrev Zf (d k x:Nat) (a:List Nat):SOper:=⟨some d,.faddr k (.t x),a,none⟩
abbrev Zv (d x:Nat) (a:List Nat):SOper:=⟨some d,.len 1 (.t x),a,none⟩
abbrev Zs (n x y:Nat) (a:List Nat):SOper:=⟨none,.store n (.t x) (.t y),a,none⟩
abbrev Zi (d n x y:Nat) (a:List Nat):SOper:=⟨some d,.iaddr none n (.t x) (.t y),a,none⟩
abbrev Zb (d:Nat) (o:BinOp) (x y:Nat) (a:List Nat):SOper:=⟨some d,.bin o (.t x) (.t y),a,none⟩
end Go.AM
namespace Go.AM.YA
open Go
def bt (d:Nat):Nat:=Nat.shiftLeft 1 d
def mn (a b:Nat):Nat:=Nat.xor a (Nat.land a b)
def msk (l:List Nat):Nat:=l.foldl (fun m d=>Nat.lor m (bt d)) 0
def om {α β:Type} (f:α->Option β):List α->Option (List β)
 |[]=>some []
 |x::r=>match f x,om f r with
  |some y,some ys=>some (y::ys)
  |_,_=>none
def omap {α β:Type} (f:α->Option β):Option α->Option (Option β)
 |none=>some none
 |some x=>(f x).map some
@[irreducible] def u8 (n:Nat):UInt8:=UInt8.ofNat n
theorem u8e (n:Nat):u8 n=UInt8.ofNat n:=by unfold u8;rfl
def avV:Nat->Value->Option AV
 |0,_=>none
 |n+1,v=>match v with
  | .bool b=>some (.bool b)
  | .int k n=>some (.int k n)
  | .string s=>some (.str (s.data.toList.map fun b=>u8 b.toNat))
  | .pointer none=>some .nilptr
  | .slice none 0 0=>some .nilsl
  | .map none=>some .nilmap
  | .nilFunc=>some .nilfn
  | .nilIface=>some .nilif
  | .agg cs=>(om (avV n) cs.toList).map .agg
  | .tuple cs=>(om (avV n) cs.toList).map .tup
  |_=>some .any
def opd:Operand->Option Opd
 | .tmp t=>some (.t t)
 | .const v=>(avV 5 v).map .c
 | .global g=>some (.g g)
 | .func f=>some (.f f)
def opds (l:Array Operand):Option (List Opd):=om opd l.toList
structure Cf where
 most:CallM:= .heap
 always:List (Nat×CallM):=[]
 modes:List (Nat×CallM):=[]
 value:CallM:= .heap
 eqn:Bool:=true
 lends:List Nat:=[]
 roomy:Bool:=false
section
variable (P:Program) (C:Cf)
def rowN (t:TypeId):Option (Option Nat):=
 match P.underlying t,P.info? t with
 |some (.struct _),some i=>some (some i.size)
 |some (.array _ _),some i=>some (some i.size)
 |some _,some _=>some none
 |_,_=>none
def zav (t:TypeId):Option AV:=(zeroOf P t).bind (avV 5)
def flk:Nat->TypeId->Option (List LK)
 |0,_=>none
 |d+1,t=>match P.underlying t with
  |some .bool=>some [.b]
  |some (.int _)=>some [.i]
  |some .string=>some [.s]
  |some (.struct fs)=>(om (fun f=>flk d f.type) fs.toList).map List.flatten
  |some (.array n e)=>(flk d e).map fun k=>(List.replicate n k).flatten
  |_=>none
def elemI (t:TypeId):Option (Nat×Nat×AV):=
 match P.underlying t with
 |some (.slice e)=>match P.info? e,zav P e with
  |some i,some z=>some (i.size,i.bytes,z)
  |_,_=>none
 |_=>none
def mapI (t:TypeId):Option (Bool×List LK×AV):=
 match P.underlying t with
 |some (.map kt et)=>match flk P 9 kt,zav P et with
  |some ks,some z=>some (rowB P kt,ks,z)
  |_,_=>none
 |_=>none
def size (t:TypeId):Option Nat:=(P.info? t).map (·.size)
def eqo (t:TypeId) (neg:Bool) (x y:Operand) (a b:Opd):Option SOp:=
 let nl:=some (SOp.eq (.nil (kindT P t)) neg a b)
 match P.underlying t with
 |some (.int _)|some .string=>some (.bin (cond neg .neq .eql) a b)
 |some .bool=>some (.eq (.flat false [.b]) neg a b)
 |some (.struct _)|some (.array _ _)=>(flk P 9 t).map fun k=> .eq (.flat true k) neg a b
 |some (.slice _)=>match C.eqn,y with
  |true,.const _=>some (.eqn neg a)
  |_,_=>nl
 |some (.pointer _)=>match x,y with
  | .const _,_=>nl
  |_,.const _=>nl
  |_,_=>some (.eqp neg a b)
 |_=>nl
def bld (t:TypeId):Bool:=
 match P.underlying t with
 | some (.struct fs) => match fs.toList with
  |[f,_]=>match P.underlying f.type with
   |some (.pointer u)=>u==t
   |_=>false
  |_=>false
 |_=>false
def ext (f:Operand):Option (Nat×Nat):=
 match f with
 | .func g=>(P.funcs[g]?).bind fun fn=>match fn.body with
  |none=>cond (fn.name== "math/bits.Add64") (some (0,g)) (cond (fn.name== "math/bits.Sub64") (some (1,g)) (cond (fn.name== "internal/abi.NoEscape") (some (2,g)) none))
  |_=>none
 |_=>none
def call (B : Bool) (c : Call) : Option SOp :=
 match opds c.args with
 |none=>none
 | some asx => match c.callee, asx, c.argTypes.toList with
  | .value f,_,_=>match ext P f with
   |some (k,g)=>some (.ext k g asx)
   |none=>(opd f).map fun x=> .call .heap x asx
  | .builtin .len,[y],[t]=>match P.underlying t with
   |some .string=>some (.len 0 y)
   |some (.slice _)=>some (.len 1 y)
   |some (.map _ _)=>some (.len 2 y)
   |_=>none
  | .builtin .append, [x, y], [t, t2] => match elemI P t, P.underlying t2 with
   |some (sz,by',z),some (.int _)=>some (.appendZ .dyn sz by' z.cells x y)
   |some (sz,by',_),_=>match B,P.underlying t with
    |true,some (.slice e)=>some (.appendT e .dyn sz by' x y)
    |_,_=>some (.append .dyn sz by' x y)
   |_,_=>none
  | .builtin .copy,[x,y],t::_=>(elemI P t).map fun q=> .copy q.1 x y
  | .builtin .cap,[y],_=>some (.cap y)
  | .builtin .clear,[x],[t]=>(elemI P t).map fun(sz,by',z)=> .clear sz by' z.cells x
  | .builtin .unsafeSliceData,[y],_=>some (.usd y)
  | .builtin .unsafeString,[x,n],[t,_]=>match P.underlying t with
   |some (.pointer e)=>some (.ustr e x n)
   |_=>none
  | .builtin .max,_,_=>some (.maxmin false asx)
  | .builtin .min,_,_=>some (.maxmin true asx)
  |_,_,_=>none
def rows (l:List (Nat×Operand)) (f:Nat->Option (Nat×Nat)):Option (List (Nat×Nat×Opd)):=
 om (fun(i,x)=>match f i,opd x with
  |some (o,s),some y=>some (o,s,y)
  |_,_=>none) l
def op (B:Bool) (o:Op):Option SOp:=
 match o with
 | .move x| .assign x=>(opd x).map .mov
 | .pick c a b=>match opd c,opd a,opd b with
  |some c,some a,some b=>some (.pick c a b)
  |_,_,_=>none
 | .alloc t=>(zav P t).map fun z=>cond (bld P t) (.allocT t .dyn z) (.alloc .dyn z)
 | .box _ x=>(opd x).map (.box .dyn)
 | .build t parts=>match (zeroOf P t).bind (fun z=>om (avV 5) z.cells.toList),rows parts.toList (placeOf P t)with
  |some z,some ps=>some (.build z ps)
  |_,_=>none
 | .buildSlice t n parts => match P.underlying t with
  |some (.slice e)=>(P.info? e).bind fun i=>i.zero.bind fun z=>match om (avV 5) z.cells.toList,rows parts.toList (fun k=>some (Nat.mul k i.size,i.size))with
   |some zs,some ps=>some (.bslice false .dyn i.size n (List.replicate n zs).flatten ps)
   |_,_=>none
  |_=>none
 | .load t x=>match rowN P t,opd x with
  |some n,some x=>some (.load n x)
  |_,_=>none
 | .store t x v=>match size P t,opd x,opd v with
  |some n,some x,some v=>some (.store n x v)
  |_,_,_=>none
 | .nilCheck x=>(opd x).map .nilchk
 | .binOp b t x y _ => match opd x, opd y with
  |some a,some c=>match b with
   | .eql=>eqo P C t false x y a c
   | .neq=>eqo P C t true x y a c
   |_=>some (.bin b a c)
  |_,_=>none
 | .unOp b _ x=>(opd x).map (.un b)
 | .convert s d x => (opd x).bind fun x => match P.underlying s, P.underlying d with
  |some (.int _),some (.int k)=>some (.conv k x)
  |some .string,some .string=>some (.convS x)
  |some (.int _),some .string=>some (.convS x)
  |some (.slice e),some .string=>match P.underlying e with
   |some (.int .u8)=>some (.convB x)
   |_=>none
  |some (.pointer t),some .unsafePointer=>(size P t).map fun n=> .convP t n x
  |some .unsafePointer,some (.pointer t)=>(size P t).map fun n=> .convP t n x
  |_,_=>none
 | .makeFunc (.func f) a b=>match opds a,opds b with
  |some a,some b=>some (.mkfn f a b)
  |_,_=>none
 | .makeMap _ none=>some (.mkmap .dyn)
 | .makeSlice t l c=>match elemI P t,opd l,opd c with
  |some (sz,by',z),some l,some c=>some (.mkslice .dyn sz by' z.cells l c)
  |_,_,_=>none
 | .slice t x l h m => match opd x, omap opd l, omap opd h, omap opd m, P.underlying t with
  |some x,some l,some h,some m,some (.slice e)=>(size P e).map fun n=>match C.roomy,h,m with
   |true,some _,none=> .sliceK n x l h
   |_,_,_=> .slice (some n) x l h m
  |some x,some l,some h,some m,some .string=>some (.slice none x l h m)
  |_,_,_,_,_=>none
 | .fieldAddr s x f=>match P.underlying s,opd x with
  |some (.struct fs),some x=>(fs[f]?).map fun d=> .faddr d.offset x
  |_,_=>none
 | .field s x f=>match P.underlying s,opd x with
  |some (.struct fs),some x=>(fs[f]?).bind fun d=>(rowN P d.type).map fun r=> .field r d.offset x
  |_,_=>none
 | .indexAddr t x i=>match P.underlying t,opd x,opd i with
  |some (.array n e),some x,some i=>(size P e).map fun s=> .iaddr (some n) s x i
  |some (.slice e),some x,some i=>(size P e).map fun s=> .iaddr none s x i
  |_,_,_=>none
 | .index t x i => match P.underlying t, opd x, opd i with
  |some (.array n e),some x,some i=>match rowN P e,size P e with
   |some r,some s=>some (.index (some (n,s,r.isSome)) x i)
   |_,_=>none
  |some .string,some x,some i=>some (.index none x i)
  |_,_,_=>none
 | .lookup t x i ok=>match mapI P t,opd x,opd i with
  |some (r,ks,z),some x,some i=>some (.lookup r ks z ok x i)
  |_,_,_=>none
 | .mapUpdate t m k v| .insert t m k v=>match mapI P t,opd m,opd k,opd v with
  |some (r,ks,_),some m,some k,some v=>some (.mupd r ks m k v)
  |_,_,_,_=>none
 | .mapEntry t m k=>match mapI P t,opd m,opd k with
  |some (r,ks,z),some m,some k=>some (.ment r ks z m k)
  |_,_,_=>none
 | .entryStore _ m s v=>match opd m,opd s,opd v with
  |some m,some s,some v=>some (.estore m s v)
  |_,_,_=>none
 | .extract x i=>(opd x).map (.extract i)
 | .call c=>call P B c
 |_=>none
def oper (B : Bool) (ops : Array Oper) (o : Oper) : SOper :=
  ⟨o.dst, (op P C B o.op).getD .bad, (o.after.toList.filter fun e => Region.binds .any e).map (·.on),
   match o.guard with
    |none=>none
    |some (j,w)=>((ops[j]?).bind (·.dst)).map fun s=>(s,w)⟩
def modeA (o:SOper):SOper:=match o with
 |⟨d,.call _ (.f g) asx,a,u⟩=>⟨d,.call ((C.always.lookup g).getD C.most) (.f g) asx,a,u⟩
 |⟨d,.call _ x asx,a,u⟩=>⟨d,.call C.value x asx,a,u⟩
 |_=>o
def modeB (o:SOper):SOper:=match o with
 |⟨d,.call _ (.f g) asx,a,u⟩=>⟨d,.call (match (C.always.lookup g).getD C.most with
  | .heap=>(C.modes.lookup g).getD .heap
  |m=>m) (.f g) asx,a,u⟩
 |_=>o
def unfree (s:List SOper):List (Nat×Nat):=
 let m:=masksFrom [] s
 (List.range s.length).flatMap fun j => (List.range j).filterMap fun k =>
  cond ((m.getD j 0).testBit k||pairOK s [] k j) none (some (k,j))
def lent (s:List SOper) (ps:List (Nat×Nat)):List (Nat×Nat):=
 (List.range s.length).filterMap fun k => match (s[k]?).map SOper.op with
  |some (.call .heap (.f g) _)=>cond (C.lends.contains g&&ps.any (fun p=>p.1==k||p.2==k)) (some (k,999999)) none
  |_=>none
def ops1 (B:Bool) (ops:Array Oper):List SOper:=ops.toList.map fun o=>modeA C (oper P C B ops o)
def reg (B:Bool) (ops:Array Oper) (draw:Bool):SCode:=
 let s:=ops1 P C B ops
 match draw with
 |false=> .region s [] []
 |true=>match unfree s with
  |[]=> .region s [] []
  |_=>let s:=s.map (modeB C);let ps:=unfree s;.region s (ps++lent C s ps) []
def mlH (B:Bool) (p:MLParts):Option (List SOper×Opd×Nat×Nat×Nat×Nat×List SOper):=
 match p.ops6.toList.getLast?,p.ops7.toList,p.ops8.toList with
 |some ⟨some it,.range _ y,_,_,_,_⟩,[⟨some nx,.next _ false,_,_,_,_⟩,⟨some ok,_,_,_,_,_⟩],⟨some en,.entry _,_,_,_,_⟩::r=>
  (opd y).map fun x=>(p.ops6.toList.dropLast.map (oper P C B p.ops6),x,it,nx,ok,en,r.map (oper P C B p.ops8))
 |_,_,_=>none
def code (rg : Array Oper -> Bool -> SCode) (B : Bool) (N : Nat) : Nat -> Code -> SCode
 |0,_=> .bad
 | n + 1, c => match mlParts c with
  |some p=>match mlH P C B p with
   |some (pre,x,it,nx,ok,en,rest)=> .mloop pre x it nx ok en p.b p.b3 rest (code rg B N n p.body)
   |none=> .bad
  | none => match c with
   | .skip=> .skip
   | .region _ ops draw=>rg ops draw
   | .seq a b=> .seq (code rg B N n a) (code rg B N n b)
   | .cond c a b=>match opd c with
    |some x=> .cond x (code rg B N n a) (code rg B N n b)
    |none=> .bad
   | .block i b=> .block i (code rg B N n b)
   | .loop b=> .loop (code rg B N n b)
   | .exit i=> .exit i
   | .ret=> .ret
   | .rangeFunc g ps a b=>match opd g with
    |some x=> .rfunc x ps.toList N (code rg B N n a) (code rg B N n b)
    |none=> .bad
   |_=> .bad
end
def it:Nat->(Nat->Nat)->Nat->Nat
 |0,_,l=>l
 |n+1,F,l=>match Nat.beq (mn (F l) l) 0 with
  |true=>l
  |false=>it n F (Nat.lor l (F l))
def back:List SOper->Nat->Nat
 |[],l=>l
 |o::r,l=>Nat.lor (match o.dst,o.guard with
  |some d,none=>mn (back r l) (bt d)
  |_,_=>back r l) (msk o.reads)
def exs (ex:List (Nat×Nat)):Nat:=ex.foldl (fun m p=>Nat.lor m p.2) 0
def live (ret:Nat):SCode->List (Nat×Nat)->Nat->Nat
 | .skip,_,out=>out
 | .region ops _ _,_,out=>back ops out
 | .seq a b,ex,out=>live ret a ex (live ret b ex out)
 | .cond x a b,ex,out=>Nat.lor (Nat.lor (msk x.slots) (live ret a ex out)) (live ret b ex out)
 | .block i b,ex,out=>live ret b ((i,out)::ex) out
 | .loop b,ex,_=>it 50 (live ret b ex) 0
 | .mloop pre x i nx ok en b1 b2 rest body,ex,out=>
  back pre (Nat.lor (mn (it 50 (fun l=>Nat.lor (Nat.lor out (bt i)) (mn (back rest (live ret body ((b1,out)::(b2,l)::ex) l)) (msk [en,ok,nx]))) (bt i)) (bt i)) (msk x.slots))
 | .exit i,ex,_=>(ex.lookup i).getD 0
 | .ret,_,_=>ret
 | .rfunc g ps _ a b,ex,out=>
  Nat.lor (Nat.lor (Nat.lor (msk g.slots) out) (mn (live ret a ex (live ret b ex 0)) (msk ps))) (Nat.lor ret (exs ex))
 | .bad,_,_=>0
def dsts (ops:List SOper):Nat:=msk (ops.filterMap (·.dst))
def mark:List SOper->Nat->List FOp
 |[],_=>[]
 |s::r,p=>match s.dst with
  |some d=>⟨!p.testBit d,s⟩::mark r (Nat.lor p (bt d))
  |none=>⟨false,s⟩::mark r p
def ann (ret:Nat):SCode->List (Nat×Nat)->Nat->Nat->FCode×Nat
 | .region ops ps _,_,out,p=>
  let all:=Nat.lor p (dsts ops)
  (.region (mark ops p) ps (mn all out),Nat.land all out)
 | .seq a b,ex,out,p=>
  let x:=ann ret a ex (live ret b ex out) p
  let y:=ann ret b ex out x.2
  (.seq x.1 y.1,y.2)
 | .cond c a b,ex,out,p=>
  let x:=ann ret a ex out p
  let y:=ann ret b ex out p
  (.cond c x.1 y.1,Nat.lor x.2 y.2)
 | .block i b,ex,out,p=>
  let x:=ann ret b ((i,out)::ex) out p
  (.block i x.1,Nat.lor x.2 (Nat.land p out))
 | .loop b,ex,out,p=>
  let l:=live ret (.loop b) ex out
  (.loop (ann ret b ex l (Nat.lor p l)).1,Nat.lor p l)
 | .mloop pre x i nx ok en b1 b2 rest body,ex,out,p=>
  let lv:=it 50 (fun l=>Nat.lor (Nat.lor out (bt i)) (mn (back rest (live ret body ((b1,out)::(b2,l)::ex) l)) (msk [en,ok,nx]))) (bt i)
  let p1:=Nat.lor p (dsts pre)
  let q:=Nat.lor p1 (msk [i,nx,ok,en])
  let p2:=Nat.lor q (dsts rest)
  let z:=ann ret body ((b1,out)::(b2,lv)::ex) lv (Nat.lor p2 lv)
  (.mloop (mark pre p) x i nx ok en b1 b2 (mark rest q) z.1,Nat.lor p2 z.2)
 | .rfunc g ps N a b,ex,out,p=>
  let x:=ann ret a ex (live ret b ex 0) (Nat.lor p (msk ps))
  (.rfunc g ps N x.1 (ann ret b ex 0 x.2).1,p)
 | .skip,_,_,p=>(.skip,p)
 | .exit i,_,_,p=>(.exit i,p)
 | .ret,_,_,p=>(.ret,p)
 | .bad,_,_,p=>(.bad,p)
def dd (C:Cf) (q:List (Nat×List (Nat×Nat))):SCode->List (List Nat)->SCode×List (List Nat)
 | .region ops _ _,d::r=>match q.lookup r.length with
  |some ps=>(.region (ops.map (modeB C)) ps d,r)
  |none=>(.region ops [] d,r)
 | .seq a b,l=>let x:=dd C q a l;let y:=dd C q b x.2;(.seq x.1 y.1,y.2)
 | .cond c a b,l=>let x:=dd C q a l;let y:=dd C q b x.2;(.cond c x.1 y.1,y.2)
 | .block i b,l=>let x:=dd C q b l;(.block i x.1,x.2)
 | .loop b,l=>let x:=dd C q b l;(.loop x.1,x.2)
 | .mloop pre x i nx ok en b1 b2 rest b,l=>let z:=dd C q b l;(.mloop pre x i nx ok en b1 b2 rest z.1,z.2)
 | .rfunc g ps n a b,l=>let x:=dd C q a l;let y:=dd C q b x.2;(.rfunc g ps n x.1 y.1,y.2)
 |c,l=>(c,l)
def resS (P:Program):ResultVar->SRes
 | .tmp t=> .tmp t
 | .cell a t=> .cell a ((rowN P t).getD none)
def SRes.slot:SRes->Nat
 | .tmp t=>t
 | .cell a _=>a
def ffn (P:Program) (C:Cf) (f:Nat):FFn:=
 match P.funcs[f]? with
 | some fn => match fn.body with
  |some c=>
   let C:Cf:={C with roomy:= "slices.Delete[".isPrefixOf fn.name}
   let res:=fn.results.toList.map (resS P)
   let m:=msk (res.map SRes.slot)
   ⟨fn.ntmps,res,(ann m (let B:= "(*strings.Builder)".isPrefixOf fn.name;code P C (reg P C B) B fn.ntmps 1000 c) [] m (msk (List.range (fn.params.size+fn.nfree)))).1⟩
  |none=>⟨0,[],.bad⟩
 |none=>⟨0,[],.bad⟩
def sfn (P:Program) (C:Cf) (f:Nat) (l:List (List Nat)) (q:List (Nat×List (Nat×Nat))):SFn:=
 match P.funcs[f]? with
 |some fn=>match fn.body with
  |some c=>⟨fn.ntmps,fn.results.toList.map (resS P),(dd C q (code P C (fun ops _=> .region (ops1 P C false ops) [] []) false fn.ntmps 1000 c) l).1⟩
  |none=>⟨0,[],.bad⟩
 |none=>⟨0,[],.bad⟩
theorem rr {a b:SFn} (h:a=b:=by conv=>lhs;reduce;simp only[Int.reduceOfNat,Int.reduceNegSucc,Go.AM.YA.u8e,UInt8.reduceOfNat]):a=b:=h
def Yt (P:Program) (C:Cf) (f:Nat) (l:List (List Nat)) (q:List (Nat×List (Nat×Nat)):=[]):=∀s:SFn,sfn P C f l q=s->SFn
def tre (P:Program) (C:Cf):Nat->List Nat->FT2
 |0,_=> .z
 |k+1,l=>match l with
  |[]=> .z
  |[f]=> .l f (ffn P C f)
  |_=>let h:=l.length/2;.n (l.getD h 0) (tre P C k (l.take h)) (tre P C k (l.drop h))
def allOK (P:Program) (C:Cf):List Nat->Bool
 |[]=>true
 |f::r=>okFn P f (ffn P C f).slim&&allOK P C r
theorem QfU {P:Program} {C:Cf}:∀{l:List Nat},allOK P C l=true->∀f∈l,okFn P f (ffn P C f).slim=true
 |[],_,_,h=>by cases h
 |g::r,h,f,hf=>by
  simp only[allOK,Bool.and_eq_true]at h
  rcases List.mem_cons.1 hf with rfl|hf
  ·exact h.1
  ·exact QfU h.2 f hf
theorem Qgx {P:Program} {C:Cf}:∀(k:Nat) (l:List Nat),(∀f∈l,okFn P f (ffn P C f).slim=true)->(tre P C k l).OK P
 |0,_,_=>trivial
 |k+1,[],_=>trivial
 |k+1,[f],h=>h f (by simp)
 |k+1,f::g::r,h=>⟨Qgx k _ fun x hx=>h x (List.mem_of_mem_take hx),Qgx k _ fun x hx=>h x (List.mem_of_mem_drop hx)⟩
end Go.AM.YA
