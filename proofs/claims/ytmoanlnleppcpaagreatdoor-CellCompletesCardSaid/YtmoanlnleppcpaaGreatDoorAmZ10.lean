/- A part of the proof of CellCompletesCardSaid: lemmas on the way (AmU, AmUa, AmDj, AmBx, AmBa, AmBb, AmBc, AmBd, AmBe, AmBf, AmBg, AmBi, AmBj, AmBl, AmBm, AmBn, AmBo, AmCa, AmCb, AmFa, AmBFb, AmBw, AmBFd, AmBy, AmBFe, AmCc, AmCza, AmCe, AmCf, AmCg, AmCh, AmCm, AmCp, AmCs, AmCt, AmCu, AmCi, AmCk, AmCl, AmCn, AmCv, AmCw). Conditions: none of ours. -/
import Derived.OpenShut
import Derived.Test.YtmoanlnleppcpaaGreatDoorProg
import Derived.KernelRfl
import Derived.Test.YtmoanlnleppcpaaGreatDoorAmZ9
set_option linter.unusedSectionVars false
set_option maxHeartbeats 32000000
set_option maxRecDepth 100000
set_option linter.unusedVariables false
set_option linter.unusedSimpArgs false
namespace Go.AM
variable {ok:Okc}
open Go.ChangeShapes Go.WideShapes
def inF (w:World) (k:Nat):Prop:=k<w.heap.size
end Go.AM
namespace Go.AM
open Go.ChangeShapes Go.WideShapes
inductive Ty where
 |int (k:IntKind)
 |bool
 |str
 |arr (n:Nat) (t:Ty)
 |sl (t:Ty)
 |st (fs:Ty)
 |unit
 |pair (a b:Ty)
def Ty.sz:Ty->Nat
 | .int _| .bool| .str| .sl _=>1
 | .arr n t=>n*t.sz
 | .st fs=>fs.sz
 | .unit=>0
 | .pair a b=>a.sz+b.sz
abbrev Ty.D:Ty->Type
 | .int _=>Int
 | .bool=>Bool
 | .str=>List UInt8
 | .arr _ t| .sl t=>List t.D
 | .st fs=>fs.D
 | .unit=>Unit
 | .pair a b=>a.D×b.D
def Ty.cells:(t:Ty)->t.D->List AV
 | .int k,n=>[.int k n]
 | .bool,b=>[.bool b]
 | .str,s=>[.str s]
 | .arr _ t,l=>List.flatMap (Ty.cells t) l
 | .sl t,l=>[.fsl (List.flatMap (Ty.cells t) l) (List.length l) t.sz]
 | .st fs,d=>Ty.cells fs d
 | .unit,_=>[]
 | .pair a b,d=>Ty.cells a d.1++Ty.cells b d.2
def Ty.wf:(t:Ty)->t.D->Prop
 | .int k,n=>(Lit.int k n).wf=true
 | .bool,_=>True
 | .str,s=>List.length s<=9223372036854775807
 | .arr n t,l=>List.length l=n/\∀x∈(show List t.D from l),Ty.wf t x
 | .sl t,l=>List.length l<=9223372036854775807/\∀x∈(show List t.D from l),Ty.wf t x
 | .st fs,d=>Ty.wf fs d
 | .unit,_=>True
 | .pair a b,d=>Ty.wf a d.1/\Ty.wf b d.2
def eltT (P:Program) (ts:List TypeId):List TypeId:=match ts with
 |t::_=>(match P.underlying t with|some (.slice e)=>[e]|some (.array _ e)=>[e]|_=>[])
 |[]=>[]
def fldT (P:Program) (ts:List TypeId):List TypeId:=match ts with
 |t::_=>(match P.underlying t with|some (.struct l)=>l.toList.map (·.type)|_=>[])
 |[]=>[]
def Ty.sized (P:Program):(t:Ty)->List TypeId->t.D->Prop
 | .arr _ t,ts,l=>∀x∈(show List t.D from l),Ty.sized P t (eltT P ts) x
 | .sl t,ts,l=>(∀e∈eltT P ts,List.length l*P.bytesOf e<=reachBytes)/\∀x∈(show List t.D from l),Ty.sized P t (eltT P ts) x
 | .st fs,ts,d=>Ty.sized P fs (fldT P ts) d
 | .pair a b,ts,d=>Ty.sized P a (ts.take 1) d.1/\Ty.sized P b ts.tail d.2
 |_,_,_=>True
theorem Qc5 {H:Type} {P:Program} {e:TypeId} {q:Nat->Bool}:∀{l:List (DataW H)} {d:DataW H},d∈l->(DataW.weightsAll P e l).all q=true->(d.weights P e).all q=true
 |x::l,d,hd,h=>by
  simp only[DataW.weightsAll,List.all_append,Bool.and_eq_true]at h
  rcases List.mem_cons.1 hd with rfl|hd
  ·exact h.1
  ·exact Qc5 hd h.2
mutual
def okTy (P:Program):Ty->TypeId->Bool
 | .int k,t=>match P.underlying t with|some (.int k')=>k'==k|_=>false
 | .bool,t=>match P.underlying t with|some .bool=>true|_=>false
 | .str,t=>match P.underlying t with|some .string=>true|_=>false
 | .arr n e,t=>match P.underlying t with|some (.array m u)=>n==m&&okTy P e u&&P.cellsOf u==e.sz&&P.cellsOf t==n*e.sz|_=>false
 | .sl e,t=>match P.underlying t with|some (.slice u)=>okTy P e u&&P.cellsOf u==e.sz&&Nat.blt 0 e.sz|_=>false
 | .st fs,t=>match P.underlying t with|some (.struct l)=>okFs P fs l.toList 0&&P.cellsOf t==fs.sz|_=>false
 |_,_=>false
termination_by structural ty=>ty
def okFs (P:Program):Ty->List Field->Nat->Bool
 | .unit,l,_=>match l with|[]=>true|_=>false
 | .pair a b,l,off=>match l with|f::l=>f.offset==off&&okTy P a f.type&&P.cellsOf f.type==a.sz&&okFs P b l (off+a.sz)|_=>false
 |_,_,_=>false
termination_by structural ty=>ty
end
section
variable {ok:Okc} {H:Type} {enc:TypeId×Value->H} {P:Program} {W:World} {spare:Nat->Bool}
theorem Qdn:∀(t:Ty) (d:t.D),t.wf d->(t.cells d).length=t.sz
 | .int _,_,_=>rfl
 | .bool,_,_=>rfl
 | .str,_,_=>rfl
 | .sl _,_,_=>rfl
 | .unit,_,_=>rfl
 | .st fs,d,h=>Qdn fs d h
 | .pair a b,d,h=>by
  simp only[Ty.cells,Ty.sz,List.length_append,Qdn a d.1 h.1,Qdn b d.2 h.2]
 | .arr n t, l, h => by
  obtain⟨h1,h2⟩:=h
  simp only[Ty.cells,Ty.sz,<-h1]
  have:∀(l:List t.D),(∀x∈l,t.wf x)->(l.flatMap t.cells).length=l.length*t.sz:=by
   intro l
   induction l with
   |nil=>intro _;simp
   |cons x l ih=>intro hl;simp[List.flatMap_cons,Qdn t x (hl x (by simp)),ih fun y hy=>hl y (by simp[hy]),Nat.succ_mul];omega
  exact this l h2
theorem Qg0 {α β:Type} {f:α->Option β}:∀{l:List α} {r:List β},l.mapM f=some r->r.length=l.length/\∀(i:Nat) (x:α),l[i]?=some x->∃y,f x=some y/\r[i]?=some y
 |[],r,h=>by simp_all
 |a::l,r,h=>by
  simp only[List.mapM_cons,Option.bind_eq_bind,Option.bind_eq_some_iff]at h
  obtain⟨y,hy,ys,hys,e⟩:=h
  simp at e;subst e
  obtain⟨h1,h2⟩:=Qg0 hys
  grind
theorem many {ok:Okc} {t:Ty} {R:t.D->Prop} {c:Ctx ok} {n:Nat}:∀{cs:List Value},(∀i,i<n->∃x:t.D,R x/\VRels c W (t.cells x) ((cs.drop (i*t.sz)).take t.sz))->n*t.sz<=cs.length->
  ∃l:List t.D,l.length=n/\(∀x∈l,R x)/\VRels c W (l.flatMap t.cells) (cs.take (n*t.sz)):=by
 induction n with
 |zero=>intro cs _ _;exact⟨[],rfl,by simp,by simp[VRels]⟩
 | succ n ih =>
  intro cs hx hl
  obtain⟨x,h1,h2⟩:=hx 0 (by omega)
  rw[Nat.succ_mul]at hl
  obtain⟨l,h3,h4,h5⟩:=ih (cs:=cs.drop t.sz) (fun i hi=>by
   grind [List.drop_drop]) (by simp;omega)
  refine⟨x::l,by simp[h3],by simp_all,?_⟩
  rw[List.flatMap_cons,Nat.succ_mul,Nat.add_comm,List.take_add]
  refine Qbg ?_ h5
  simpa using h2
mutual
theorem QfU : ∀ (ty : Ty) (t : TypeId) (fuel : Nat) (cs : List Value) (x : DataW H × List MemPlace), (∀ b, spare b = true) -> okTy P ty t = true -> DataW.trod enc P W 0 spare true fuel t cs = some x ->
    ∃d:ty.D,(ty.wf d/\((x.1.weights P t).all (· <=reachBytes)=true->ty.sized P [t] d))/\VRels (only (ok:=ok) (inF W)) W (ty.cells d) cs:=by
  intro ty t fuel cs x hs ho h
  match ty with
  | .int k =>
    simp only[okTy]at ho
    split at ho<;>try (cases ho;done)
    rename_i k' hu
    simp only[beq_iff_eq]at ho
    subst ho
    obtain⟨n,rfl,_,hw⟩:=DataW.trod_int hu h
    exact⟨n,⟨hw,fun _=>trivial⟩,by simp[Ty.cells,VRels,VRel]⟩
  | .bool =>
    simp only[okTy]at ho
    split at ho<;>try (cases ho;done)
    rename_i hu
    obtain⟨b,rfl,_⟩:=DataW.trod_bool hu h
    exact⟨b,⟨trivial,fun _=>trivial⟩,by simp[Ty.cells,VRels,VRel]⟩
  | .str =>
    simp only[okTy]at ho
    split at ho<;>try (cases ho;done)
    rename_i hu
    obtain⟨s,rfl,_,hl⟩:=DataW.trod_string hu h
    refine⟨s.data.toList,⟨?_,fun _=>trivial⟩,?_⟩
    · simp only [ByteArray.size, maxLen] at hl
      simp_all [Ty.wf]
    · simp[Ty.cells,VRels,VRel]
  | .unit=>simp[okTy]at ho
  | .pair a b=>simp[okTy]at ho
  | .st fs =>
    simp only[okTy]at ho
    split at ho<;>try (cases ho;done)
    rename_i l hu
    simp only[Bool.and_eq_true,beq_iff_eq]at ho
    obtain⟨ho,hsz⟩:=ho
    cases fuel with
    |zero=>simp[DataW.trod]at h
    | succ n =>
      unfold DataW.trod at h
      rw[hu]at h
      split at h<;>first|(simp_all;done)|skip
      rename_i fs' he
      injection he with he;injection he with he;subst he
      split at h
      · rename_i hl
        simp only[Option.map_eq_some_iff]at h
        obtain⟨xs,hm,rfl⟩:=h
        obtain⟨d,⟨h1,h3⟩,h2⟩:=Qmu fs l.toList 0 n _ xs hs ho hm (by omega)
        refine⟨d,⟨h1,fun hw=>?_⟩,?_⟩
        · simp only [DataW.weights, hu] at hw
          show Ty.sized P fs (fldT P [t]) d
          simp only[fldT,hu]
          exact h3 hw
        grind [Ty.cells]
      · cases h
  | .arr m e =>
    simp only[okTy]at ho
    split at ho<;>try (cases ho;done)
    rename_i m' u hu
    simp only[Bool.and_eq_true,beq_iff_eq]at ho
    obtain⟨⟨⟨rfl,ho⟩,hsz⟩,hst⟩:=ho
    cases fuel with
    |zero=>simp[DataW.trod]at h
    | succ n =>
      unfold DataW.trod at h
      rw[hu]at h
      split at h<;>first|(simp_all;done)|skip
      rename_i m' u' he
      injection he with he;injection he with he1 he2;subst he1;subst he2
      split at h
      · rename_i hl
        simp only[Option.map_eq_some_iff]at h
        obtain⟨xs,hm,rfl⟩:=h
        obtain⟨g1,g2⟩:=Qg0 hm
        rw[hst]at hl
        obtain⟨l,k1,k2,k3⟩:=many (t:=e) (R:=fun x=>e.wf x/\((DataW.weightsAll P u (xs.map (·.1))).all (· <=reachBytes)=true->e.sized P [u] x)) (c:=only (inF W)) (n:=m) (fun i hi=>by
          obtain⟨y,hy,hyx⟩:=g2 i i (by simp[hi])
          rw[hsz]at hy
          obtain⟨d,⟨j1,j2⟩,j3⟩:=QfU e u n _ y hs ho hy
          exact⟨d,⟨j1,fun hw=>j2 (Qc5 (List.mem_map.2 ⟨y,List.mem_of_getElem? hyx,rfl⟩) hw)⟩,j3⟩) (by omega)
        refine⟨l,⟨⟨k1,fun x hx=>(k2 x hx).1⟩,fun hw=>?_⟩,?_⟩
        · simp only [DataW.weights, hu] at hw
          show ∀x∈l,Ty.sized P e (eltT P [t]) x
          simp only[eltT,hu]
          exact fun x hx=>(k2 x hx).2 hw
        rw[<-hl,List.take_length]at k3
        exact k3
      · cases h
  | .sl e =>
    simp only[okTy]at ho
    split at ho<;>try (cases ho;done)
    rename_i u hu
    simp only[Bool.and_eq_true,beq_iff_eq,Nat.blt_eq]at ho
    obtain⟨⟨ho,hsz⟩,hpos⟩:=ho
    rcases DataW.trod_slice hu h with⟨rfl,_⟩|⟨a,len,cap,elems,rest,n,_,rfl,rfl,_,hl,hm,hlen,hel,hsp,hns⟩
    · exact⟨[],⟨⟨by simp,by simp⟩,fun _=>⟨fun _ _=>by simp,by simp⟩⟩,by simp[Ty.cells,VRels,VRel]⟩
    obtain⟨hrl,hr⟩:=hsp (hs _)
    have each:∀i,i<cap->∃cs,(w':W.cells? 0 (a.add (i*e.sz)) e.sz=some cs)->True:=fun _ _=>⟨[],fun _=>trivial⟩
    have each:∀i,i<cap->∃cs y,W.cells? 0 (a.add (i*e.sz)) e.sz=some cs/\DataW.trod enc P W 0 spare true n u cs=some y:=by
      intro i hi
      by_cases hil:i<len
      · grind [Option.bind_eq_some_iff]
      · have h1 := hr (i - len) (by omega)
        grind [Option.bind_eq_some_iff]
    by_cases h0:cap=0
    · have : len = 0 := by omega
      subst h0;subst this
      exact⟨[],⟨⟨by simp,by simp⟩,fun _=>⟨fun _ _=>by simp,by simp⟩⟩,by simp[Ty.cells,VRels,VRel]⟩
    have cellsAt:∀i cs,W.cells? 0 (a.add (i*e.sz)) e.sz=some cs->cs.length=e.sz/\∀j,j<e.sz->W.cell? ((a.add (i*e.sz)).add j)=cs[j]?:=by
      intro i cs hcs
      unfold World.cells? at hcs
      rw[if_pos (Nat.zero_le _)]at hcs
      obtain⟨g1,g2⟩:=Qg0 hcs
      refine⟨by simpa using g1,fun j hj=>?_⟩
      obtain⟨y,k1,k2⟩:=g2 j j (by simp[hj])
      rw[k1,k2]
    obtain⟨cs0,y0,hc0,_⟩:=each 0 (by omega)
    obtain⟨q1,q2⟩:=cellsAt 0 cs0 hc0
    have hcell0:=q2 0 hpos
    rw[List.getElem?_eq_getElem (by omega)]at hcell0
    obtain⟨b,off,spot⟩:=a
    have hspot:spot=none:=by simpa[Addr.add]using World.cell?_spot hcell0
    subst hspot
    have hb:∃C e fr,W.heap[b]?=some (.cells C e fr):=by
      grind [World.cell?,Addr.add]
    obtain⟨C,et,fr,hb⟩:=hb
    have hcell:∀i cs,W.cells? 0 ((⟨b,off,none⟩:Addr).add (i*e.sz)) e.sz=some cs->i<cap->(C.toList.drop (off+i*e.sz)).take e.sz=cs:=by
      intro i cs hcs hi
      obtain⟨k1,k2⟩:=cellsAt i cs hcs
      refine List.ext_getElem? fun j=>?_
      by_cases hj:j<e.sz
      · simp_all [Go.WideShapes.add_plain,World.cell?]
      grind
    have hCs:len*e.sz<=(C.toList.drop off).length:=by
      by_cases hl0:len=0
      · subst hl0;simp
      obtain⟨cs,y,hcs,_⟩:=each (len-1) (by omega)
      have h1:=hcell (len-1) cs hcs (by omega)
      obtain⟨k1,_⟩:=cellsAt (len-1) cs hcs
      have h2:=congrArg List.length h1
      rw[k1,List.length_take,List.length_drop]at h2
      rw[List.length_drop]
      have h3:len*e.sz=(len-1)*e.sz+e.sz:=by
        rw[<-Nat.succ_mul];congr 1;omega
      omega
    have eachL:∀i,i<len->∃cs y,W.cells? 0 ((⟨b,off,none⟩:Addr).add (i*e.sz)) e.sz=some cs/\DataW.trod enc P W 0 spare true n u cs=some y/\y∈elems:=by
      intro i hi
      have h1:=hel i hi
      rw[List.getElem?_eq_getElem (by omega),hsz,Option.bind_eq_some_iff]at h1
      obtain⟨cs,hcs,hy⟩:=h1
      exact⟨cs,_,hcs,hy,List.getElem_mem _⟩
    obtain⟨l,k1,k2,k3⟩:=many (t:=e) (R:=fun x=>e.wf x/\((DataW.weightsAll P u (elems.map (·.1))).all (· <=reachBytes)=true->e.sized P [u] x)) (c:=only (inF W)) (n:=len) (cs:=C.toList.drop off) (fun i hi=>by
      obtain⟨cs,y,hcs,hy,hyx⟩:=eachL i hi
      rw[List.drop_drop,hcell i cs hcs (by omega)]
      obtain⟨d,⟨j1,j2⟩,j3⟩:=QfU e u n cs y hs ho hy
      exact⟨d,⟨j1,fun hw=>j2 (Qc5 (List.mem_map.2 ⟨y,hyx,rfl⟩) hw)⟩,j3⟩) hCs
    have k2':∀x∈l,e.wf x:=fun x hx=>(k2 x hx).1
    refine⟨l,⟨⟨by grind [maxLen],k2'⟩,fun hw=>?_⟩,?_⟩
    · replace hw : (DataW.weights P t (.slice (elems.map (·.1)) (rest.map (·.1)))).all (· <= reachBytes) = true := hw
      simp only[DataW.weights,hu,List.all_cons,List.all_append,Bool.and_eq_true,decide_eq_true_eq,List.length_map]at hw
      refine⟨fun v hv=>?_,?_⟩
      · simp only [eltT, hu, List.mem_singleton] at hv
        subst hv
        refine Nat.le_trans (Nat.mul_le_mul_right _ ?_) hw.1
        show List.length l<=_
        omega
      · show ∀ x ∈ l, Ty.sized P e (eltT P [t]) x
        simp only[eltT,hu]
        exact fun x hx=>(k2 x hx).2 hw.2.1
    simp only[Ty.cells,VRels,VRel]
    have hll:(l.flatMap e.cells).length=l.length*e.sz:=Qdn (.arr l.length e) l ⟨rfl,k2'⟩
    refine⟨_,[],rfl,.inr ⟨b,off,cap,C,et,fr,by rw[k1],by omega,hll,QaW hb,hb,?_⟩,rfl⟩
    have:=QgH (vs:=(C.toList.drop off).drop (len*e.sz)) k3
    rwa [List.take_append_drop]at this
termination_by structural ty=>ty
theorem Qmu : ∀ (ty : Ty) (fs : List Field) (off fuel : Nat) (cs : List Value) (xs : List (DataW H × List MemPlace)), (∀ b, spare b = true) -> okFs P ty fs off = true ->
    (fs.mapM fun f=>DataW.trod enc P W 0 spare true fuel f.type ((cs.drop f.offset).take (P.cellsOf f.type)))=some xs->off+ty.sz<=cs.length->
    ∃d:ty.D,(ty.wf d/\((DataW.weightsEach P (fs.map (·.type)) (xs.map (·.1))).all (· <=reachBytes)=true->ty.sized P (fs.map (·.type)) d))/\VRels (only (ok:=ok) (inF W)) W (ty.cells d) ((cs.drop off).take ty.sz):=by
  intro ty fs off fuel cs xs hs ho h hl
  match ty with
  | .unit=>exact⟨(),⟨trivial,fun _=>trivial⟩,by simp[Ty.cells,VRels,Ty.sz]⟩
  | .pair a b =>
    cases fs with
    |nil=>simp[okFs]at ho
    | cons f fs =>
      simp only[okFs,Bool.and_eq_true,beq_iff_eq]at ho
      obtain⟨⟨⟨rfl,h1⟩,h2⟩,h3⟩:=ho
      simp only[List.mapM_cons,Option.bind_eq_bind,Option.bind_eq_some_iff]at h
      obtain⟨y,hy,ys,hys,hxs⟩:=h
      have hxs:y::ys=xs:=by simpa using hxs
      subst hxs
      rw[h2]at hy
      simp only[Ty.sz]at hl
      obtain⟨d1,⟨g1,w1⟩,g2⟩:=QfU a f.type fuel _ y hs h1 hy
      obtain⟨d2,⟨g3,w2⟩,g4⟩:=Qmu b fs (f.offset+a.sz) fuel cs ys hs h3 hys (by omega)
      refine⟨(d1,d2),⟨⟨g1,g3⟩,fun hw=>?_⟩,?_⟩
      · simp only [List.map_cons, DataW.weightsEach, List.all_append, Bool.and_eq_true] at hw
        exact⟨w1 hw.1,w2 hw.2⟩
      simp only[Ty.cells,Ty.sz]
      rw[List.take_add]
      refine Qbg g2 ?_
      rw[List.drop_drop]
      exact g4
  | .int _=>simp[okFs]at ho
  | .bool=>simp[okFs]at ho
  | .str=>simp[okFs]at ho
  | .arr _ _=>simp[okFs]at ho
  | .sl _=>simp[okFs]at ho
  | .st _=>simp[okFs]at ho
termination_by structural ty=>ty
end
def Ty.val:(t:Ty)->t.D->AV
 | .arr n t,d=> .agg (Ty.cells (.arr n t) d)
 | .st fs,d=> .agg (Ty.cells (.st fs) d)
 | .int k,n=> .int k n
 | .bool,b=> .bool b
 | .str,s=> .str s
 | .sl t,l=> .fsl (List.flatMap (Ty.cells t) l) (List.length l) t.sz
 | .unit,_=> .any
 | .pair _ _,_=> .any
theorem Qql (ty:Ty) {t:TypeId} {base:Nat} {v:Value} {d0:DataW H} {ps:List MemPlace} (ho:okTy P ty t=true) (hv:Value.okWide P W .any base t v) (h:DataW.Trod enc P W 0 (fun _=>true) true t v d0 ps):
  ∃d:ty.D,(ty.wf d/\((d0.weights P t).all (· <=reachBytes)=true->ty.sized P [t] d))/\VRel (only (ok:=ok) (inF W)) W (ty.val d) v:=by
 obtain⟨fuel,h⟩:=h
 obtain⟨d,h1,h2⟩:=QfU (spare:=fun _=>true) ty t fuel _ _ (fun _=>rfl) ho h
 refine⟨d,h1,?_⟩
 have one:∀(u:AV),VRels (only (ok:=ok) (inF W)) W [u] v.cells.toList->(∀cs,v≠ .agg cs)->VRel (only (ok:=ok) (inF W)) W u v:=by
  intro u hu hn
  have:v.cells= #[v]:=by cases v<;>first|rfl|exact absurd rfl (hn _)
  simp_all [VRels]
 cases ty with
 |unit=>simp[okTy]at ho
 |pair a b=>simp[okTy]at ho
 |arr n e=>
  simp only[okTy]at ho
  split at ho<;>try (cases ho;done)
  rename_i hu
  simp only[Value.okWide,hu]at hv
  obtain⟨cs,rfl,_⟩:=hv
  simp only[Ty.val,VRel]
  exact⟨_,rfl,h2⟩
 |st fs=>
  simp only[okTy]at ho
  split at ho<;>try (cases ho;done)
  rename_i hu
  simp only[Value.okWide,hu]at hv
  obtain⟨cs,rfl,_⟩:=hv
  simp only[Ty.val,VRel]
  exact⟨_,rfl,h2⟩
 |int k=>
  refine one _ h2 ?_
  rintro cs rfl
  simp only[okTy]at ho
  split at ho<;>try (cases ho;done)
  rename_i hu
  simp[Value.okWide,hu,Cell.okWide,Cell.ok]at hv
 |bool=>
  refine one _ h2 ?_
  rintro cs rfl
  simp only[okTy]at ho
  split at ho<;>try (cases ho;done)
  rename_i hu
  simp[Value.okWide,hu,Cell.okWide,Cell.ok]at hv
 |str=>
  refine one _ h2 ?_
  rintro cs rfl
  simp only[okTy]at ho
  split at ho<;>try (cases ho;done)
  rename_i hu
  simp[Value.okWide,hu,Cell.okWide,Cell.ok]at hv
 |sl e=>
  refine one _ h2 ?_
  rintro cs rfl
  simp only[okTy]at ho
  split at ho<;>try (cases ho;done)
  rename_i hu
  simp[Value.okWide,hu,Cell.okWide,Cell.ok]at hv
theorem arg_in (ty:Ty) {t:TypeId} {base:Nat} {v:Value} {d:DataW H} {ps:List MemPlace} (ho:okTy P ty t=true) (hv:Value.okWide P W .any base t v) (h:DataW.Trod enc P W 0 (fun _=>true) true t v d ps):
  ∃d:ty.D,ty.wf d/\VRel (only (ok:=ok) (inF W)) W (ty.val d) v:=by
 obtain⟨e,h1,h2⟩:=Qql (ok:=ok) ty ho hv h
 exact⟨e,h1.1,h2⟩
end
end Go.AM
namespace Go.AM
theorem QkI {b:Bool}:(AV.bool b).cells=[.bool b]:=rfl
theorem Qoh {b:Bool}:(AV.bool b).one=true:=rfl
theorem Qoi {b:Bool}:(AV.bool b).boxable=true:=rfl
theorem QkJ {b g o:Nat}:aNil (.ptr b g o)=some (.ptr b g o):=rfl
theorem Qjb {cs:List AV}:aNil (.fptr cs)=some (.fptr cs):=rfl
end Go.AM
namespace Go.AM.SD
open Go.AM
def ints (l:List Int):List AV:=l.map (.int .i64)
abbrev sli (l:List Int):AV:= .fsl (ints l) l.length 1
theorem Qae (l:List Int):noRefs (ints l)=true:=by
 induction l with
 |nil=>rfl
 |cons x l ih=>simp only[ints,List.map_cons,noRefs,noRef,Bool.true_and];exact ih
theorem QeU {l:List Int}:(ints l).length=l.length:=by simp[ints]
theorem lenW:type_of% @List.length_map.{0,0}/\type_of% @List.length_append.{0}/\type_of% @List.length_cons.{0}/\type_of% @List.length_nil.{0}/\type_of% @QeU:=⟨@List.length_map.{0,0},@List.length_append.{0},@List.length_cons.{0},@List.length_nil.{0},@QeU⟩
theorem Qa7 {l:List Int} {i:Nat} {x:Int} (h:l[i]?=some x):((ints l).drop i).head?=some (.int .i64 x):=by
 rw[List.head?_drop];simp[ints,h]
abbrev nz (l:List Nat):List Int:=l.map fun x:Nat=>(x:Int)
theorem nz_at {l:List Nat} {i x:Nat} (h:l[i]?=some x):(nz l)[i]?=some (x:Int):=by simp[nz,h]
theorem Qag {α:Type} {l:List α} {i:Nat} (h:i<l.length):∃x,l[i]?=some x:=⟨l[i],List.getElem?_eq_getElem h⟩
theorem Qai {a b:List AV}:noRefs (a++b)=(noRefs a&&noRefs b):=by
 induction a with
 |nil=>simp[noRefs]
 |cons x a ih=>simp only[List.cons_append,noRefs,ih,Bool.and_assoc]
theorem QaV {α:Type} {f:α->List AV} (h:∀x,noRefs (f x)=true) (l:List α):noRefs (l.flatMap f)=true:=by
 induction l with
 |nil=>rfl
 |cons x l ih=>rw[List.flatMap_cons,Qai,h,ih];rfl
theorem Qbi {α:Type} {f:α->List AV} {k:Nat} (h:∀x,(f x).length=k) (l:List α):(l.flatMap f).length=l.length*k:=by
 induction l with
 |nil=>simp
 |cons x l ih=>rw[List.flatMap_cons,List.length_append,h,ih,List.length_cons,Nat.succ_mul];omega
theorem QbB {α:Type} {f:α->List AV} {k:Nat} (h:∀x,(f x).length=k):∀{l:List α} {i:Nat} {x:α},l[i]?=some x->(l.flatMap f).drop (i*k)=f x++(l.drop (i+1)).flatMap f
 |[],_,_,hx=>by simp at hx
 |y::l,0,x,hx=>by
  simp at hx;subst hx;simp
 |y::l,i+1,x,hx=>by
  simp at hx
  rw[List.flatMap_cons,List.drop_append,h,List.drop_of_length_le (by rw[h,Nat.succ_mul];omega),List.nil_append]
  have:(i+1)*k-k=i*k:=by rw[Nat.succ_mul];omega
  rw[this,QbB h hx,List.drop_succ_cons]
structure Eg where
 fr:Int
 ev:Int
 to:Int
deriving DecidableEq
def egC (e:Eg):List AV:=[.int .i64 e.fr,.int .i64 e.ev,.int .i64 e.to]
abbrev egs (l:List Eg):AV:= .fsl (l.flatMap egC) l.length 3
theorem Qam (l:List Eg):noRefs (l.flatMap egC)=true:=QaV (fun x=>rfl) l
theorem Qbl (l:List Eg):noRef (egs l)=true:=by simp only[noRef];exact Qam l
theorem Qc6 {l:List Eg} {i:Nat} {e:Eg} (h:l[i]?=some e):(l.flatMap egC).drop (i*3)= .int .i64 e.fr:: .int .i64 e.ev:: .int .i64 e.to::(l.drop (i+1)).flatMap egC:=QbB (f:=egC) (k:=3) (fun _=>rfl) h
theorem Qau (l:List Int):noRef (sli l)=true:=by simp only[noRef];exact Qae l
structure Au where
 al:List Int
 n:Int
 ms:List Int
 es:List Eg
abbrev auV (a:Au):AV:= .agg [sli a.al,.int .i64 a.n,sli a.ms,egs a.es]
def eg (e:Ed):Eg:=⟨e.1,e.2.1,e.2.2⟩
def au (a:Aut):Au:=⟨nz a.al,a.n,nz a.ms,a.es.map eg⟩
def rmC (r:Rm):List AV:=[.int .i64 r.st,.int .i64 r.rank,.int .i64 r.reason,.int .i64 r.ev]
theorem Qao (l:List Rm):noRefs (l.flatMap rmC)=true:=QaV (fun x=>rfl) l
end Go.AM.SD
namespace Go.AM.SD
def edC (e:Ed):List AV:=[.int .i64 (e.1:Int),.int .i64 (e.2.1:Int),.int .i64 (e.2.2:Int)]
abbrev egsN (l:List Ed):AV:= .fsl (l.flatMap edC) l.length 3
theorem Qaf (l:List Ed):noRefs (l.flatMap edC)=true:=QaV (fun x=>rfl) l
theorem Qak (l:List Ed):noRef (egsN l)=true:=by simp only[noRef];exact Qaf l
theorem QaP {l:List Ed} {i:Nat} {e:Ed} (h:l[i]?=some e):(l.flatMap edC).drop (i*3)= .int .i64 (e.1:Int):: .int .i64 (e.2.1:Int):: .int .i64 (e.2.2:Int)::(l.drop (i+1)).flatMap edC:=QbB (f:=edC) (k:=3) (fun _=>rfl) h
theorem Qqm (l:List Ed):egs (l.map eg)=egsN l:=by
 unfold egs egsN
 rw[List.length_map,List.flatMap_map];rfl
abbrev sliN (l:List Nat):AV:= .fsl (ints (nz l)) l.length 1
theorem Qb2 (l:List Nat):sli (nz l)=sliN l:=by unfold sli sliN;rw[List.length_map]
theorem Qab (l:List Nat):noRef (sliN l)=true:=by simp only[noRef];exact Qae _
theorem Qaz {l:List Nat} {i x:Nat} (h:l[i]?=some x):((ints (nz l)).drop i).head?=some (.int .i64 (x:Int)):=Qa7 (nz_at h)
abbrev aV (a:Aut):AV:= .agg [sliN a.al,.int .i64 (a.n:Int),sliN a.ms,egsN a.es]
theorem Qoj (a:Aut):auV (au a)=aV a:=by
 show AV.agg [sli (nz a.al),.int .i64 (a.n:Int),sli (nz a.ms),egs (a.es.map eg)]=_
 rw[Qb2,Qb2,Qqm]
theorem Qc7 (a:Aut):noRef (aV a)=true:=by rw[aV,noRef,noRefs,noRefs,noRefs,noRefs,Qab,Qab,Qak];rfl
def bls (l:List Bool):List AV:=l.map .bool
theorem Qan (l:List Bool):noRefs (bls l)=true:=by
 induction l with
 |nil=>rfl
 |cons x l ih=>simp only[bls,List.map_cons,noRefs,noRef,Bool.true_and];exact ih
theorem Qmv {l:List Bool}:(bls l).length=l.length:=by simp[bls]
theorem QaB {a b:List Int}:ints (a++b)=ints a++ints b:=by simp[ints]
theorem QaI {a b:List Nat}:nz (a++b)=nz a++nz b:=by simp
theorem Qd1 {α:Type} {l:List α} {x:α} (h:x∈l):∃j:Nat,l[j]?=some x/\j<l.length:=by
 obtain⟨j,hj⟩:=List.mem_iff_getElem?.1 h
 exact⟨j,hj,(List.getElem?_eq_some_iff.1 hj).1⟩
theorem QkK {l:List Nat} {x:Nat}:decide ((x:Int)∈nz l)=l.contains x:=by
 have:(x:Int)∈nz l↔x∈l:=⟨fun h=>by
  obtain⟨y,hy,e⟩:=List.mem_map.1 h
  have e:y=x:=by omega
  exact e▸hy,fun h=>List.mem_map.2 ⟨x,h,rfl⟩⟩
 by_cases h:x∈l
 ·rw[decide_eq_true (this.2 h)];simp[h]
 ·rw[decide_eq_false fun h2=>h (this.1 h2)];simp[h]
end Go.AM.SD
namespace Go.AM
theorem QkL {s:List UInt8}:(AV.str s).cells=[.str s]:=rfl
theorem Qok {s:List UInt8}:(AV.str s).one=true:=rfl
theorem Qol {s:List UInt8}:(AV.str s).boxable=true:=rfl
theorem Qjc {a b:List UInt8}:aBin .add (.str a) (.str b)=if a.length+b.length<=140737488355328 then some (.str (a++b))else none:=rfl
open SD
theorem wW:type_of% @QfB/\type_of% @wordsM/\type_of% @QkJ/\type_of% @Qjb/\type_of% @Int.one_mul/\type_of% @Qmv/\type_of% @QeU/\type_of% @QkI/\type_of% @Qoh/\type_of% @Qoi/\type_of% @List.length_replicate.{0}/\type_of% @QkL/\type_of% @Qok/\type_of% @Qol/\type_of% @Qj7/\type_of% @QnX/\type_of% @QdP/\type_of% @Qjc:=
 ⟨@QfB,@wordsM,@QkJ,@Qjb,@Int.one_mul,@Qmv,@QeU,@QkI,@Qoh,@Qoi,@List.length_replicate,@QkL,@Qok,@Qol,@Qj7,@QnX,@QdP,@Qjc⟩
end Go.AM
namespace Go.AM.SE
open Go.Proofs
set_option maxHeartbeats 4000000
noncomputable section
def cf:YA.Cf:={most:= .pure,always:=[41,177,178,179,181,182,217,220,221,222,243,244,245,246,247,248,249,250,260].map fun k=>(k,.heap),value:= .pure,eqn:=false}
def s31:SFn:=by
 refine(?f:YA.Yt Tryz.prog cf 31 [[4],[6,7,8,9],[0,1,10],[4,10,11],[],[14,15],[5,16,17,18,19,20,21,22,23],[0,1,12,13,24],[4,24,25],[0,1,12,13]]) ?s ?h
 case h=>exact YA.rr
 exact fun s _=>s
def s33:SFn:=by
 refine(?f:YA.Yt Tryz.prog cf 33 [[0,1,4],[2,3,5,6,7,8,9,10,11,12,13,14,15,16,17,18,19,20,21,22,23,24,25,26,27,28,29,30]]) ?s ?h
 case h=>exact YA.rr
 exact fun s _=>s
def s38:SFn:=by
 refine(?f:YA.Yt Tryz.prog cf 38 [[4],[0,1,5,6,7,8]]) ?s ?h
 case h=>exact YA.rr
 exact fun s _=>s
def s41:SFn:=by
 refine(?f:YA.Yt Tryz.prog cf 41 [[2],[3],[0,4],[0,4,5,6,7]]) ?s ?h
 case h=>exact YA.rr
 exact fun s _=>s
def s62:SFn:=by
 refine(?f:YA.Yt Tryz.prog cf 62 [[0,6],[],[8,9,10,11],[12,15,16,17,18,19,20,21,22,23],[1,2,3,7,31,29,30,28,27,25,26,24,32,33,34,35,36,37,38],[6,32,13,14],[1,2,3,7,31,29,30,28,27,25,26,24]]) ?s ?h
 case h=>exact YA.rr
 exact fun s _=>s
def s89:SFn:=by
 refine(?f:YA.Yt Tryz.prog cf 89 [[2],[],[],[5],[6,9,10,11,12],[13,14,15,16,17],[13,7,8],[0,3,4,18]]) ?s ?h
 case h=>exact YA.rr
 exact fun s _=>s
def s106:SFn:=by
 refine(?f:YA.Yt Tryz.prog cf 106 [[4],[6,7,8,9],[0,1,10],[4,10,11],[],[14,15],[5,16,17,18,19,20,21,22,23],[0,1,12,13,24],[4,24,25],[0,1,12,13]]) ?s ?h
 case h=>exact YA.rr
 exact fun s _=>s
def s111:SFn:=by
 refine(?f:YA.Yt Tryz.prog cf 111 [[4],[6],[],[9,10],[11,12,13,14,15],[0,1,7,8,5,16,17],[4,5,16,18],[0,1,7,8]]) ?s ?h
 case h=>exact YA.rr
 exact fun s _=>s
def s112:SFn:=by
 refine(?f:YA.Yt Tryz.prog cf 112 [[0,2],[5,6,7],[8],[1,3,9,10],[2,3,9,12,13,14],[1,11],[11,16,17,18],[1,15],[2,15,19,20,21,22,23],[24],[1,4,25,26],[1,4,25,27,28]]) ?s ?h
 case h=>exact YA.rr
 exact fun s _=>s
def s144:SFn:=by
 refine(?f:YA.Yt Tryz.prog cf 144 [[4,5],[10,11],[12],[13,14],[15,16,17,18,19,20,21],[22,23,24,25,26],[9,27,28,29],[9,27,30],[0,1,6,7,8,52,42,51,48,50,49,47,46,45,43,44,41,39,40,38,36,37,31,32,33,34,35,53]]) ?s ?h
 case h=>exact YA.rr
 exact fun s _=>s
def s150:SFn:=by
 refine(?f:YA.Yt Tryz.prog cf 150 [[0],[12,13,14,15],[16,17],[1,3,18,19],[18,20,21,22],[23],[],[26,27],[5,28,29,30],[31],[24,25,32,33],[34],[],[35,36,37],[38,42,43,44,45,46,47,48,41,49,50,8],[9],[51,52,53,54,55,56,57],[51,58,59,60,61,62],[],[66,67,68],[69,70,71,72,73],[74,75,76,77,78,79,80],[81,82,83,84,85],[11,74,86,87,88,89,90,91,92,93,94,95,96,97,98,99],[100],[63,64,65,39,40],[1,4,6,7,101,102,103],[3,104]]) ?s ?h
 case h=>exact YA.rr
 exact fun s _=>s
def s185:SFn:=by
 refine(?f:YA.Yt Tryz.prog cf 185 [[1],[9,10],[0,3,11,12,13],[11,14,15],[16,17,18,19,20,21],[],[22,23,24],[25,28,29,30,31,32],[33,34,35,36,37,38,39],[33],[40,41,42,43,44],[47,50,51,52,53,54,55,56,57,58,59,60],[61,62,63],[8,64,65,66,67,68,69,70,71,72,73,74,75,76],[8,64,48,49],[7,26,27],[0,3,5,6,46,45,77,78]]) ?s ?h
 case h=>exact YA.rr
 exact fun s _=>s
def s192:SFn:=by
 refine(?f:YA.Yt Tryz.prog cf 192 [[4],[],[],[10,11,12,13],[15,16,17,21],[0,1,7,8,9,32,26,31,30,27,29,28,20,18,19,5,6,14],[5,6,14,23,24,25,33],[0,1,7,8,9,32,26,31,30,27,29,28,20,18,19,22],[4,22,34],[0,1,7,8,9,32,26,31,30,27,29,28,20,18,19]]) ?s ?h
 case h=>exact YA.rr
 exact fun s _=>s
def s193:SFn:=by
 refine(?f:YA.Yt Tryz.prog cf 193 [[0,2],[6],[],[10,11,12,13],[15,16,17,18,24,25,29,30,36],[1,7,8,9,69,63,68,65,67,66,64,62,59,61,60,58,35,32,34,33,31,28,27,26,23,20,22,21,19,4,3,14],[14,38,39,40,41,42,43],[1,7,8,9,69,63,68,65,67,66,64,62,59,61,60,58,35,32,34,33,31,28,27,26,23,20,22,21,19,4,3,37],[2,37,44],[3,45,46,47,48,49,50,51],[4,5,52,53,54,55,56,57],[1,7,8,9,69,63,68,65,67,66,64,62,59,61,60,58,35,32,34,33,31,28,27,26,23,20,22,21,19,70],[2,70,71],[1,7,8,9,69,63,68,65,67,66,64,62,59,61,60,58,35,32,34,33,31,28,27,26,23,20,22,21,19]]) ?s ?h
 case h=>exact YA.rr
 exact fun s _=>s
def s197:SFn:=by
 refine(?f:YA.Yt Tryz.prog cf 197 [[4],[0,1,5,6,7,8,9,10,11,12,13,14,15,16]]) ?s ?h
 case h=>exact YA.rr
 exact fun s _=>s
def s198:SFn:=by
 refine(?f:YA.Yt Tryz.prog cf 198 [[2],[0,3,4,5]]) ?s ?h
 case h=>exact YA.rr
 exact fun s _=>s
def s199:SFn:=by
 refine(?f:YA.Yt Tryz.prog cf 199 [[0,4],[10,11,12,13,9,14,15,6],[1,17,18,19,20,21,16,22,23,8],[2,5,7,24,25,26,27,28]]) ?s ?h
 case h=>exact YA.rr
 exact fun s _=>s
def s224:SFn:=by
 refine(?f:YA.Yt Tryz.prog cf 224 [[],[0,3,4,5,6]]) ?s ?h
 case h=>exact YA.rr
 exact fun s _=>s
def s225:SFn:=by
 refine(?f:YA.Yt Tryz.prog cf 225 [[0],[8,9],[10,11,12],[13,14,15],[],[16,17,18],[19,22,23,24,25,26,27],[28,29,30,31,32,33,34],[28],[35,36,37,38],[39,42,43,44,45,46,47,48,49,50,51,52],[53],[7,54,55,56,57,58,59,60,61,62,63,64,65,66,67,68,69],[7,54,40,41],[6,20,21],[1,3,4,5,70]]) ?s ?h
 case h=>exact YA.rr
 exact fun s _=>s
def s227:SFn:=by
 refine(?f:YA.Yt Tryz.prog cf 227 [[2],[0,3,4,5]]) ?s ?h
 case h=>exact YA.rr
 exact fun s _=>s
def s228:SFn:=by
 refine(?f:YA.Yt Tryz.prog cf 228 [[6,7],[12,13],[14],[15,16],[17,18,19,20,21,22,23],[24,25,26,27,28,29,30],[11,31,32,33],[11,31,34],[0,1,2,8,9,10,47,46,40,44,45,43,41,42,35,36,37,38,39,48]]) ?s ?h
 case h=>exact YA.rr
 exact fun s _=>s
def s229:SFn:=by
 refine(?f:YA.Yt Tryz.prog cf 229 [[0,4],[1,2,5,6,7,8]]) ?s ?h
 case h=>exact YA.rr
 exact fun s _=>s
def s230:SFn:=by
 refine(?f:YA.Yt Tryz.prog cf 230 [[0,4],[1,2,5,6,7,8]]) ?s ?h
 case h=>exact YA.rr
 exact fun s _=>s
def s259:SFn:=by
 refine(?f:YA.Yt Tryz.prog cf 259 [[0,2],[],[7,8],[9,10,11,12],[9],[13,14,15],[16],[19,20,21,22],[23,26,27,28,29,30,31,32,33,34,35,36],[37,38,39],[6,44,45,46,47,48],[6,44,24,25],[5,17,18],[1,3,4,43,42,40,41,49]]) ?s ?h
 case h=>exact YA.rr
 exact fun s _=>s
def s260:SFn:=by
 refine(?f:YA.Yt Tryz.prog cf 260 [[4],[],[6,7,8],[9,12,13,14,15,16],[0,1,5,17],[4,17,10,11],[0,1,5]]) ?s ?h
 case h=>exact YA.rr
 exact fun s _=>s
def s261:SFn:=by
 refine(?f:YA.Yt Tryz.prog cf 261 [[4],[],[6,7,8],[9,12,13,14,15,16],[0,1,5,17,18],[4,17,10,11],[0,1,5]]) ?s ?h
 case h=>exact YA.rr
 exact fun s _=>s
theorem ok31:okFn Tryz.prog 31 s31=true:=by kernel_rfl
theorem ok33:okFn Tryz.prog 33 s33=true:=by kernel_rfl
theorem ok38:okFn Tryz.prog 38 s38=true:=by kernel_rfl
theorem ok41:okFn Tryz.prog 41 s41=true:=by kernel_rfl
theorem ok62:okFn Tryz.prog 62 s62=true:=by kernel_rfl
theorem ok89:okFn Tryz.prog 89 s89=true:=by kernel_rfl
theorem ok106:okFn Tryz.prog 106 s106=true:=by kernel_rfl
theorem ok111:okFn Tryz.prog 111 s111=true:=by kernel_rfl
theorem ok112:okFn Tryz.prog 112 s112=true:=by kernel_rfl
theorem ok144:okFn Tryz.prog 144 s144=true:=by kernel_rfl
theorem ok150:okFn Tryz.prog 150 s150=true:=by kernel_rfl
theorem ok185:okFn Tryz.prog 185 s185=true:=by kernel_rfl
theorem ok192:okFn Tryz.prog 192 s192=true:=by kernel_rfl
theorem ok193:okFn Tryz.prog 193 s193=true:=by kernel_rfl
theorem ok197:okFn Tryz.prog 197 s197=true:=by kernel_rfl
theorem ok198:okFn Tryz.prog 198 s198=true:=by kernel_rfl
theorem ok199:okFn Tryz.prog 199 s199=true:=by kernel_rfl
theorem ok224:okFn Tryz.prog 224 s224=true:=by kernel_rfl
theorem ok225:okFn Tryz.prog 225 s225=true:=by kernel_rfl
theorem ok227:okFn Tryz.prog 227 s227=true:=by kernel_rfl
theorem ok228:okFn Tryz.prog 228 s228=true:=by kernel_rfl
theorem ok229:okFn Tryz.prog 229 s229=true:=by kernel_rfl
theorem ok230:okFn Tryz.prog 230 s230=true:=by kernel_rfl
theorem ok259:okFn Tryz.prog 259 s259=true:=by kernel_rfl
theorem ok260:okFn Tryz.prog 260 s260=true:=by kernel_rfl
theorem ok261:okFn Tryz.prog 261 s261=true:=by kernel_rfl
end
end Go.AM.SE
namespace Go.AM.SE
open Go.Proofs Go.AM.SD
theorem PSpec.weak {P:Program} {f:Nat} {args bs:List AV} {v:AV} (hL:∀(ok:Okc) (c:Ctx ok) (w:World) (vs:List Value),HRel c .e w->VRels c w args vs->VRels c w bs vs) (hn:noRefs args=true) (hp:PSpec P f bs v):PSpec P f args v:=by
 obtain⟨n1,n2,h',hc,hs⟩:=hp
 exact⟨hn,n2,h',hc,fun c w cargs H ha=>hs c w cargs H (hL _ c w _ H ha)⟩
theorem _root_.Go.AM.au0 {p:Prop} (h:p:=by repeat (first|exact RO.zero|exact RO.e|refine RO.set rfl ?_)):p:=h
theorem _root_.Go.AM.au1 {p:Prop} (h:p:=by repeat' (first|exact RB.nil|(refine RnL.same ?_;first|rfl|(simp only[noRef,noRefs,Qai,Bool.and_self,Bool.and_true,Bool.true_and,Qae,Qam,Qaf,Qao,Qan,Qau,Qab,Qbl,Qak];done))|exact RnM.keyM rfl|exact RnL.nil|exact(True.intro:RnM _ _ _ [] [])|refine RnL.cons ?_ ?_|(refine Rn.same ?_;first|rfl|(simp only[noRef,noRefs,Qai,Bool.and_self,Bool.and_true,Bool.true_and,Qae,Qam,Qaf,Qao,Qan,Qau,Qab,Qbl,Qak];done))|exact Rn.x1 rfl rfl|exact Rn.x2 rfl rfl|exact Rn.x3 rfl rfl|exact Rn.x4 rfl rfl|exact Rn.x5 rfl|exact Rn.x6 rfl|exact Rn.x7 rfl|refine RB.newnil rfl rfl ?_|refine RB.cells rfl rfl rfl ?_ ?_|refine RB.map rfl rfl rfl ?_ ?_|refine RB.cellsB rfl rfl ?_ ?_|refine RB.mapB rfl rfl ?_ ?_)):p:=h
theorem _root_.Go.AM.au2 {p:Prop} (h:p:=by repeat (first|exact RT.nil|(refine RT.cons ?_ ?_; · (first|exact Rn.any|exact Rn.x1 rfl rfl|exact Rn.x2 rfl rfl|exact Rn.x3 rfl rfl|exact Rn.x4 rfl rfl|exact Rn.x5 rfl|exact Rn.x6 rfl|exact Rn.x7 rfl|(refine Rn.slot ?_ ?_;(first|rfl|(rw[Int.natCast_add];rfl));(first|rfl|(simp only[noRef,noRefs,Qai,Bool.and_self,Bool.and_true,Bool.true_and,Qae,Qam,Qaf,Qao,Qan,Qau,Qab,Qbl,Qak];done)))|(refine Rn.fn ?_ ?_<;>(repeat' (first|exact RnL.nil|refine RnL.cons ?_ ?_|exact Rn.same rfl|exact Rn.x6 rfl|exact Rn.x2 rfl rfl|exact Rn.x5 rfl|exact Rn.x1 rfl rfl))))))):p:=h
theorem has36 (l:List Int) (n:Int) (hl:l.length<=140737488355328):PSpec Tryz.prog 260 [sli l,.int .i64 n] (.bool (decide (n∈l))):=by
  refine PSpec.Qal 64 ok260 rfl (by(try simp only[noRefs,Qae,Qam,Qaf,Qao,Qan,noRef,Bool.and_self,Bool.and_true])<;>rfl) rfl ?_
  simp(disch:=first|omega|(simp only[lenW]<;>omega)) only[s260,wV,simprocAttr]
  refine QaK 100 (fun i:Nat=>[(0,sli l),(1,.int .i64 n),(5,.int .i64 i)]) (fun _=>[]) (fun i=>i<=l.length/\∀(j:Nat) y,j<i->l[j]?=some y->y≠n) (fun i=>l.length-i) 0 ⟨[],rfl,au0,au1,au2⟩ ⟨Nat.zero_le _,fun j y hj=>absurd hj (Nat.not_lt_zero _)⟩ ?_
  rintro i ⟨hi,hb⟩
  by_cases hlt:i<l.length
  · obtain ⟨x, hx⟩ := Qag hlt
    by_cases h0:x=n
    · simp (disch := first | omega | (simp only [lenW] <;> omega)) only [hlt, Qa7 hx, h0, wV, simprocAttr]
      refine⟨.inr trivial,_,rfl,?_⟩
      have:n∈l:=h0▸List.mem_of_getElem? hx
      simp[resOf,QaT,this]
    · simp (disch := first | omega | (simp only [lenW] <;> omega)) only [hlt, Qa7 hx, h0, wV, simprocAttr]
      refine⟨i+1,by omega,⟨by omega,fun j y hj hy=>?_⟩,⟨[],rfl,au0,au1,au2⟩⟩
      by_cases e:j=i
      · subst e;rw[hx]at hy;cases hy;exact h0
      · exact hb j y (by omega) hy
  · have : n ∉ l := fun h => by
      obtain⟨j,hj,hjl⟩:=Qd1 h
      exact hb j n (by omega) hj rfl
    simp(disch:=first|omega|(simp only[lenW]<;>omega)) only[hlt,wV,simprocAttr]
    exact⟨.inr trivial,_,rfl,by simp[resOf,QaT,this]⟩
def indexR (l:List Int) (n:Int):Int:=if n∈l then(l.findIdx (· ==n):Int)else-1
theorem index70 (l : List Int) (n : Int) (hl : l.length <= 140737488355328) : PSpec Tryz.prog 111 [sli l, .int .i64 n] (.int .i64 (indexR l n)) := by
  refine PSpec.Qal 64 ok111 rfl (by(try simp only[noRefs,Qae,Qam,Qaf,Qao,Qan,noRef,Bool.and_self,Bool.and_true])<;>rfl) rfl ?_
  simp(disch:=first|omega|(simp only[lenW]<;>omega)) only[s111,wV,simprocAttr]
  refine QaK 100 (fun i:Nat=>[(0,sli l),(1,.int .i64 n),(7,.int .i64 l.length),(8,.int .i64 i)]) (fun _=>[]) (fun i=>i<=l.length/\∀(j:Nat) y,j<i->l[j]?=some y->y≠n) (fun i=>l.length-i) 0 ⟨[],rfl,au0,au1,au2⟩ ⟨Nat.zero_le _,fun j y hj=>absurd hj (Nat.not_lt_zero _)⟩ ?_
  rintro i ⟨hi,hb⟩
  by_cases hlt:i<l.length
  · obtain ⟨x, hx⟩ := Qag hlt
    by_cases h0:n=x
    · simp (disch := first | omega | (simp only [lenW] <;> omega)) only [hlt, Qa7 hx, h0, wV, simprocAttr]
      refine⟨.inr trivial,_,rfl,?_⟩
      have h1:n∈l:=h0▸List.mem_of_getElem? hx
      have h2:l.findIdx (· ==n)=i:=by
        rw[List.findIdx_eq hlt]
        refine⟨by rw[List.getElem?_eq_getElem hlt]at hx;cases hx;simp[h0],fun j hj=>?_⟩
        have:=hb j l[j] hj (List.getElem?_eq_getElem (by omega))
        simpa using this
      subst h0
      simp only[indexR,if_pos h1,h2];rfl
    · simp (disch := first | omega | (simp only [lenW] <;> omega)) only [hlt, Qa7 hx, h0, wV, simprocAttr]
      refine⟨i+1,by omega,⟨by omega,fun j y hj hy=>?_⟩,⟨[],rfl,au0,au1,au2⟩⟩
      by_cases e:j=i
      · subst e;rw[hx]at hy;cases hy;exact fun e=>h0 e.symm
      · exact hb j y (by omega) hy
  · have : n ∉ l := fun h => by
      obtain⟨j,hj,hjl⟩:=Qd1 h
      exact hb j n (by omega) hj rfl
    simp(disch:=first|omega|(simp only[lenW]<;>omega)) only[hlt,wV,simprocAttr]
    exact⟨.inr trivial,_,rfl,by simp only[indexR,if_neg this];rfl⟩
theorem contains62 (l:List Int) (n:Int) (hl:l.length<=140737488355328):PSpec Tryz.prog 38 [sli l,.int .i64 n] (.bool (decide (n∈l))):=by
  refine PSpec.Qal 64 ok38 rfl (by(try simp only[noRefs,Qae,Qam,Qaf,Qao,Qan,noRef,Bool.and_self,Bool.and_true])<;>rfl) rfl ?_
  simp(disch:=first|omega|(simp only[lenW]<;>omega)) only[s38,wV,simprocAttr]
  refine cp (index70 l n hl) ?_
  have e:decide (0<=indexR l n)=decide (n∈l):=by
    unfold indexR
    by_cases h:n∈l
    · rw[if_pos h];simp[h]
    · rw[if_neg h];simp[h]
  by_cases h:n∈l
  · have e2 : 0 <= indexR l n := by rw [decide_eq_decide] at e; exact e.2 h
    simp(disch:=first|omega|(simp only[lenW]<;>omega)) only[e2,wV,simprocAttr]
    exact⟨.inr trivial,_,rfl,by simp[resOf,QaT,h]⟩
  · have e2 : ¬ 0 <= indexR l n := by rw [decide_eq_decide] at e; exact fun h2 => h (e.1 h2)
    simp(disch:=first|omega|(simp only[lenW]<;>omega)) only[e2,wV,simprocAttr]
    exact⟨.inr trivial,_,rfl,by simp[resOf,QaT,h]⟩
end Go.AM.SE
namespace Go.AM.SE
open Go.Proofs Go.AM.SD
theorem QcE {k:IntKind} {a i:Nat} (hi:i<=k.bits):aBin .shr (.int k (a:Int)) (.int .i64 (i:Int))=some (.int k ((a/2^i:Nat):Int)):=by
 have h1:¬(i:Int)<0:=by omega
 simp only[aBin,if_neg h1]
 have h2:min (i:Int).toNat k.bits=i:=by simp;omega
 rw[h2]
 have:(2:Int)^i=((2^i:Nat):Int):=by norm_cast
 rw[this,Int.fdiv_eq_ediv_of_nonneg _ (Int.natCast_nonneg _)]
 norm_cast
theorem and1 (n a:Nat) (hn:0<n):(BitVec.ofInt n (a:Int)&&&BitVec.ofInt n 1).toNat=a % 2:=by
 rw[BitVec.toNat_and,BitVec.toNat_ofInt,BitVec.toNat_ofInt]
 have h1:((a:Int) % ((2^n:Nat):Int)).toNat=a % 2^n:=by norm_cast
 have h2:((1:Int) % ((2^n:Nat):Int)).toNat=1:=by
  have:1 % 2^n=1:=Nat.mod_eq_of_lt (Nat.one_lt_two_pow (by omega))
  have h3:((1:Int) % ((2^n:Nat):Int))=((1 % 2^n:Nat):Int):=by norm_cast
  rw[h3,this];rfl
 rw[h1,h2,Nat.and_one_is_mod,Nat.mod_mod_of_dvd _ ⟨2^(n-1),by rw[<-Nat.pow_succ'];congr 1;omega⟩]
theorem QcF {a:Nat}:aBin .and (.int .u8 (a:Int)) (.int .u8 1)=some (.int .u8 ((a % 2:Nat):Int)):=by
 simp only[aBin,if_true]
 rw[show IntKind.u8.bits=8 from rfl,and1 8 a (by omega),wr_u8 (by omega) (by omega)]
theorem QdC {s i:Nat}:(((s/2^i % 2:Nat):Int)=1)↔s.testBit i=true:=by
 rw[Nat.testBit_eq_decide_div_mod_eq,decide_eq_true_eq];omega
theorem Qdo {n b i:Nat}:SD.part (i+1) b=SD.part i b++if b.testBit i=true then[i]else[]:=by
 unfold SD.part
 rw[List.range_succ,List.filter_append]
 congr 1
 by_cases h:b.testBit i=true<;>simp[h]
theorem Qc8 {i b:Nat}:(SD.part i b).length<=i:=by
 unfold SD.part
 exact Nat.le_trans (List.length_filter_le _ _) (by simp)
theorem events16 (s:Nat) (hs:s<256):PSpec Tryz.prog 89 [.int .u8 s] (sliN (SD.part 5 s)):=by
  refine PSpec.of_rn 64 ok89 rfl (by(try simp only[noRefs,Qae,Qam,Qaf,Qao,Qan,noRef,Bool.and_self,Bool.and_true])<;>rfl) (Qab _) ?_
  simp(disch:=first|omega|(simp only[lenW]<;>omega)) only[s89,wV,simprocAttr]
  refine QaK 100 (fun i:Nat=>[(0,.int .u8 s),(3,.sl 50 0 0 (SD.part i s).length 1),(4,.int .i64 i)]) (fun i=>[(50,.cells 0 (ints (nz (SD.part i s))))]) (fun i=>i<=5) (fun i=>5-i) 0 ⟨[(50,.nil)],rfl,au0,au1,au2⟩ (Nat.zero_le _) ?_
  rintro i hi
  have hpl:=@Qc8 i s
  by_cases hlt:i<5
  · have hlt2 : (i : Int) < 5 := by omega
    by_cases h0:s.testBit i=true
    · have hb := QdC.2 h0
      have hp:=Qdo (n:=5) (b:=s) (i:=i)
      rw[if_pos h0]at hp
      simp(disch:=first|omega|(simp only[lenW]<;>omega)) only[hlt2,QcE (k:= .u8) (show i<=8 by omega),QcF,hb,wV,simprocAttr]
      refine⟨i+1,by omega,by omega,?_⟩
      rw[hp,QaI,QaB,List.length_append]
      exact⟨[(50,.blk 50 1)],rfl,au0,au1,au2⟩
    · have hb : ¬ ((s / 2 ^ i % 2 : Nat) : Int) = 1 := fun e => h0 (QdC.1 e)
      have hp:=Qdo (n:=5) (b:=s) (i:=i)
      rw[if_neg h0,List.append_nil]at hp
      simp(disch:=first|omega|(simp only[lenW]<;>omega)) only[hlt2,QcE (k:= .u8) (show i<=8 by omega),QcF,hb,wV,simprocAttr]
      refine⟨i+1,by omega,by omega,?_⟩
      rw[hp]
      exact⟨[(50,.blk 50 0)],rfl,au0,au1,au2⟩
  · have hlt2 : ¬ (i : Int) < 5 := by omega
    have e:i=5:=by omega
    subst e
    simp(disch:=first|omega|(simp only[lenW]<;>omega)) only[hlt2,wV,simprocAttr]
    refine⟨.inr trivial,_,rfl,?_⟩
    exact Rn.fz0 rfl (by simp[ints]) (RnL.same (Qae _))
def SetOk (l:List Int) (n:Int):Prop:=(∀x∈l,0<=x/\x<n)/\l.Pairwise (· < ·)
theorem SetOk.up {l:List Int} {n:Int} (h:SetOk l n) {i:Nat} {x y:Int} (hx:l[i]?=some x) (hy:l[i+1]?=some y):x<y:=by
 obtain⟨h1,e1⟩:=List.getElem?_eq_some_iff.1 hx
 obtain⟨h2,e2⟩:=List.getElem?_eq_some_iff.1 hy
 have:=List.pairwise_iff_getElem.1 h.2 i (i+1) h1 h2 (by omega)
 rw[e1,e2]at this;exact this
theorem SetOk.nz {l:List Nat} {n:Nat} (h1:∀x∈l,x<n) (h2:l.Pairwise (· < ·)):SetOk (nz l) n:=by
 refine⟨fun x hx=>?_,?_⟩
 ·obtain ⟨a, ha, rfl⟩ := List.mem_map.1 hx
  have:=h1 a ha;omega
 ·rw[List.pairwise_map];exact h2.imp fun h=>by omega
theorem set49 (l:List Int) (n:Int) (hl:l.length<=140737488355328) (h:SetOk l n):PSpec Tryz.prog 192 [sli l,.int .i64 n] (.int .i64 0):=by
  refine PSpec.Qal 64 ok192 rfl (by(try simp only[noRefs,Qae,Qam,Qaf,Qao,Qan,noRef,Bool.and_self,Bool.and_true])<;>rfl) rfl ?_
  simp(disch:=first|omega|(simp only[lenW]<;>omega)) only[s192,wV,simprocAttr]
  refine QaK 100 (fun i:Nat=>[(0,sli l),(1,.int .i64 n),(7,sli l),(8,.int .i64 l.length),(9,.int .i64 i)]) (fun _=>[]) (fun i=>i<=l.length) (fun i=>l.length-i) 0 ⟨[],rfl,au0,au1,au2⟩ (Nat.zero_le _) ?_
  rintro i hi
  by_cases hlt:i<l.length
  · obtain ⟨x, hx⟩ := Qag hlt
    obtain⟨h1,h2⟩:=h.1 x (List.mem_of_getElem? hx)
    have h1':¬x<0:=by omega
    have h2':¬n<=x:=by omega
    by_cases h0:i=0
    · have h4 : ¬ (0 : Int) < (i : Int) := by omega
      simp(disch:=first|omega|(simp only[lenW]<;>omega)) only[hlt,Qa7 hx,h1',h2',h4,wV,simprocAttr]
      exact⟨i+1,by omega,by omega,⟨[],rfl,au0,au1,au2⟩⟩
    · obtain ⟨y, hy⟩ := Qag (l := l) (i := i - 1) (by omega)
      have h3:=h.up hy (by rw[show i-1+1=i by omega];exact hx)
      have h3':¬x<=y:=by omega
      have h4:(0:Int)<(i:Int):=by omega
      have h5:(i:Int)-1=((i-1:Nat):Int):=by omega
      have h6:((i-1:Nat):Int)<l.length:=by omega
      simp(disch:=first|omega|(simp only[lenW]<;>omega)) only[hlt,Qa7 hx,h1',h2',h4,h5,h6,Qa7 hy,h3',wV,simprocAttr]
      exact⟨i+1,by omega,by omega,⟨[],rfl,au0,au1,au2⟩⟩
  · simp (disch := first | omega | (simp only [lenW] <;> omega)) only [hlt, wV, simprocAttr]
    exact⟨.inr trivial,_,rfl,rfl⟩
end Go.AM.SE
namespace Go.AM.SE
open Go.Proofs Go.AM.SD
structure EgsOk (a:Au):Prop where
 len:a.es.length<=140737488355328
 all:a.al.length<=140737488355328
 fr:∀e∈a.es,0<=e.fr/\e.fr<a.n
 to:∀e∈a.es,0<=e.to/\e.to<a.n
 ev:∀e∈a.es,e.ev∈a.al
 up:a.es.Pairwise fun x y=>x.fr<y.fr\/(x.fr=y.fr/\x.ev<y.ev)
theorem EgsOk.step {a:Au} (h:EgsOk a) {i:Nat} {x y:Eg} (hx:a.es[i]?=some x) (hy:a.es[i+1]?=some y):x.fr<y.fr\/(x.fr=y.fr/\x.ev<y.ev):=by
 obtain⟨h1,e1⟩:=List.getElem?_eq_some_iff.1 hx
 obtain⟨h2,e2⟩:=List.getElem?_eq_some_iff.1 hy
 have:=List.pairwise_iff_getElem.1 h.up i (i+1) h1 h2 (by omega)
 rw[e1,e2]at this;exact this
theorem edges50 (a : Au) (h : EgsOk a) : PSpec Tryz.prog 193 [auV a] (.int .i64 0) := by
  refine PSpec.Qal 64 ok193 rfl (by(try simp only[noRefs,Qae,Qam,Qaf,Qao,Qan,noRef,Bool.and_self,Bool.and_true])<;>rfl) rfl ?_
  have hl:=h.len
  simp(disch:=first|omega|(simp only[lenW]<;>omega)) only[s193,wV,simprocAttr]
  refine QaK 100 (fun i:Nat=>[(1,.ptr 50 0 0),(7,egs a.es),(8,.int .i64 a.es.length),(9,.int .i64 i)]) (fun _=>[(50,.cells 0 [sli a.al,.int .i64 a.n,sli a.ms,egs a.es])]) (fun i=>i<=a.es.length) (fun i=>a.es.length-i) 0 ⟨[(50,.blk 64 0)],rfl,au0,au1,au2⟩ (Nat.zero_le _) ?_
  rintro i hi
  by_cases hlt:i<a.es.length
  · obtain ⟨x, hx⟩ := Qag hlt
    have hm:=List.mem_of_getElem? hx
    obtain⟨f1,f2⟩:=h.fr x hm
    obtain⟨t1,t2⟩:=h.to x hm
    have f1':¬x.fr<0:=by omega
    have f2':¬a.n<=x.fr:=by omega
    have t1':¬x.to<0:=by omega
    have t2':¬a.n<=x.to:=by omega
    have hev:decide (x.ev∈a.al)=true:=decide_eq_true (h.ev x hm)
    simp(disch:=first|omega|(simp only[lenW]<;>omega)) only[hlt,Qc6 hx,f1',f2',t1',t2',wV,simprocAttr]
    refine cp (contains62 a.al x.ev h.all) ?_
    rw[hev]
    by_cases h0:i=0
    · have h4 : (i : Int) = 0 := by omega
      simp(disch:=first|omega|(simp only[lenW]<;>omega)) only[hlt,Qc6 hx,h4,wV,simprocAttr]
      exact⟨1,by omega,by omega,⟨[(50,.blk 50 0)],rfl,au0,au1,au2⟩⟩
    · obtain ⟨y, hy⟩ := Qag (l := a.es) (i := i - 1) (by omega)
      have h4:¬(i:Int)=0:=by omega
      have h5:(i:Int)-1=((i-1:Nat):Int):=by omega
      have h6:((i-1:Nat):Int)<a.es.length:=by omega
      rcases h.step hy (by rw[show i-1+1=i by omega];exact hx)with h3|⟨h3,h3b⟩
      · have g1 : ¬ x.fr < y.fr := by omega
        have g2:¬x.fr=y.fr:=by omega
        simp(disch:=first|omega|(simp only[lenW]<;>omega)) only[hlt,Qc6 hx,h4,h5,h6,Qc6 hy,g1,g2,wV,simprocAttr]
        exact⟨i+1,by omega,by omega,⟨[(50,.blk 50 0)],rfl,au0,au1,au2⟩⟩
      · have g1 : ¬ x.fr < y.fr := by omega
        have g2:x.fr=y.fr:=by omega
        have g3:¬x.ev<=y.ev:=by omega
        simp(disch:=first|omega|(simp only[lenW]<;>omega)) only[hlt,Qc6 hx,h4,h5,h6,Qc6 hy,g1,g2,g3,wV,simprocAttr]
        exact⟨i+1,by omega,by omega,⟨[(50,.blk 50 0)],rfl,au0,au1,au2⟩⟩
  · simp (disch := first | omega | (simp only [lenW] <;> omega)) only [hlt, wV, simprocAttr]
    exact⟨.inr trivial,_,rfl,rfl⟩
structure AuOk (a:Au):Prop extends EgsOk a where
 alS:SetOk a.al 32
 msS:SetOk a.ms a.n
 mslen:a.ms.length<=140737488355328
 n0:0<=a.n
 nm:a.n<=4096
theorem check37 (a:Au) (h:AuOk a):PSpec Tryz.prog 112 [auV a] (.int .i64 0):=by
 refine PSpec.Qal 64 ok112 rfl (by(try simp only[noRefs,Qae,Qam,Qaf,Qao,Qan,noRef,Bool.and_self,Bool.and_true])<;>rfl) rfl ?_
 have h1:¬a.n<0:=by have:=h.n0;omega
 have h2:¬4096<a.n:=by have:=h.nm;omega
 simp(disch:=first|omega|(simp only[lenW]<;>omega)) only[s112,wV,simprocAttr]
 refine cp (set49 a.al 32 h.all h.alS) ?_
 simp(disch:=first|omega|(simp only[lenW]<;>omega)) only[h1,h2,wV,simprocAttr]
 refine cp (set49 a.ms a.n h.mslen h.msS) ?_
 simp(disch:=first|omega|(simp only[lenW]<;>omega)) only[wV,simprocAttr]
 refine cp (edges50 a h.toEgsOk) ?_
 simp(disch:=first|omega|(simp only[lenW]<;>omega)) only[wV,simprocAttr]
 exact⟨.inr trivial,_,rfl,rfl⟩
end Go.AM.SE
namespace Go.AM.SE
open Go.Proofs Go.AM.SD
abbrev backF (es:List Ed):Nat->AV:=fun k=>sliN (preds es k)
end Go.AM.SE
namespace Go.AM.SE
open Go.Proofs Go.AM.SD
theorem Qdh {f:Nat->AV} (h:∀x,noRef (f x)=true) (l:List Nat):noRefs (l.map f)=true:=by
 induction l with
 |nil=>rfl
 |cons x l ih=>simp only[List.map_cons,noRefs,h,ih];rfl
theorem Qav (k:IntKind) (l:List Nat):noRefs (l.map fun x:Nat=>AV.int k (x:Int))=true:=Qdh (fun _=>rfl) l
theorem Qay (es:List Ed) (l:List Nat):noRefs (l.map (backF es))=true:=Qdh (fun x=>Qab _) l
theorem Qpz (n:Nat) (x:Int):(List.replicate n [AV.int .i64 x]).flatten=ints (List.replicate n x):=by
 induction n with
 |zero=>rfl
 |succ n ih=>rw[List.replicate_succ,List.flatten_cons,ih];rfl
theorem Qom {n i:Nat} (h:i<n):(List.replicate i (-1:Int)++List.replicate (n-i) 0).set i (-1)=List.replicate (i+1) (-1)++List.replicate (n-(i+1)) 0:=by
 rw[List.set_append_right _ _ (by simp),List.length_replicate,Nat.sub_self,show n-i=(n-(i+1))+1 by omega,List.replicate_succ,List.set_cons_zero,List.replicate_succ',List.append_assoc];rfl
theorem QeV {l:List Int} {i:Nat} {x:Int}:(ints l).set i (.int .i64 x)=ints (l.set i x):=by simp[ints,List.map_set]
theorem Qd2 {l:List Int} {i:Nat} {x:Int} (h:l[i]?=some x):(ints l)[i]?=some (.int .i64 x):=by simp[ints,h]
theorem QcG {l:List Int} {i:Nat} (h:i<l.length):(ints l)[i]?=some (.int .i64 (l.getD i 0)):=by simp[ints,h]
end Go.AM.SE
namespace Go.AM.SE
open Go.Proofs Go.AM.SD
def bkC (rank:Int) (x:Nat):List AV:=[.int .i64 (x:Int),.int .i64 rank,.int .i64 3,.int .i64 (-1)]
theorem QbH (rank:Int) (l:List Nat):noRefs (l.flatMap (bkC rank))=true:=QaV (fun x=>rfl) l
def lsC (rank:Int) (p:Nat×Nat):List AV:=[.int .i64 (p.1:Int),.int .i64 rank,.int .i64 2,.int .i64 (p.2:Int)]
theorem QaD (rank:Int) (l:List (Nat×Nat)):noRefs (l.flatMap (lsC rank))=true:=QaV (fun x=>rfl) l
end Go.AM.SE
namespace Go.AM.SE
open Go.Proofs Go.AM.SD
theorem Qon (l:List Int):flatVs (ints l)=true:=by
 induction l with
 |nil=>rfl
 |cons x l ih=>simp only[ints,List.map_cons,flatVs,flatV,Bool.true_and];exact ih
theorem FrzTo.all {h:Heap} {b g len sz:Nat} {cs:List AV} (hb:h.get b=some (.cells g cs)) (hl:cs.length=len*sz):FrzTo h (.sl b g 0 len sz) (.fsl cs len sz):=by
 refine FrzTo.sl hb (by omega) ?_
 rw[List.drop_zero,<-hl,List.take_length]
 exact FrzL.same _
theorem WfA.auOk {a:Aut} (h:WfA a) (hel:a.es.length<=1000000):AuOk (au a):=by
 have hal:a.al.length<=5:=by
  have:=QaX 5 a.al (by rw[List.nodup_iff_pairwise_ne];exact h.al.imp fun h=>by omega) h.al5
  exact this
 have hms:a.ms.length<=a.n:=QaX a.n a.ms h.nd h.msn
 have hn5:=h.n5
 refine{len:=?_,all:=?_,fr:=?_,to:=?_,ev:=?_,up:=?_,alS:=SetOk.nz (n:=32) (fun x hx=>by have:=h.al5 x hx;omega) h.al,msS:=SetOk.nz h.msn h.ms,mslen:=?_,n0:=?_,nm:=?_}
 ·show(a.es.map eg).length<=_;simp;omega
 ·show(nz a.al).length<=_;simp;omega
 ·intro e he
  obtain⟨x,hx,rfl⟩:=List.mem_map.1 he
  have:=h.esn x hx
  show(0:Int)<=x.1/\(x.1:Int)<a.n
  omega
 ·intro e he
  obtain⟨x,hx,rfl⟩:=List.mem_map.1 he
  have:=h.esn x hx
  show(0:Int)<=x.2.2/\(x.2.2:Int)<a.n
  omega
 ·intro e he
  obtain⟨x,hx,rfl⟩:=List.mem_map.1 he
  exact List.mem_map.2 ⟨x.2.1,h.ev x hx,rfl⟩
 ·show (a.es.map eg).Pairwise _
  rw[List.pairwise_map]
  refine h.es.imp fun h=>?_
  show(_:Int)<_\/(_:Int)=_/\(_:Int)<_
  simp only[eg]
  omega
 ·show(nz a.ms).length<=_;simp;omega
 ·show(0:Int)<=(a.n:Int);omega
 ·show(a.n:Int)<=4096;omega
structure QOk (a:Aut) (f u:List Nat):Prop where
 fS:f.Pairwise (· < ·)
 fn:∀x∈f,x<a.n
 uS:u.Pairwise (· < ·)
 un:∀x∈u,x<32
theorem Qbq {l:List Nat} {n:Nat} (h:l.Pairwise (· < ·)) (hn:∀x∈l,x<n):l.length<=n:=QaX n l (by rw[List.nodup_iff_pairwise_ne];exact h.imp fun h=>by omega) hn
end Go.AM.SE
namespace Go.AM.SE
open Go.Proofs Go.AM.SD
theorem Qnh:aEq (.nil 2) false .nilsl .nilsl=some (.bool true):=rfl
theorem Qni:aEq (.nil 2) false .nsl .nilsl=some (.bool false):=rfl
theorem QgD {P:Program} {N:NM} {n:Nat} {d:Option Nat} {dead:List Nat} {r:List SOper} {T:Tmps} {h:Heap} {Q:QC} {fs:List Fr} {sz bytes b2 g2 off2 len2:Nat}:wM P N (aAppend .dyn n sz bytes (.sl b2 g2 off2 len2 sz) .nsl) d r dead fs n T h Q=
  wA P N (srcB (h.get b2) g2 off2 len2 sz) (some []) g2 len2 0 sz bytes b2 d r dead fs n T h Q:=Qej
theorem _root_.Go.AM.au3 {p:Prop} (h:p:=by repeat' (first|exact RB.nil|(refine RnL.same ?_;first|rfl|(simp only[noRef,noRefs,Qai,Bool.and_self,Bool.and_true,Bool.true_and,Qae,Qam,Qaf,Qao,QaD,QbH,Qan,Qau,Qab,Qbl,Qak,Qav,Qay];done))|exact RnM.keyM rfl|exact RnL.nil|exact(True.intro:RnM _ _ _ [] [])|refine RnL.cons ?_ ?_|(refine Rn.same ?_;first|rfl|(simp only[noRef,noRefs,Qai,Bool.and_self,Bool.and_true,Bool.true_and,Qae,Qam,Qaf,Qao,QaD,QbH,Qan,Qau,Qab,Qbl,Qak,Qav,Qay];done))|exact Rn.x1 rfl rfl|exact Rn.x2 rfl rfl|exact Rn.x3 rfl rfl|exact Rn.x4 rfl rfl|exact Rn.x5 rfl|exact Rn.x6 rfl|exact Rn.x7 rfl|refine RB.newnil rfl rfl ?_|refine RB.cells rfl rfl rfl ?_ ?_|refine RB.map rfl rfl rfl ?_ ?_|refine RB.cellsB rfl rfl ?_ ?_|refine RB.mapB rfl rfl ?_ ?_)):p:=h
theorem _root_.Go.AM.au4 {p:Prop} (h:p:=by repeat (first|exact RT.nil|(refine RT.cons ?_ ?_; · (first|exact Rn.any|exact Rn.x1 rfl rfl|exact Rn.x2 rfl rfl|exact Rn.x3 rfl rfl|exact Rn.x4 rfl rfl|exact Rn.x5 rfl|exact Rn.x6 rfl|exact Rn.x7 rfl|(refine Rn.slot ?_ ?_;(first|rfl|(rw[Int.natCast_add];rfl));(first|rfl|(simp only[noRef,noRefs,Qai,Bool.and_self,Bool.and_true,Bool.true_and,Qae,Qam,Qaf,Qao,QaD,QbH,Qan,Qau,Qab,Qbl,Qak,Qav,Qay];done)))|(refine Rn.fn ?_ ?_<;>(repeat' (first|exact RnL.nil|refine RnL.cons ?_ ?_|exact Rn.same rfl|exact Rn.x6 rfl|exact Rn.x2 rfl rfl|exact Rn.x5 rfl|exact Rn.x1 rfl rfl))))))):p:=h
theorem Qoo:HSpec Tryz.prog 41 [.nilsl] .e (.sl 83 0 0 0 1) (hp [(83,.cells 0 [])]):=by
 refine HSpec.QcQ 100 ok41 rfl ?_
 simp(disch:=first|omega|(simp only[lenW]<;>omega)) only[s41,Qnh,wW,wV,simprocAttr]
 exact⟨.inr trivial,_,rfl,⟨[(83,.nil)],rfl,au0,au3,au4⟩⟩
theorem Qop:HSpec Tryz.prog 41 [.nsl] .e (.sl 83 0 0 0 1) (hp [(83,.cells 0 [])]):=by
 refine HSpec.QcQ 100 ok41 rfl ?_
 simp(disch:=first|omega|(simp only[lenW]<;>omega)) only[s41,Qni,QgD,wW,wV,simprocAttr]
 exact⟨.inr trivial,_,rfl,⟨[(83,.blk 103 1)],rfl,au0,au3,au4⟩⟩
theorem clone56 (l:List Nat) (hl:l.length<=1000000):HSpec Tryz.prog 41 [sliN l] .e (.sl 83 0 0 l.length 1) (hp [(83,.cells 0 (ints (nz l)))]):=by
 cases l with
 |nil=>exact HSpec.empty Qoo Qop
 |cons x l=>
  refine HSpec.QcQ 100 ok41 rfl ?_
  have hq:aEq (.nil 2) false (sliN (x::l)) .nilsl=some (.bool false):=rfl
  have hone:(ints (nz (x::l))).all AV.one=true:=by simp[ints,AV.one]
  generalize x::l=q at*
  simp(disch:=first|omega|(simp only[lenW]<;>omega)) only[s41,hq,hone,wW,wV,simprocAttr]
  exact⟨.inr trivial,_,rfl,⟨[(83,.blk 103 1)],rfl,au0,au3,au4⟩⟩
end Go.AM.SE
namespace Go.AM.SE
open Go.Proofs Go.AM.SD
abbrev frzE (es:List Ed) (left:Nat->Bool):Nat->AV:=fun k=>egsN (sOut es left k)
theorem Qb6 (es:List Ed) (left:Nat->Bool) (l:List Nat):noRefs (l.map (frzE es left))=true:=Qdh (fun x=>Qak _) l
theorem Qbj (l:List Ed):(l.flatMap edC).length=l.length*3:=Qbi (f:=edC) (k:=3) (fun _=>rfl) l
theorem Qg1 (es:List Ed) (left:Nat->Bool) (v:Nat):(sOut es left v).length<=es.length:=by
 unfold sOut;exact List.length_filter_le _ _
def mks (a:Aut) (i:Nat) (o:List Nat):List Nat:=(List.range i).filter fun j=>a.ms.contains (o.getD j 0)
theorem Qmw {a:Aut} {i:Nat} {o:List Nat}:(mks a i o).length<=i:=by
 unfold mks;exact Nat.le_trans (List.length_filter_le _ _) (by simp)
theorem Qqn {a:Aut} {i:Nat} {o t:List Nat} (h:i<=o.length):mks a i (o++t)=mks a i o:=by
 unfold mks
 refine List.filter_congr fun j hj=>?_
 have:=List.mem_range.1 hj
 rw[List.getD_eq_getElem?_getD,List.getD_eq_getElem?_getD,List.getElem?_append_left (by omega)]
theorem QkM {a:Aut} {i v:Nat} {o:List Nat} (h:o[i]?=some v):mks a (i+1) o=mks a i o++if a.ms.contains v then[i]else[]:=by
 unfold mks
 rw[List.range_succ,List.filter_append]
 congr 1
 have:o.getD i 0=v:=by rw[List.getD_eq_getElem?_getD,h];rfl
 rw[List.filter_cons,this];rfl
theorem Qjd {i:Nat} {s:OE} {es:List Ed} {j:Nat} {e:Ed} (h:es[j]?=some e):(es.take (j+1)).foldl (sEd i) s=sEd i ((es.take j).foldl (sEd i) s) e:=by
 rw[List.take_add_one,h,Option.toList,List.foldl_append];rfl
theorem Qd3 {i:Nat}:∀(es:List Ed) (s:OE),(es.foldl (sEd i) s).2.length=s.2.length+es.length
 |[],s=>by simp
 |e::es,s=>by
  rw[List.foldl_cons,Qd3 es]
  unfold sEd;split<;>simp<;>omega
end Go.AM.SE
namespace Go.AM.SE
open Go.Proofs Go.AM.SD
def mach:Aut:=⟨[0,1,2,3],3,[0],[(0,0,1),(1,1,0),(1,2,2),(2,3,0)]⟩
def mach3:Aut:=⟨[0,1,2,3],3,[0],[(0,0,1),(1,1,0),(1,2,2)]⟩
theorem q1:QOk mach [2] [1,2]:=⟨by decide,by decide,by decide,by decide⟩
theorem q2:QOk mach3 [] [1,2]:=⟨by decide,by decide,by decide,by decide⟩
end Go.AM.SE
namespace Go.AM.SE
open Go.Proofs Go.AM.SD
theorem QfV {α:Type} {p:α->Bool} {l:List α} {i:Nat} {x:α} (hx:l[i]?=some x) (hp:p x=true) (hb:∀j y,j<i->l[j]?=some y->p y=false):l.find? p=some x:=by
 obtain⟨hi,e⟩:=List.getElem?_eq_some_iff.1 hx
 rw[List.find?_eq_some_iff_getElem]
 refine⟨hp,i,hi,e,fun j hj=>?_⟩
 have:=hb j l[j] hj (List.getElem?_eq_getElem (by omega))
 simp[this]
def stepI (es:List Ed) (s ev:Nat):Int:=match stepA es s ev with|some to=>(to:Int)|none=> -1
theorem _root_.Go.AM.au5 {p:Prop} (h:p:=by repeat' (first|exact RB.nil|(refine RnL.same ?_;first|rfl|(simp only[noRef,noRefs,Qai,Bool.and_self,Bool.and_true,Bool.true_and,Qae,Qam,Qaf,Qao,QaD,QbH,Qan,Qau,Qab,Qbl,Qak,Qav,Qay,Qb6];done))|exact RnM.keyM rfl|exact RnL.nil|exact(True.intro:RnM _ _ _ [] [])|refine RnL.cons ?_ ?_|(refine Rn.same ?_;first|rfl|(simp only[noRef,noRefs,Qai,Bool.and_self,Bool.and_true,Bool.true_and,Qae,Qam,Qaf,Qao,QaD,QbH,Qan,Qau,Qab,Qbl,Qak,Qav,Qay,Qb6];done))|exact Rn.x1 rfl rfl|exact Rn.x2 rfl rfl|exact Rn.x3 rfl rfl|exact Rn.x4 rfl rfl|exact Rn.x5 rfl|exact Rn.x6 rfl|exact Rn.x7 rfl|refine RB.newnil rfl rfl ?_|refine RB.cells rfl rfl rfl ?_ ?_|refine RB.map rfl rfl rfl ?_ ?_|refine RB.cellsB rfl rfl ?_ ?_|refine RB.mapB rfl rfl ?_ ?_)):p:=h
theorem _root_.Go.AM.au6 {p:Prop} (h:p:=by repeat (first|exact RT.nil|(refine RT.cons ?_ ?_; · (first|exact Rn.any|exact Rn.x1 rfl rfl|exact Rn.x2 rfl rfl|exact Rn.x3 rfl rfl|exact Rn.x4 rfl rfl|exact Rn.x5 rfl|exact Rn.x6 rfl|exact Rn.x7 rfl|(refine Rn.slot ?_ ?_;(first|rfl|(rw[Int.natCast_add];rfl));(first|rfl|(simp only[noRef,noRefs,Qai,Bool.and_self,Bool.and_true,Bool.true_and,Qae,Qam,Qaf,Qao,QaD,QbH,Qan,Qau,Qab,Qbl,Qak,Qav,Qay,Qb6];done)))|(refine Rn.fn ?_ ?_<;>(repeat' (first|exact RnL.nil|refine RnL.cons ?_ ?_|exact Rn.same rfl|exact Rn.x6 rfl|exact Rn.x2 rfl rfl|exact Rn.x5 rfl|exact Rn.x1 rfl rfl))))))):p:=h
theorem step60 (a : Aut) (s ev : Nat) (hel : a.es.length <= 1000000) : PSpec Tryz.prog 62 [aV a, .int .i64 s, .int .i64 ev] (.int .i64 (stepI a.es s ev)) := by
  refine PSpec.Qal 64 ok62 rfl (by(try simp only[noRefs,Qav,Qay,Qae,Qam,Qaf,Qao,QaD,Qan,noRef,Bool.and_self,Bool.and_true])<;>rfl) rfl ?_
  simp(disch:=first|omega|(simp only[lenW]<;>omega)) only[s62,wW,wV,simprocAttr]
  refine QaK 100 (fun i:Nat=>[(1,.int .i64 s),(2,.int .i64 ev),(3,.ptr 50 0 0),(7,.int .i64 i)]) (fun _=>[(50,.cells 0 [sliN a.al,.int .i64 (a.n:Int),sliN a.ms,egsN a.es])])
    (fun i=>i<=a.es.length/\∀(j:Nat) y,j<i->a.es[j]?=some y->(y.1==s&&y.2.1==ev)=false) (fun i=>a.es.length-i) 0 ⟨[(50,.blk 64 0)],rfl,au0,au5,au6⟩ ⟨Nat.zero_le _,fun j y hj=>absurd hj (Nat.not_lt_zero _)⟩ ?_
  rintro i ⟨hi,hb⟩
  by_cases hlt:i<a.es.length
  · obtain ⟨e, he⟩ := Qag hlt
    have hno:(e.1==s&&e.2.1==ev)=false->i+1<=a.es.length/\∀(j:Nat) y,j<i+1->a.es[j]?=some y->(y.1==s&&y.2.1==ev)=false:=fun h=>⟨by omega,fun j y hj hy=>by
      by_cases e2:j=i
      · subst e2;rw[he]at hy;cases hy;exact h
      · exact hb j y (by omega) hy⟩
    by_cases h1:e.1=s
    · by_cases h2 : e.2.1 = ev
      · have hf := QfV (p := fun e : Ed => e.1 == s && e.2.1 == ev) he (by simp [h1, h2]) hb
        have hs:stepI a.es s ev=e.2.2:=by unfold stepI stepA;rw[hf];rfl
        have h1':(e.1:Int)=(s:Int):=by omega
        have h2':(e.2.1:Int)=(ev:Int):=by omega
        simp(disch:=first|omega|(simp only[lenW]<;>omega)) only[hlt,QaP he,h1',h2',wW,wV,simprocAttr]
        exact⟨.inr trivial,_,rfl,by rw[hs];rfl⟩
      · have h1' : (e.1 : Int) = (s : Int) := by omega
        have h2':¬(e.2.1:Int)=(ev:Int):=by omega
        simp(disch:=first|omega|(simp only[lenW]<;>omega)) only[hlt,QaP he,h1',h2',wW,wV,simprocAttr]
        exact⟨i+1,by omega,hno (by simp[h2]),⟨[(50,.blk 50 0)],rfl,au0,au5,au6⟩⟩
    · have h1' : ¬ (e.1 : Int) = (s : Int) := by omega
      simp(disch:=first|omega|(simp only[lenW]<;>omega)) only[hlt,QaP he,h1',wW,wV,simprocAttr]
      exact⟨i+1,by omega,hno (by simp[h1]),⟨[(50,.blk 50 0)],rfl,au0,au5,au6⟩⟩
  · have hf : a.es.find? (fun e => e.1 == s && e.2.1 == ev) = none := by
      rw[List.find?_eq_none]
      intro y hy
      obtain⟨j,hj,hjl⟩:=Qd1 hy
      rw[hb j y (by omega) hj];decide
    have hs:stepI a.es s ev= -1:=by unfold stepI stepA;rw[hf];rfl
    simp(disch:=first|omega|(simp only[lenW]<;>omega)) only[hlt,wW,wV,simprocAttr]
    exact⟨.inr trivial,_,rfl,by rw[hs];rfl⟩
theorem index61 (l : List Int) (n : Int) (hl : l.length <= 140737488355328) : PSpec Tryz.prog 261 [sli l, .int .i64 n] (.int .i64 (indexR l n)) := by
  refine PSpec.Qal 64 ok261 rfl (by(try simp only[noRefs,Qav,Qay,Qae,Qam,Qaf,Qao,QaD,Qan,noRef,Bool.and_self,Bool.and_true])<;>rfl) rfl ?_
  simp(disch:=first|omega|(simp only[lenW]<;>omega)) only[s261,wW,wV,simprocAttr]
  refine QaK 100 (fun i:Nat=>[(0,sli l),(1,.int .i64 n),(5,.int .i64 i)]) (fun _=>[]) (fun i=>i<=l.length/\∀(j:Nat) y,j<i->l[j]?=some y->y≠n) (fun i=>l.length-i) 0 ⟨[],rfl,au0,au5,au6⟩ ⟨Nat.zero_le _,fun j y hj=>absurd hj (Nat.not_lt_zero _)⟩ ?_
  rintro i ⟨hi,hb⟩
  by_cases hlt:i<l.length
  · obtain ⟨x, hx⟩ := Qag hlt
    by_cases h0:x=n
    · have h1 : n ∈ l := h0 ▸ List.mem_of_getElem? hx
      have h2:l.findIdx (· ==n)=i:=by
        rw[List.findIdx_eq hlt]
        refine⟨by rw[List.getElem?_eq_getElem hlt]at hx;cases hx;simp[h0],fun j hj=>?_⟩
        have:=hb j l[j] hj (List.getElem?_eq_getElem (by omega))
        simpa using this
      simp(disch:=first|omega|(simp only[lenW]<;>omega)) only[hlt,Qa7 hx,h0,wW,wV,simprocAttr]
      refine⟨.inr trivial,_,rfl,?_⟩
      simp only[indexR,if_pos h1,h2];rfl
    · simp (disch := first | omega | (simp only [lenW] <;> omega)) only [hlt, Qa7 hx, h0, wW, wV, simprocAttr]
      refine⟨i+1,by omega,⟨by omega,fun j y hj hy=>?_⟩,⟨[],rfl,au0,au5,au6⟩⟩
      by_cases e:j=i
      · subst e;rw[hx]at hy;cases hy;exact h0
      · exact hb j y (by omega) hy
  · have : n ∉ l := fun h => by
      obtain⟨j,hj,hjl⟩:=Qd1 h
      exact hb j n (by omega) hj rfl
    simp(disch:=first|omega|(simp only[lenW]<;>omega)) only[hlt,wW,wV,simprocAttr]
    exact⟨.inr trivial,_,rfl,by simp only[indexR,if_neg this];rfl⟩
theorem QkN {l:List Nat} {x:Nat} (h:x∈l):indexR (nz l) x=idx l x:=by
  have h1:(x:Int)∈nz l:=List.mem_map.2 ⟨x,h,rfl⟩
  unfold indexR
  rw[if_pos h1]
  unfold idx nz
  rw[List.findIdx_map]
  congr 2
  funext y
  show((y:Int)==(x:Int))=(y==x)
  by_cases e:y=x
  · subst e;simp
  · have : ¬ (y : Int) = (x : Int) := by omega
    rw[beq_eq_false_iff_ne.2 this,beq_eq_false_iff_ne.2 e]
theorem Qje {al:List Nat} {es:List Ed} {s:Nat} {out:List Nat} {k ev:Nat} (h:al[k]?=some ev):(al.take (k+1)).foldl (fEv es s) out=fEv es s ((al.take k).foldl (fEv es s) out) ev:=by
 rw[List.take_add_one,h,Option.toList,List.foldl_append];rfl
structure Raw (a:Aut):Prop where
 esn:∀e∈a.es,e.1<a.n/\e.2.2<a.n
 n5:a.n<=5
 el:a.es.length<=1000000
 al:a.al.length<=32
 ml:a.ms.length<=32
theorem found59 (a : Aut) (h : Raw a) : PSpec Tryz.prog 259 [aV a] (sliN (found a)) := by
  have hn5:=h.n5
  have hal:=h.al
  refine PSpec.of_rn 64 ok259 rfl (by(try simp only[noRefs,Qav,Qay,Qae,Qam,Qaf,Qao,QaD,Qan,noRef,Bool.and_self,Bool.and_true])<;>rfl) (Qab _) ?_
  have hfin:fQ a.al a.es (a.n+1) 0 (if 0<a.n then[0]else[])=found a:=rfl
  by_cases h0:0<a.n
  · rw [if_pos h0] at hfin
    have h0':(0:Int)<(a.n:Int):=by omega
    simp(disch:=first|omega|(simp only[lenW]<;>omega)) only[s259,h0',QkE,Qpu,wW,wV,simprocAttr]
    refine QaK 100 (fun t:Nat×List Nat=>[(1,.ptr 50 0 0),(3,.sl 75 0 0 t.2.length 1),(4,.int .i64 t.1)]) (fun t=>[(50,.cells 0 [sliN a.al,.int .i64 (a.n:Int),sliN a.ms,egsN a.es]),(75,.cells 0 (ints (nz t.2)))])
      (fun t=>t.1<=t.2.length/\FI a.n t.2/\fQ a.al a.es (a.n+1-t.1) t.1 t.2=found a) (fun t=>a.n+1-t.1) (0,[0]) ?_ ⟨Nat.zero_le _,⟨by simp,fun x hx=>by simp at hx;omega⟩,by dsimp only;exact hfin⟩ ?_
    · exact⟨[(50,.blk 64 0),(75,.blk 72 0)],rfl,au0,au5,au6⟩
    rintro⟨i,out⟩ ⟨hi,hfi,hq⟩
    dsimp only at hi hfi hq⊢
    have hfl:=hfi.len
    by_cases hlt:i<out.length
    · obtain ⟨s, hs⟩ := Qag hlt
      have hq':fQ a.al a.es (a.n+1-(i+1)) (i+1) (fRow a.al a.es s out)=found a:=by
        rw[<-hq,show a.n+1-i=(a.n+1-(i+1))+1 by omega]
        simp only[fQ,hs]
      have hrow:=fun k=>FI.row h.esn s (a.al.take k) out hfi
      simp(disch:=first|omega|(simp only[lenW]<;>omega)) only[hlt,wW,wV,simprocAttr]
      refine Qaj 200 (fun k:Nat=>[(1,.ptr 50 0 0),(3,.sl 75 0 0 ((a.al.take k).foldl (fEv a.es s) out).length 1),(4,.int .i64 i),(5,.int .i64 k)]) (fun k=>[(50,.cells 0 [sliN a.al,.int .i64 (a.n:Int),sliN a.ms,egsN a.es]),(75,.cells 0 (ints (nz ((a.al.take k).foldl (fEv a.es s) out))))])
        (fun k=>k<=a.al.length) (fun k=>a.al.length-k) 0 2 300
        (fun _:Unit=>[(1,.ptr 50 0 0),(3,.sl 75 0 0 (fRow a.al a.es s out).length 1),(4,.int .i64 i)]) (fun _=>[(50,.cells 0 [sliN a.al,.int .i64 (a.n:Int),sliN a.ms,egsN a.es]),(75,.cells 0 (ints (nz (fRow a.al a.es s out))))]) (fun _=>True) ?_ (Nat.zero_le _) ?_ ?_
      · exact⟨[(50,.blk 50 0),(75,.blk 75 0)],rfl,au0,au5,au6⟩
      · rintro k hk
        by_cases hkl:k<a.al.length
        · obtain ⟨ev, hev⟩ := Qag hkl
          have hstep:=Qje (es:=a.es) (s:=s) (out:=out) hev
          obtain⟨k1,⟨t,ht⟩,_⟩:=hrow k
          have hol:=k1.len
          have hs2:((a.al.take k).foldl (fEv a.es s) out)[i]?=some s:=by rw[ht,List.getElem?_append_left hlt];exact hs
          generalize (a.al.take k).foldl (fEv a.es s) out=o at*
          have hil:i<o.length:=(List.getElem?_eq_some_iff.1 hs2).1
          simp(disch:=first|omega|(simp only[lenW]<;>omega)) only[hkl,hil,Qd2 (nz_at hs2),Qaz hev,wW,wV,simprocAttr]
          refine cp (step60 a s ev h.el) ?_
          cases hst:stepA a.es s ev with
          | none =>
            have h1:stepI a.es s ev= -1:=by unfold stepI;rw[hst]
            have h2:fEv a.es s o ev=o:=by unfold fEv;rw[hst]
            rw[h2]at hstep
            rw[h1]
            simp(disch:=first|omega|(simp only[lenW]<;>omega)) only[wW,wV,simprocAttr]
            refine⟨k+1,by omega,by omega,?_⟩
            rw[hstep]
            exact⟨[(50,.blk 50 0),(75,.blk 75 0)],rfl,au0,au5,au6⟩
          | some to =>
            have h1:stepI a.es s ev=to:=by unfold stepI;rw[hst]
            have hto:=QeS h.esn hst
            rw[h1]
            simp(disch:=first|omega|(simp only[lenW]<;>omega)) only[wW,wV,simprocAttr]
            have hh:=has36 (nz o) to (by simp;omega)
            rw[QkK,Qb2]at hh
            by_cases hc:o.contains to=true
            · have h2 : fEv a.es s o ev = o := by unfold fEv; rw [hst]; exact if_pos hc
              rw[h2]at hstep
              rw[hc]at hh
              refine ch (HSpec.lend (FrzL.cons (FrzTo.all gg (by simp[ints])) (FrzL.cons (FrzTo.same _) FrzL.nil)) hh rfl) ?_
              simp(disch:=first|omega|(simp only[lenW]<;>omega)) only[wW,wV,simprocAttr]
              refine⟨k+1,by omega,by omega,?_⟩
              rw[hstep]
              exact⟨[(50,.blk 50 0),(75,.blk 75 0)],rfl,au0,au5,au6⟩
            · have h2 : fEv a.es s o ev = o ++ [to] := by unfold fEv; rw [hst]; exact if_neg hc
              rw[h2]at hstep
              rw[Bool.not_eq_true]at hc
              rw[hc]at hh
              refine ch (HSpec.lend (FrzL.cons (FrzTo.all gg (by simp[ints])) (FrzL.cons (FrzTo.same _) FrzL.nil)) hh rfl) ?_
              simp(disch:=first|omega|(simp only[lenW]<;>omega)) only[wW,wV,simprocAttr]
              refine⟨k+1,by omega,by omega,?_⟩
              rw[hstep,List.length_append,QaI,QaB]
              exact⟨[(50,.blk 50 0),(75,.blk 75 1)],rfl,au0,au5,au6⟩
        · have e : k = a.al.length := by omega
          subst e
          simp(disch:=first|omega|(simp only[lenW]<;>omega)) only[hkl,wW,wV,simprocAttr]
          refine⟨(),?_⟩
          exact⟨[(50,.blk 50 0),(75,.blk 75 0)],rfl,au0,au5,au6⟩
      rintro _ _
      obtain⟨k1,⟨t,ht⟩,_⟩:=hrow a.al.length
      rw[List.take_length]at k1 ht
      have ht:fRow a.al a.es s out=out++t:=ht
      simp(disch:=first|omega|(simp only[lenW]<;>omega)) only[wW,wV,simprocAttr]
      refine⟨(i+1,fRow a.al a.es s out),by dsimp only;omega,⟨by dsimp only;rw[ht,List.length_append];omega,k1,hq'⟩,?_⟩
      exact⟨[(50,.blk 50 0),(75,.blk 75 0)],rfl,au0,au5,au6⟩
    · have hv : out[i]? = none := List.getElem?_eq_none (by omega)
      have hqf:out=found a:=by
        rw[<-hq,show a.n+1-i=(a.n-i)+1 by omega]
        simp only[fQ,hv]
      simp(disch:=first|omega|(simp only[lenW]<;>omega)) only[hlt,wW,wV,simprocAttr]
      refine⟨.inr trivial,_,rfl,?_⟩
      rw[hqf]
      exact Rn.fz0 (g:=0) rfl (by simp[ints]) (RnL.same (Qae _))
  · rw [if_neg h0] at hfin
    have h0':¬(0:Int)<(a.n:Int):=by omega
    simp(disch:=first|omega|(simp only[lenW]<;>omega)) only[s259,h0',wW,wV,simprocAttr]
    refine QaK 100 (fun t:Nat×List Nat=>[(1,.ptr 50 0 0),(3,.sl 75 0 0 t.2.length 1),(4,.int .i64 t.1)]) (fun t=>[(50,.cells 0 [sliN a.al,.int .i64 (a.n:Int),sliN a.ms,egsN a.es]),(75,.cells 0 (ints (nz t.2)))])
      (fun t=>t.1<=t.2.length/\FI a.n t.2/\fQ a.al a.es (a.n+1-t.1) t.1 t.2=found a) (fun t=>a.n+1-t.1) (0,([]:List Nat)) ?_ ⟨Nat.zero_le _,⟨by simp,fun x hx=>by cases hx⟩,by dsimp only;exact hfin⟩ ?_
    · exact⟨[(50,.blk 64 0),(75,.nil)],rfl,au0,au5,au6⟩
    rintro⟨i,out⟩ ⟨hi,hfi,hq⟩
    dsimp only at hi hfi hq⊢
    have hfl:=hfi.len
    by_cases hlt:i<out.length
    · obtain ⟨s, hs⟩ := Qag hlt
      have hq':fQ a.al a.es (a.n+1-(i+1)) (i+1) (fRow a.al a.es s out)=found a:=by
        rw[<-hq,show a.n+1-i=(a.n+1-(i+1))+1 by omega]
        simp only[fQ,hs]
      have hrow:=fun k=>FI.row h.esn s (a.al.take k) out hfi
      simp(disch:=first|omega|(simp only[lenW]<;>omega)) only[hlt,wW,wV,simprocAttr]
      refine Qaj 200 (fun k:Nat=>[(1,.ptr 50 0 0),(3,.sl 75 0 0 ((a.al.take k).foldl (fEv a.es s) out).length 1),(4,.int .i64 i),(5,.int .i64 k)]) (fun k=>[(50,.cells 0 [sliN a.al,.int .i64 (a.n:Int),sliN a.ms,egsN a.es]),(75,.cells 0 (ints (nz ((a.al.take k).foldl (fEv a.es s) out))))])
        (fun k=>k<=a.al.length) (fun k=>a.al.length-k) 0 2 300
        (fun _:Unit=>[(1,.ptr 50 0 0),(3,.sl 75 0 0 (fRow a.al a.es s out).length 1),(4,.int .i64 i)]) (fun _=>[(50,.cells 0 [sliN a.al,.int .i64 (a.n:Int),sliN a.ms,egsN a.es]),(75,.cells 0 (ints (nz (fRow a.al a.es s out))))]) (fun _=>True) ?_ (Nat.zero_le _) ?_ ?_
      · exact⟨[(50,.blk 50 0),(75,.blk 75 0)],rfl,au0,au5,au6⟩
      · rintro k hk
        by_cases hkl:k<a.al.length
        · obtain ⟨ev, hev⟩ := Qag hkl
          have hstep:=Qje (es:=a.es) (s:=s) (out:=out) hev
          obtain⟨k1,⟨t,ht⟩,_⟩:=hrow k
          have hol:=k1.len
          have hs2:((a.al.take k).foldl (fEv a.es s) out)[i]?=some s:=by rw[ht,List.getElem?_append_left hlt];exact hs
          generalize (a.al.take k).foldl (fEv a.es s) out=o at*
          have hil:i<o.length:=(List.getElem?_eq_some_iff.1 hs2).1
          simp(disch:=first|omega|(simp only[lenW]<;>omega)) only[hkl,hil,Qd2 (nz_at hs2),Qaz hev,wW,wV,simprocAttr]
          refine cp (step60 a s ev h.el) ?_
          cases hst:stepA a.es s ev with
          | none =>
            have h1:stepI a.es s ev= -1:=by unfold stepI;rw[hst]
            have h2:fEv a.es s o ev=o:=by unfold fEv;rw[hst]
            rw[h2]at hstep
            rw[h1]
            simp(disch:=first|omega|(simp only[lenW]<;>omega)) only[wW,wV,simprocAttr]
            refine⟨k+1,by omega,by omega,?_⟩
            rw[hstep]
            exact⟨[(50,.blk 50 0),(75,.blk 75 0)],rfl,au0,au5,au6⟩
          | some to =>
            have h1:stepI a.es s ev=to:=by unfold stepI;rw[hst]
            have hto:=QeS h.esn hst
            rw[h1]
            simp(disch:=first|omega|(simp only[lenW]<;>omega)) only[wW,wV,simprocAttr]
            have hh:=has36 (nz o) to (by simp;omega)
            rw[QkK,Qb2]at hh
            by_cases hc:o.contains to=true
            · have h2 : fEv a.es s o ev = o := by unfold fEv; rw [hst]; exact if_pos hc
              rw[h2]at hstep
              rw[hc]at hh
              refine ch (HSpec.lend (FrzL.cons (FrzTo.all gg (by simp[ints])) (FrzL.cons (FrzTo.same _) FrzL.nil)) hh rfl) ?_
              simp(disch:=first|omega|(simp only[lenW]<;>omega)) only[wW,wV,simprocAttr]
              refine⟨k+1,by omega,by omega,?_⟩
              rw[hstep]
              exact⟨[(50,.blk 50 0),(75,.blk 75 0)],rfl,au0,au5,au6⟩
            · have h2 : fEv a.es s o ev = o ++ [to] := by unfold fEv; rw [hst]; exact if_neg hc
              rw[h2]at hstep
              rw[Bool.not_eq_true]at hc
              rw[hc]at hh
              refine ch (HSpec.lend (FrzL.cons (FrzTo.all gg (by simp[ints])) (FrzL.cons (FrzTo.same _) FrzL.nil)) hh rfl) ?_
              simp(disch:=first|omega|(simp only[lenW]<;>omega)) only[wW,wV,simprocAttr]
              refine⟨k+1,by omega,by omega,?_⟩
              rw[hstep,List.length_append,QaI,QaB]
              exact⟨[(50,.blk 50 0),(75,.blk 75 1)],rfl,au0,au5,au6⟩
        · have e : k = a.al.length := by omega
          subst e
          simp(disch:=first|omega|(simp only[lenW]<;>omega)) only[hkl,wW,wV,simprocAttr]
          refine⟨(),?_⟩
          exact⟨[(50,.blk 50 0),(75,.blk 75 0)],rfl,au0,au5,au6⟩
      rintro _ _
      obtain⟨k1,⟨t,ht⟩,_⟩:=hrow a.al.length
      rw[List.take_length]at k1 ht
      have ht:fRow a.al a.es s out=out++t:=ht
      simp(disch:=first|omega|(simp only[lenW]<;>omega)) only[wW,wV,simprocAttr]
      refine⟨(i+1,fRow a.al a.es s out),by dsimp only;omega,⟨by dsimp only;rw[ht,List.length_append];omega,k1,hq'⟩,?_⟩
      exact⟨[(50,.blk 50 0),(75,.blk 75 0)],rfl,au0,au5,au6⟩
    · have hv : out[i]? = none := List.getElem?_eq_none (by omega)
      have hqf:out=found a:=by
        rw[<-hq,show a.n+1-i=(a.n-i)+1 by omega]
        simp only[fQ,hv]
      simp(disch:=first|omega|(simp only[lenW]<;>omega)) only[hlt,wW,wV,simprocAttr]
      refine⟨.inr trivial,_,rfl,?_⟩
      rw[hqf]
      exact Rn.fz0 (g:=0) rfl (by simp[ints]) (RnL.same (Qae _))
end Go.AM.SE
namespace Go.AM.SE
open Go.Proofs Go.AM.SD
theorem QpA (l:List Int):(ints l).all AV.one=true:=by
 induction l with
 |nil=>rfl
 |cons x l ih=>show(AV.one _&&(ints l).all AV.one)=true;rw[ih];rfl
theorem empty45 (l:List Nat) (hl:l.length<=1000000):PSpec Tryz.prog 224 [sliN l] (.agg [sliN l,.int .i64 0,.nilsl,.nilsl]):=by
 refine PSpec.of_rn 64 ok224 rfl (by(try simp only[noRefs,Qav,Qay,Qae,Qam,Qaf,Qao,QaD,Qan,noRef,Bool.and_self,Bool.and_true])<;>rfl) (by simp only[noRef,noRefs,Qae];rfl) ?_
 have hone:=QpA (nz l)
 simp(disch:=first|omega|(simp only[lenW]<;>omega)) only[s224,hone,wW,wV,simprocAttr]
 refine⟨.inr trivial,_,rfl,?_⟩
 exact Rn.agg (RnL.cons (Rn.fz0 (g:=1) rfl (by simp[ints]) (RnL.same (Qae _))) (RnL.same rfl))
theorem Qjf {a:Aut} {f:List Nat} {i s k ev:Nat} (h:a.al[k]?=some ev):(a.al.take (k+1)).filterMap (fun ev=>(stepA a.es s ev).map fun to=>(i,ev,idx f to))=(a.al.take k).filterMap (fun ev=>(stepA a.es s ev).map fun to=>(i,ev,idx f to))++match stepA a.es s ev with|some to=>[(i,ev,idx f to)]|none=>[]:=by
 rw[List.take_add_one,h,Option.toList,List.filterMap_append]
 congr 1
 cases e:stepA a.es s ev with
 |none=>simp[e]
 |some to=>simp[e]
def cPre (a:Aut) (f:List Nat) (i:Nat):List Ed:=(List.range i).flatMap fun i=>cRow a f i (f.getD i 0)
def cPart (a:Aut) (f:List Nat) (i s k:Nat):List Ed:=cPre a f i++(a.al.take k).filterMap (fun ev=>(stepA a.es s ev).map fun to=>(i,ev,idx f to))
theorem Qoq {a:Aut} {f:List Nat} {i s:Nat} (h:f[i]?=some s):cPre a f (i+1)=cPre a f i++cRow a f i s:=by
 unfold cPre
 rw[List.range_succ,List.flatMap_append]
 have:f.getD i 0=s:=by rw[List.getD_eq_getElem?_getD,h];rfl
 rw[List.flatMap_cons,List.flatMap_nil,List.append_nil,this]
theorem QpB (a:Aut) (f:List Nat) (i s:Nat):(cRow a f i s).length<=a.al.length:=by unfold cRow;exact List.length_filterMap_le _ _
theorem Qg2 (a:Aut) (f:List Nat):∀i,(cPre a f i).length<=i*a.al.length
 |0=>by simp[cPre]
 |i+1=>by
  have h1:=Qg2 a f i
  have h2:=QpB a f i (f.getD i 0)
  unfold cPre at h1⊢
  rw[List.range_succ,List.flatMap_append,List.length_append,Nat.succ_mul]
  simp only[List.flatMap_cons,List.flatMap_nil,List.append_nil]
  omega
theorem canon46 (a : Aut) (h : Raw a) : PSpec Tryz.prog 225 [aV a] (aV (canon a)) := by
  have hn5:=h.n5
  have hal:=h.al
  have hml:=h.ml
  obtain⟨f1,_,f3⟩:=QeT h.esn
  have hfl:=f1.len
  refine PSpec.of_rn 64 ok225 rfl (by(try simp only[noRefs,Qav,Qay,Qae,Qam,Qaf,Qao,QaD,Qan,noRef,Bool.and_self,Bool.and_true])<;>rfl) (Qc7 _) ?_
  have hF:=found59 a h
  have hcan:canon a=⟨a.al,(found a).length,mks a (found a).length (found a),cPre a (found a) (found a).length⟩:=rfl
  rw[hcan]
  generalize found a=f at*
  simp(disch:=first|omega|(simp only[lenW]<;>omega)) only[s225,wW,wV,simprocAttr]
  refine cp hF ?_
  simp(disch:=first|omega|(simp only[lenW]<;>omega)) only[wW,wV,simprocAttr]
  refine cp (empty45 a.al (by omega)) ?_
  simp(disch:=first|omega|(simp only[lenW]<;>omega)) only[wW,wV,simprocAttr]
  refine Qaj 100 (fun i:Nat=>[(1,.ptr 50 0 0),(2,.ptr 51 0 0),(3,sliN f),(4,.ptr 52 0 0),(5,.int .i64 i)])
    (fun i=>[(50,.cells 0 [sliN a.al,.int .i64 (a.n:Int),sliN a.ms,egsN a.es]),(51,.cells 0 [.nilsl,.int .i64 0,.nilsl,.nilsl]),(52,.cells 0 [sliN a.al,.int .i64 f.length,.sl 77 0 0 (mks a i f).length 1,.sl 76 0 0 (cPre a f i).length 3]),(76,.cells 0 ((cPre a f i).flatMap edC)),(77,.cells 0 (ints (nz (mks a i f))))])
    (fun i=>i<=f.length) (fun i=>f.length-i) 0 0 160
    (fun _:Unit=>[(2,.ptr 51 0 0),(4,.ptr 52 0 0)])
    (fun _=>[(51,.cells 0 [.nilsl,.int .i64 0,.nilsl,.nilsl]),(52,.cells 0 [sliN a.al,.int .i64 f.length,.sl 77 0 0 (mks a f.length f).length 1,.sl 76 0 0 (cPre a f f.length).length 3]),(76,.cells 0 ((cPre a f f.length).flatMap edC)),(77,.cells 0 (ints (nz (mks a f.length f))))]) (fun _=>True) ?_ (Nat.zero_le _) ?_ ?_
  · exact⟨[(50,.blk 64 0),(51,.blk 65 0),(52,.blk 72 0),(76,.nil),(77,.nil)],rfl,au0,au5,au6⟩
  · rintro i hi
    by_cases hlt:i<f.length
    · obtain ⟨s, hs⟩ := Qag hlt
      have hsf:=List.mem_of_getElem? hs
      have hmn:=QkM (a:=a) hs
      have hmsl:=@Qmw a i f
      have hcl:=Qg2 a f i
      have hcl2:(cPre a f i).length<=1000:=Nat.le_trans hcl (Nat.le_trans (Nat.mul_le_mul (show i<=5 by omega) hal) (by decide))
      have hcs:=Qoq (a:=a) hs
      have hed0:=Qbj (cPre a f i)
      have hh:=has36 (nz a.ms) s (by simp;omega)
      rw[QkK,Qb2]at hh
      have hpart0:cPart a f i s 0=cPre a f i:=by simp[cPart]
      have hpartn:cPart a f i s a.al.length=cPre a f (i+1):=by rw[hcs];unfold cPart cRow;rw[List.take_length]
      generalize hM1:mks a (i+1) f=M1 at*
      generalize hM:mks a i f=M at*
      by_cases hmv:a.ms.contains s=true
      · rw [if_pos hmv] at hmn
        rw[hmv]at hh
        simp(disch:=first|omega|(simp only[lenW]<;>omega)) only[hlt,Qaz hs,wW,wV,simprocAttr]
        refine ch (HSpec.lend (FrzL.same _) hh rfl) ?_
        simp(disch:=first|omega|(simp only[lenW]<;>omega)) only[wW,wV,simprocAttr]
        refine Qaj 300 (fun k:Nat=>[(1,.ptr 50 0 0),(2,.ptr 51 0 0),(3,sliN f),(4,.ptr 52 0 0),(5,.int .i64 i),(6,.int .i64 k)])
          (fun k=>[(50,.cells 0 [sliN a.al,.int .i64 (a.n:Int),sliN a.ms,egsN a.es]),(51,.cells 0 [.nilsl,.int .i64 0,.nilsl,.nilsl]),(52,.cells 0 [sliN a.al,.int .i64 f.length,.sl 77 0 0 M1.length 1,.sl 76 0 0 (cPart a f i s k).length 3]),(76,.cells 0 ((cPart a f i s k).flatMap edC)),(77,.cells 0 (ints (nz M1)))])
          (fun k=>k<=a.al.length) (fun k=>a.al.length-k) 0 2 400
          (fun _:Unit=>[(1,.ptr 50 0 0),(2,.ptr 51 0 0),(3,sliN f),(4,.ptr 52 0 0),(5,.int .i64 i)])
          (fun _=>[(50,.cells 0 [sliN a.al,.int .i64 (a.n:Int),sliN a.ms,egsN a.es]),(51,.cells 0 [.nilsl,.int .i64 0,.nilsl,.nilsl]),(52,.cells 0 [sliN a.al,.int .i64 f.length,.sl 77 0 0 M1.length 1,.sl 76 0 0 (cPre a f (i+1)).length 3]),(76,.cells 0 ((cPre a f (i+1)).flatMap edC)),(77,.cells 0 (ints (nz M1)))]) (fun _=>True) ?_ (Nat.zero_le _) ?_ ?_
        · rw [hpart0, hmn, List.length_append, QaI, QaB]
          exact⟨[(50,.blk 50 0),(51,.blk 51 0),(52,.blk 52 0),(76,.blk 76 0),(77,.blk 77 1)],rfl,au0,au5,au6⟩
        · rintro k hk
          by_cases hkl:k<a.al.length
          · obtain ⟨ev, hev⟩ := Qag hkl
            have hevm:=List.mem_of_getElem? hev
            have hst:=Qjf (a:=a) (f:=f) (i:=i) (s:=s) hev
            have hpl:(cPart a f i s k).length<=2000:=by
              unfold cPart
              rw[List.length_append]
              have h1:=List.length_filterMap_le (fun ev=>(stepA a.es s ev).map fun to=>(i,ev,idx f to)) (a.al.take k)
              rw[List.length_take]at h1
              omega
            have hpe:=Qbj (cPart a f i s k)
            have hps:cPart a f i s (k+1)=cPart a f i s k++match stepA a.es s ev with|some to=>[(i,ev,idx f to)]|none=>[]:=by
              unfold cPart;rw[hst,List.append_assoc]
            generalize cPart a f i s k=R at*
            simp(disch:=first|omega|(simp only[lenW]<;>omega)) only[hkl,hlt,Qaz hs,Qaz hev,wW,wV,simprocAttr]
            refine cp (step60 a s ev h.el) ?_
            cases hsa:stepA a.es s ev with
            | none =>
              have h1:stepI a.es s ev= -1:=by unfold stepI;rw[hsa]
              rw[hsa,List.append_nil]at hps
              rw[h1]
              simp(disch:=first|omega|(simp only[lenW]<;>omega)) only[wW,wV,simprocAttr]
              refine⟨k+1,by omega,by omega,?_⟩
              rw[hps]
              exact⟨[(50,.blk 50 0),(51,.blk 51 0),(52,.blk 52 0),(76,.blk 76 0),(77,.blk 77 0)],rfl,au0,au5,au6⟩
            | some to =>
              have h1:stepI a.es s ev=to:=by unfold stepI;rw[hsa]
              rw[hsa]at hps
              have hidx:=index61 (nz f) to (by simp;omega)
              rw[Qb2,QkN (f3 s hsf ev hevm to hsa)]at hidx
              rw[h1]
              simp(disch:=first|omega|(simp only[lenW]<;>omega)) only[hkl,Qaz hev,wW,wV,simprocAttr]
              refine cp hidx ?_
              simp(disch:=first|omega|(simp only[lenW]<;>omega)) only[hpe,wW,wV,simprocAttr]
              refine⟨k+1,by omega,by omega,?_⟩
              rw[hps,List.flatMap_append,List.length_append]
              exact⟨[(50,.blk 50 0),(51,.blk 51 0),(52,.blk 52 0),(76,.blk 76 1),(77,.blk 77 0)],rfl,au0,au5,au6⟩
          · have e : k = a.al.length := by omega
            subst e
            simp(disch:=first|omega|(simp only[lenW]<;>omega)) only[hkl,wW,wV,simprocAttr]
            refine⟨(),?_⟩
            rw[hpartn]
            exact⟨[(50,.blk 50 0),(51,.blk 51 0),(52,.blk 52 0),(76,.blk 76 0),(77,.blk 77 0)],rfl,au0,au5,au6⟩
        rintro _ _
        simp(disch:=first|omega|(simp only[lenW]<;>omega)) only[wW,wV,simprocAttr]
        refine⟨i+1,by omega,by omega,?_⟩
        rw[hM1]
        exact⟨[(50,.blk 50 0),(51,.blk 51 0),(52,.blk 52 0),(76,.blk 76 0),(77,.blk 77 0)],rfl,au0,au5,au6⟩
      · rw [if_neg hmv, List.append_nil] at hmn
        rw[Bool.not_eq_true]at hmv
        rw[hmv]at hh
        simp(disch:=first|omega|(simp only[lenW]<;>omega)) only[hlt,Qaz hs,wW,wV,simprocAttr]
        refine ch (HSpec.lend (FrzL.same _) hh rfl) ?_
        simp(disch:=first|omega|(simp only[lenW]<;>omega)) only[wW,wV,simprocAttr]
        refine Qaj 300 (fun k:Nat=>[(1,.ptr 50 0 0),(2,.ptr 51 0 0),(3,sliN f),(4,.ptr 52 0 0),(5,.int .i64 i),(6,.int .i64 k)])
          (fun k=>[(50,.cells 0 [sliN a.al,.int .i64 (a.n:Int),sliN a.ms,egsN a.es]),(51,.cells 0 [.nilsl,.int .i64 0,.nilsl,.nilsl]),(52,.cells 0 [sliN a.al,.int .i64 f.length,.sl 77 0 0 M1.length 1,.sl 76 0 0 (cPart a f i s k).length 3]),(76,.cells 0 ((cPart a f i s k).flatMap edC)),(77,.cells 0 (ints (nz M1)))])
          (fun k=>k<=a.al.length) (fun k=>a.al.length-k) 0 2 400
          (fun _:Unit=>[(1,.ptr 50 0 0),(2,.ptr 51 0 0),(3,sliN f),(4,.ptr 52 0 0),(5,.int .i64 i)])
          (fun _=>[(50,.cells 0 [sliN a.al,.int .i64 (a.n:Int),sliN a.ms,egsN a.es]),(51,.cells 0 [.nilsl,.int .i64 0,.nilsl,.nilsl]),(52,.cells 0 [sliN a.al,.int .i64 f.length,.sl 77 0 0 M1.length 1,.sl 76 0 0 (cPre a f (i+1)).length 3]),(76,.cells 0 ((cPre a f (i+1)).flatMap edC)),(77,.cells 0 (ints (nz M1)))]) (fun _=>True) ?_ (Nat.zero_le _) ?_ ?_
        · rw [hpart0, hmn]
          exact⟨[(50,.blk 50 0),(51,.blk 51 0),(52,.blk 52 0),(76,.blk 76 0),(77,.blk 77 0)],rfl,au0,au5,au6⟩
        · rintro k hk
          by_cases hkl:k<a.al.length
          · obtain ⟨ev, hev⟩ := Qag hkl
            have hevm:=List.mem_of_getElem? hev
            have hst:=Qjf (a:=a) (f:=f) (i:=i) (s:=s) hev
            have hpl:(cPart a f i s k).length<=2000:=by
              unfold cPart
              rw[List.length_append]
              have h1:=List.length_filterMap_le (fun ev=>(stepA a.es s ev).map fun to=>(i,ev,idx f to)) (a.al.take k)
              rw[List.length_take]at h1
              omega
            have hpe:=Qbj (cPart a f i s k)
            have hps:cPart a f i s (k+1)=cPart a f i s k++match stepA a.es s ev with|some to=>[(i,ev,idx f to)]|none=>[]:=by
              unfold cPart;rw[hst,List.append_assoc]
            generalize cPart a f i s k=R at*
            simp(disch:=first|omega|(simp only[lenW]<;>omega)) only[hkl,hlt,Qaz hs,Qaz hev,wW,wV,simprocAttr]
            refine cp (step60 a s ev h.el) ?_
            cases hsa:stepA a.es s ev with
            | none =>
              have h1:stepI a.es s ev= -1:=by unfold stepI;rw[hsa]
              rw[hsa,List.append_nil]at hps
              rw[h1]
              simp(disch:=first|omega|(simp only[lenW]<;>omega)) only[wW,wV,simprocAttr]
              refine⟨k+1,by omega,by omega,?_⟩
              rw[hps]
              exact⟨[(50,.blk 50 0),(51,.blk 51 0),(52,.blk 52 0),(76,.blk 76 0),(77,.blk 77 0)],rfl,au0,au5,au6⟩
            | some to =>
              have h1:stepI a.es s ev=to:=by unfold stepI;rw[hsa]
              rw[hsa]at hps
              have hidx:=index61 (nz f) to (by simp;omega)
              rw[Qb2,QkN (f3 s hsf ev hevm to hsa)]at hidx
              rw[h1]
              simp(disch:=first|omega|(simp only[lenW]<;>omega)) only[hkl,Qaz hev,wW,wV,simprocAttr]
              refine cp hidx ?_
              simp(disch:=first|omega|(simp only[lenW]<;>omega)) only[hpe,wW,wV,simprocAttr]
              refine⟨k+1,by omega,by omega,?_⟩
              rw[hps,List.flatMap_append,List.length_append]
              exact⟨[(50,.blk 50 0),(51,.blk 51 0),(52,.blk 52 0),(76,.blk 76 1),(77,.blk 77 0)],rfl,au0,au5,au6⟩
          · have e : k = a.al.length := by omega
            subst e
            simp(disch:=first|omega|(simp only[lenW]<;>omega)) only[hkl,wW,wV,simprocAttr]
            refine⟨(),?_⟩
            rw[hpartn]
            exact⟨[(50,.blk 50 0),(51,.blk 51 0),(52,.blk 52 0),(76,.blk 76 0),(77,.blk 77 0)],rfl,au0,au5,au6⟩
        rintro _ _
        simp(disch:=first|omega|(simp only[lenW]<;>omega)) only[wW,wV,simprocAttr]
        refine⟨i+1,by omega,by omega,?_⟩
        rw[hM1]
        exact⟨[(50,.blk 50 0),(51,.blk 51 0),(52,.blk 52 0),(76,.blk 76 0),(77,.blk 77 0)],rfl,au0,au5,au6⟩
    · have e : i = f.length := by omega
      subst e
      simp(disch:=first|omega|(simp only[lenW]<;>omega)) only[hlt,wW,wV,simprocAttr]
      refine⟨(),?_⟩
      exact⟨[(51,.blk 51 0),(52,.blk 52 0),(76,.blk 76 0),(77,.blk 77 0)],rfl,au0,au5,au6⟩
  rintro _ _
  simp(disch:=first|omega|(simp only[lenW]<;>omega)) only[wW,wV,simprocAttr]
  refine⟨.inr trivial,_,rfl,?_⟩
  exact Rn.agg (RnL.cons (Rn.same (Qab _)) (RnL.cons (Rn.same rfl) (RnL.cons (Rn.fz0 (g:=0) rfl (by simp[ints]) (RnL.same (Qae _))) (RnL.cons (Rn.fz0 (g:=0) rfl (Qbj _) (RnL.same (Qaf _))) RnL.nil))))
end Go.AM.SE
namespace Go.AM.SE
open Go.Proofs Go.AM.SD
def u8s (l:List Nat):List AV:=l.map fun x:Nat=> .int .u8 (x:Int)
theorem QaA (l:List Nat):noRefs (u8s l)=true:=Qdh (fun _=>rfl) l
theorem QhM {l:List Nat} {i x:Nat} (h:l[i]?=some x):(u8s l)[i]?=some (.int .u8 (x:Int)):=by simp[u8s,h]
def gEd (al:List Nat) (n:Nat) (T:List Nat) (i k:Nat):Option Ed:=if T.getD (i*5+k) 0 % (n+2)<n then some (i,al.getD k 0,T.getD (i*5+k) 0 % (n+2))else none
def gRow (al:List Nat) (n:Nat) (T:List Nat) (i k:Nat):List Ed:=(List.range k).filterMap (gEd al n T i)
def gPre (al:List Nat) (n:Nat) (T:List Nat) (i:Nat):List Ed:=(List.range i).flatMap fun i=>gRow al n T i al.length
def gPart (al:List Nat) (n:Nat) (T:List Nat) (i k:Nat):List Ed:=gPre al n T i++gRow al n T i k
def gRaw (al:List Nat) (st mk:Nat) (T:List Nat):Aut:=if 250<=st then⟨al,0,[],[]⟩else⟨al,1+st % 5,SD.part (1+st % 5) mk,gPre al (1+st % 5) T (1+st % 5)⟩
theorem QpC {al:List Nat} {n:Nat} {T:List Nat} {i k:Nat} {e:Ed} (h:e∈gRow al n T i k):e.1=i/\e.2.2<n:=by
 unfold gRow at h
 obtain⟨j,_,hj⟩:=List.mem_filterMap.1 h
 unfold gEd at hj
 split at hj
 ·rename_i h1;cases hj;exact⟨rfl,h1⟩
 ·cases hj
theorem Qjg {al:List Nat} {n:Nat} {T:List Nat} {i k:Nat}:gRow al n T i (k+1)=gRow al n T i k++match gEd al n T i k with|some e=>[e]|none=>[]:=by
 unfold gRow
 rw[List.range_succ,List.filterMap_append]
 congr 1
 cases e:gEd al n T i k<;>simp[e]
theorem Qg3 {al:List Nat} {n:Nat} {T:List Nat} {i k:Nat}:(gRow al n T i k).length<=k:=by
 unfold gRow;exact Nat.le_trans (List.length_filterMap_le _ _) (by simp)
theorem Qg4 {al:List Nat} {n:Nat} {T:List Nat} (hal:al.length<=5):∀i,(gPre al n T i).length<=i*5
 |0=>by simp[gPre]
 |i+1=>by
  have h1:=Qg4 (n:=n) (T:=T) hal i
  have h2:=@Qg3 al n T i al.length
  unfold gPre at h1⊢
  rw[List.range_succ,List.flatMap_append,List.length_append,Nat.succ_mul,List.flatMap_cons,List.flatMap_nil,List.append_nil]
  omega
theorem Qor {al:List Nat} {n:Nat} {T:List Nat} {i:Nat}:gPre al n T (i+1)=gPart al n T i al.length:=by
 unfold gPart gPre
 rw[List.range_succ,List.flatMap_append,List.flatMap_cons,List.flatMap_nil,List.append_nil]
theorem QeW {al:List Nat} {st mk:Nat} {T:List Nat} (hal:al.length<=5):Raw (gRaw al st mk T):=by
  unfold gRaw
  split
  · exact⟨by simp,by simp,by simp,by dsimp only;omega,by simp⟩
  · have h5 : 1 + st % 5 <= 5 := by omega
    refine⟨fun e he=>?_,h5,?_,by dsimp only;omega,?_⟩
    · unfold gPre at he
      obtain⟨i,hi,he⟩:=List.mem_flatMap.1 he
      have:=List.mem_range.1 hi
      obtain⟨h1,h2⟩:=QpC he
      exact⟨by rw[h1];exact this,h2⟩
    · have := Qg4 (n := 1 + st % 5) (T := T) hal (1 + st % 5)
      dsimp only;omega
    · have := @Qc8 (1 + st % 5) mk
      dsimp only;omega
def mkA (al:List Nat) (st mk:Nat) (T:List Nat):Aut:=canon (gRaw al st mk T)
theorem Qrg {al:List Nat} {st mk:Nat} {T:List Nat} (hs:al.Pairwise (· < ·)) (h5:∀x∈al,x<5):WfA (mkA al st mk T):=by
 have hal:al.length<=5:=Qbq hs h5
 have hr:=QeW (st:=st) (mk:=mk) (T:=T) hal
 have ha:(gRaw al st mk T).al=al:=by unfold gRaw;split<;>rfl
 exact Qpx (by rw[ha];exact hs) (by rw[ha];exact h5) hr.n5 hr.esn
abbrev grV (st mk:Nat) (T:List Nat):AV:= .agg (.int .u8 (st:Int):: .int .u8 (mk:Int)::u8s T)
theorem _root_.Go.AM.au7 {p:Prop} (h:p:=by repeat' (first|exact RB.nil|(refine RnL.same ?_;first|rfl|(simp only[noRef,noRefs,Qai,Bool.and_self,Bool.and_true,Bool.true_and,Qae,QaA,Qam,Qaf,Qao,QaD,QbH,Qan,Qau,Qab,Qbl,Qak,Qav,Qay,Qb6];done))|exact RnM.keyM rfl|exact RnL.nil|exact(True.intro:RnM _ _ _ [] [])|refine RnL.cons ?_ ?_|(refine Rn.same ?_;first|rfl|(simp only[noRef,noRefs,Qai,Bool.and_self,Bool.and_true,Bool.true_and,Qae,QaA,Qam,Qaf,Qao,QaD,QbH,Qan,Qau,Qab,Qbl,Qak,Qav,Qay,Qb6];done))|exact Rn.x1 rfl rfl|exact Rn.x2 rfl rfl|exact Rn.x3 rfl rfl|exact Rn.x4 rfl rfl|exact Rn.x5 rfl|exact Rn.x6 rfl|exact Rn.x7 rfl|refine RB.newnil rfl rfl ?_|refine RB.cells rfl rfl rfl ?_ ?_|refine RB.map rfl rfl rfl ?_ ?_|refine RB.cellsB rfl rfl ?_ ?_|refine RB.mapB rfl rfl ?_ ?_)):p:=h
theorem _root_.Go.AM.au8 {p:Prop} (h:p:=by repeat (first|exact RT.nil|(refine RT.cons ?_ ?_; · (first|exact Rn.any|exact Rn.x1 rfl rfl|exact Rn.x2 rfl rfl|exact Rn.x3 rfl rfl|exact Rn.x4 rfl rfl|exact Rn.x5 rfl|exact Rn.x6 rfl|exact Rn.x7 rfl|(refine Rn.slot ?_ ?_;(first|rfl|(rw[Int.natCast_add];rfl));(first|rfl|(simp only[noRef,noRefs,Qai,Bool.and_self,Bool.and_true,Bool.true_and,Qae,QaA,Qam,Qaf,Qao,QaD,QbH,Qan,Qau,Qab,Qbl,Qak,Qav,Qay,Qb6];done)))|(refine Rn.fn ?_ ?_<;>(repeat' (first|exact RnL.nil|refine RnL.cons ?_ ?_|exact Rn.same rfl|exact Rn.x6 rfl|exact Rn.x2 rfl rfl|exact Rn.x5 rfl|exact Rn.x1 rfl rfl))))))):p:=h
theorem Make32 (al : List Nat) (st mk : Nat) (T : List Nat) (hs : al.Pairwise (· < ·)) (h5 : ∀ x ∈ al, x < 5) (hst : st < 256) (hmk : mk < 256) (hT : T.length = 25) (hT8 : ∀ x ∈ T, x < 256) :
    PSpec Tryz.prog 185 [sliN al,grV st mk T] (aV (mkA al st mk T)):=by
  have hal:al.length<=5:=Qbq hs h5
  have hlu:(u8s T).length=25:=by simp[u8s,hT]
  have hcan:=canon46 (gRaw al st mk T) (QeW hal)
  refine PSpec.of_rn 40 ok185 rfl (by(try simp only[noRefs,QaA,Qav,Qay,Qae,Qam,Qaf,Qao,QaD,Qan,noRef,Bool.and_self,Bool.and_true])<;>rfl) (Qc7 _) ?_
  unfold mkA
  by_cases h0:250<=st
  · have h0' : (250 : Int) <= (st : Int) := by omega
    have hr:gRaw al st mk T=⟨al,0,[],[]⟩:=if_pos h0
    have hc:canon (gRaw al st mk T)=⟨al,0,[],[]⟩:=by rw[hr];rfl
    rw[hc]
    simp(disch:=first|omega|(simp only[lenW]<;>omega)) only[s185,h0',wW,wV,simprocAttr]
    refine cp (empty45 al (by omega)) ?_
    simp(disch:=first|omega|(simp only[lenW]<;>omega)) only[wW,wV,simprocAttr]
    refine⟨.inr trivial,_,rfl,?_⟩
    exact Rn.agg (RnL.cons (Rn.same (Qab _)) (RnL.cons (Rn.same rfl) (RnL.cons Rn.nilK (RnL.cons Rn.nilK RnL.nil))))
  have h0':¬(250:Int)<=(st:Int):=by omega
  have hr:gRaw al st mk T=⟨al,1+st % 5,SD.part (1+st % 5) mk,gPre al (1+st % 5) T (1+st % 5)⟩:=if_neg h0
  rw[hr]at hcan⊢
  have hn5:1+st % 5<=5:=by omega
  obtain⟨n,hN⟩:∃n,n=1+st % 5:=⟨_,rfl⟩
  rw[<-hN]at hr hcan hn5⊢
  have hnn:(1:Int)+((st % 5:Nat):Int)=(n:Int):=by omega
  simp(disch:=first|omega|(simp only[lenW]<;>omega)) only[s185,h0',wW,wV,simprocAttr]
  refine cp (empty45 al (by omega)) ?_
  have htm:(st:Int).tmod 5=((st % 5:Nat):Int):=by
    rw[Int.tmod_eq_emod_of_nonneg (Int.natCast_nonneg _)];norm_cast
  simp(disch:=first|omega|(simp only[lenW]<;>omega)) only[htm,hnn,wW,wV,simprocAttr]
  refine Qaj 100 (fun i:Nat=>[(0,sliN al),(3,.ptr 50 0 0),(4,.ptr 51 0 0),(5,.ptr 52 0 0),(6,.int .i64 i)])
    (fun i=>[(50,.cells 0 (.int .u8 (st:Int):: .int .u8 (mk:Int)::u8s T)),(51,.cells 0 [.nilsl,.int .i64 0,.nilsl,.nilsl]),(52,.cells 0 [sliN al,.int .i64 (n:Int),.sl 77 0 0 (SD.part i mk).length 1,.sl 76 0 0 (gPre al n T i).length 3]),(76,.cells 0 ((gPre al n T i).flatMap edC)),(77,.cells 0 (ints (nz (SD.part i mk))))])
    (fun i=>i<=n) (fun i=>n-i) 0 0 160
    (fun _:Unit=>[(4,.ptr 51 0 0),(5,.ptr 52 0 0)])
    (fun _=>[(51,.cells 0 [.nilsl,.int .i64 0,.nilsl,.nilsl]),(52,.cells 0 [sliN al,.int .i64 (n:Int),sliN (SD.part n mk),egsN (gPre al n T n)])]) (fun _=>True) ?_ (Nat.zero_le _) ?_ ?_
  · exact⟨[(50,.blk 40 0),(51,.blk 41 0),(52,.blk 47 0),(76,.nil),(77,.nil)],rfl,au0,au7,au8⟩
  · rintro i hi
    by_cases hlt:i<n
    · have hpt := Qdo (n := n) (b := mk) (i := i)
      have hpl:=@Qc8 i mk
      have hgl:=Qg4 (n:=n) (T:=T) hal i
      have hg0:gPart al n T i 0=gPre al n T i:=by simp[gPart,gRow]
      have hgs:=Qor (al:=al) (n:=n) (T:=T) (i:=i)
      have hed0:=Qbj (gPre al n T i)
      generalize hM1:SD.part (i+1) mk=M1 at*
      generalize hM:SD.part i mk=M at*
      by_cases hmv:mk.testBit i=true
      · rw [if_pos hmv] at hpt
        have hb:=QdC.2 hmv
        simp(disch:=first|omega|(simp only[lenW]<;>omega)) only[hlt,QcE (k:= .u8) (show i<=8 by omega),QcF,hb,wW,wV,simprocAttr]
        refine Qaj 300 (fun k:Nat=>[(0,sliN al),(3,.ptr 50 0 0),(4,.ptr 51 0 0),(5,.ptr 52 0 0),(6,.int .i64 i),(7,.int .i64 k)])
          (fun k=>[(50,.cells 0 (.int .u8 (st:Int):: .int .u8 (mk:Int)::u8s T)),(51,.cells 0 [.nilsl,.int .i64 0,.nilsl,.nilsl]),(52,.cells 0 [sliN al,.int .i64 (n:Int),.sl 77 0 0 M1.length 1,.sl 76 0 0 (gPart al n T i k).length 3]),(76,.cells 0 ((gPart al n T i k).flatMap edC)),(77,.cells 0 (ints (nz M1)))])
          (fun k=>k<=al.length) (fun k=>al.length-k) 0 2 400
          (fun _:Unit=>[(0,sliN al),(3,.ptr 50 0 0),(4,.ptr 51 0 0),(5,.ptr 52 0 0),(6,.int .i64 i)])
          (fun _=>[(50,.cells 0 (.int .u8 (st:Int):: .int .u8 (mk:Int)::u8s T)),(51,.cells 0 [.nilsl,.int .i64 0,.nilsl,.nilsl]),(52,.cells 0 [sliN al,.int .i64 (n:Int),.sl 77 0 0 M1.length 1,.sl 76 0 0 (gPre al n T (i+1)).length 3]),(76,.cells 0 ((gPre al n T (i+1)).flatMap edC)),(77,.cells 0 (ints (nz M1)))]) (fun _=>True) ?_ (Nat.zero_le _) ?_ ?_
        · rw [hg0, hpt, List.length_append, QaI, QaB]
          exact⟨[(50,.blk 50 0),(51,.blk 51 0),(52,.blk 52 0),(76,.blk 76 0),(77,.blk 77 1)],rfl,au0,au7,au8⟩
        · rintro k hk
          by_cases hkl:k<al.length
          · obtain ⟨ev, hev⟩ := Qag hkl
            have hevD:al.getD k 0=ev:=by rw[List.getD_eq_getElem?_getD,hev];rfl
            obtain⟨x,hx⟩:=Qag (l:=T) (i:=i*5+k) (by omega)
            have hxD:T.getD (i*5+k) 0=x:=by rw[List.getD_eq_getElem?_getD,hx];rfl
            have hx8:=hT8 x (List.mem_of_getElem? hx)
            have hk5:(k:Int)<5:=by omega
            have hi5:(i:Int)<5:=by omega
            have hgx:(AV.int .u8 (st:Int)::AV.int .u8 (mk:Int)::u8s T)[2+i*5+k]?=some (.int .u8 (x:Int)):=by
              rw[show 2+i*5+k=(i*5+k)+2 by omega]
              simpa using QhM hx
            have hrm:(x:Int).tmod ((n:Int)+2)=((x % (n+2):Nat):Int):=by
              rw[Int.tmod_eq_emod_of_nonneg (Int.natCast_nonneg _)];norm_cast
            have hn0:¬(n:Int)+2=0:=by omega
            have hxm:x % (n+2)<=10:=by have:=Nat.mod_lt x (show 0<n+2 by omega);omega
            have hst:=Qjg (al:=al) (n:=n) (T:=T) (i:=i) (k:=k)
            have hrl:=@Qg3 al n T i k
            have hps:gPart al n T i (k+1)=gPart al n T i k++match gEd al n T i k with|some e=>[e]|none=>[]:=by
              unfold gPart;rw[hst,List.append_assoc]
            have hpl2:(gPart al n T i k).length<=100:=by unfold gPart;rw[List.length_append];omega
            have hpe:=Qbj (gPart al n T i k)
            unfold gEd at hps
            rw[hxD,hevD]at hps
            generalize gPart al n T i k=R at*
            by_cases ht:x % (n+2)<n
            · rw [if_pos ht] at hps
              simp(disch:=first|omega|(simp only[lenW]<;>omega)) only[hkl,hk5,hi5,hgx,hn0,hrm,ht,Qaz hev,hpe,wW,wV,simprocAttr]
              refine⟨k+1,by omega,by omega,?_⟩
              rw[hps,List.flatMap_append,List.length_append]
              exact⟨[(50,.blk 50 0),(51,.blk 51 0),(52,.blk 52 0),(76,.blk 76 1),(77,.blk 77 0)],rfl,au0,au7,au8⟩
            · rw [if_neg ht, List.append_nil] at hps
              simp(disch:=first|omega|(simp only[lenW]<;>omega)) only[hkl,hk5,hi5,hgx,hn0,hrm,ht,wW,wV,simprocAttr]
              refine⟨k+1,by omega,by omega,?_⟩
              rw[hps]
              exact⟨[(50,.blk 50 0),(51,.blk 51 0),(52,.blk 52 0),(76,.blk 76 0),(77,.blk 77 0)],rfl,au0,au7,au8⟩
          · have e : k = al.length := by omega
            subst e
            simp(disch:=first|omega|(simp only[lenW]<;>omega)) only[hkl,wW,wV,simprocAttr]
            refine⟨(),?_⟩
            rw[hgs]
            exact⟨[(50,.blk 50 0),(51,.blk 51 0),(52,.blk 52 0),(76,.blk 76 0),(77,.blk 77 0)],rfl,au0,au7,au8⟩
        rintro _ _
        simp(disch:=first|omega|(simp only[lenW]<;>omega)) only[wW,wV,simprocAttr]
        refine⟨i+1,by omega,by omega,?_⟩
        rw[hM1]
        exact⟨[(50,.blk 50 0),(51,.blk 51 0),(52,.blk 52 0),(76,.blk 76 0),(77,.blk 77 0)],rfl,au0,au7,au8⟩
      · rw [if_neg hmv, List.append_nil] at hpt
        have hb:¬((mk/2^i % 2:Nat):Int)=1:=fun e=>hmv (QdC.1 e)
        simp(disch:=first|omega|(simp only[lenW]<;>omega)) only[hlt,QcE (k:= .u8) (show i<=8 by omega),QcF,hb,wW,wV,simprocAttr]
        refine Qaj 300 (fun k:Nat=>[(0,sliN al),(3,.ptr 50 0 0),(4,.ptr 51 0 0),(5,.ptr 52 0 0),(6,.int .i64 i),(7,.int .i64 k)])
          (fun k=>[(50,.cells 0 (.int .u8 (st:Int):: .int .u8 (mk:Int)::u8s T)),(51,.cells 0 [.nilsl,.int .i64 0,.nilsl,.nilsl]),(52,.cells 0 [sliN al,.int .i64 (n:Int),.sl 77 0 0 M1.length 1,.sl 76 0 0 (gPart al n T i k).length 3]),(76,.cells 0 ((gPart al n T i k).flatMap edC)),(77,.cells 0 (ints (nz M1)))])
          (fun k=>k<=al.length) (fun k=>al.length-k) 0 2 400
          (fun _:Unit=>[(0,sliN al),(3,.ptr 50 0 0),(4,.ptr 51 0 0),(5,.ptr 52 0 0),(6,.int .i64 i)])
          (fun _=>[(50,.cells 0 (.int .u8 (st:Int):: .int .u8 (mk:Int)::u8s T)),(51,.cells 0 [.nilsl,.int .i64 0,.nilsl,.nilsl]),(52,.cells 0 [sliN al,.int .i64 (n:Int),.sl 77 0 0 M1.length 1,.sl 76 0 0 (gPre al n T (i+1)).length 3]),(76,.cells 0 ((gPre al n T (i+1)).flatMap edC)),(77,.cells 0 (ints (nz M1)))]) (fun _=>True) ?_ (Nat.zero_le _) ?_ ?_
        · rw [hg0, hpt]
          exact⟨[(50,.blk 50 0),(51,.blk 51 0),(52,.blk 52 0),(76,.blk 76 0),(77,.blk 77 0)],rfl,au0,au7,au8⟩
        · rintro k hk
          by_cases hkl:k<al.length
          · obtain ⟨ev, hev⟩ := Qag hkl
            have hevD:al.getD k 0=ev:=by rw[List.getD_eq_getElem?_getD,hev];rfl
            obtain⟨x,hx⟩:=Qag (l:=T) (i:=i*5+k) (by omega)
            have hxD:T.getD (i*5+k) 0=x:=by rw[List.getD_eq_getElem?_getD,hx];rfl
            have hx8:=hT8 x (List.mem_of_getElem? hx)
            have hk5:(k:Int)<5:=by omega
            have hi5:(i:Int)<5:=by omega
            have hgx:(AV.int .u8 (st:Int)::AV.int .u8 (mk:Int)::u8s T)[2+i*5+k]?=some (.int .u8 (x:Int)):=by
              rw[show 2+i*5+k=(i*5+k)+2 by omega]
              simpa using QhM hx
            have hrm:(x:Int).tmod ((n:Int)+2)=((x % (n+2):Nat):Int):=by
              rw[Int.tmod_eq_emod_of_nonneg (Int.natCast_nonneg _)];norm_cast
            have hn0:¬(n:Int)+2=0:=by omega
            have hxm:x % (n+2)<=10:=by have:=Nat.mod_lt x (show 0<n+2 by omega);omega
            have hst:=Qjg (al:=al) (n:=n) (T:=T) (i:=i) (k:=k)
            have hrl:=@Qg3 al n T i k
            have hps:gPart al n T i (k+1)=gPart al n T i k++match gEd al n T i k with|some e=>[e]|none=>[]:=by
              unfold gPart;rw[hst,List.append_assoc]
            have hpl2:(gPart al n T i k).length<=100:=by unfold gPart;rw[List.length_append];omega
            have hpe:=Qbj (gPart al n T i k)
            unfold gEd at hps
            rw[hxD,hevD]at hps
            generalize gPart al n T i k=R at*
            by_cases ht:x % (n+2)<n
            · rw [if_pos ht] at hps
              simp(disch:=first|omega|(simp only[lenW]<;>omega)) only[hkl,hk5,hi5,hgx,hn0,hrm,ht,Qaz hev,hpe,wW,wV,simprocAttr]
              refine⟨k+1,by omega,by omega,?_⟩
              rw[hps,List.flatMap_append,List.length_append]
              exact⟨[(50,.blk 50 0),(51,.blk 51 0),(52,.blk 52 0),(76,.blk 76 1),(77,.blk 77 0)],rfl,au0,au7,au8⟩
            · rw [if_neg ht, List.append_nil] at hps
              simp(disch:=first|omega|(simp only[lenW]<;>omega)) only[hkl,hk5,hi5,hgx,hn0,hrm,ht,wW,wV,simprocAttr]
              refine⟨k+1,by omega,by omega,?_⟩
              rw[hps]
              exact⟨[(50,.blk 50 0),(51,.blk 51 0),(52,.blk 52 0),(76,.blk 76 0),(77,.blk 77 0)],rfl,au0,au7,au8⟩
          · have e : k = al.length := by omega
            subst e
            simp(disch:=first|omega|(simp only[lenW]<;>omega)) only[hkl,wW,wV,simprocAttr]
            refine⟨(),?_⟩
            rw[hgs]
            exact⟨[(50,.blk 50 0),(51,.blk 51 0),(52,.blk 52 0),(76,.blk 76 0),(77,.blk 77 0)],rfl,au0,au7,au8⟩
        rintro _ _
        simp(disch:=first|omega|(simp only[lenW]<;>omega)) only[wW,wV,simprocAttr]
        refine⟨i+1,by omega,by omega,?_⟩
        rw[hM1]
        exact⟨[(50,.blk 50 0),(51,.blk 51 0),(52,.blk 52 0),(76,.blk 76 0),(77,.blk 77 0)],rfl,au0,au7,au8⟩
    · have e : i = n := by omega
      subst e
      simp(disch:=first|omega|(simp only[lenW]<;>omega)) only[hlt,wW,wV,simprocAttr]
      refine⟨(),[(51,.blk 51 0),(52,.blk 52 0)],rfl,RO.zero,?_,au8⟩
      refine RB.cells rfl rfl rfl (RnL.same rfl) (RB.cells rfl rfl rfl (RnL.cons (Rn.same (Qab _)) (RnL.cons (Rn.same rfl) (RnL.cons (Rn.fzm rfl rfl rfl rfl (by simp[ints]) (RnL.same (Qae _))) (RnL.cons (Rn.fzm rfl rfl rfl rfl (Qbj _) (RnL.same (Qaf _))) RnL.nil)))) RB.nil)
  rintro _ _
  simp(disch:=first|omega|(simp only[lenW]<;>omega)) only[wW,wV,simprocAttr]
  refine cp hcan ?_
  generalize canon ⟨al,n,SD.part n mk,gPre al n T n⟩=C at*
  simp(disch:=first|omega|(simp only[lenW]<;>omega)) only[wW,wV,simprocAttr]
  exact⟨.inr trivial,_,rfl,Rn.same (Qc7 _)⟩
end Go.AM.SE
namespace Go.AM.SO
open Go.Proofs Go.AM.SD Go.AM.SE
def mrg (k:Bool->Bool->Bool):List Nat->List Nat->List Nat
 |[],[]=>[]
 |a::A,[]=>(if k true false=true then[a]else[])++mrg k A []
 |[],b::B=>(if k false true=true then[b]else[])++mrg k [] B
 |a::A,b::B=>if a<b then(if k true false=true then[a]else[])++mrg k A (b::B)
  else if b<a then(if k false true=true then[b]else[])++mrg k (a::A) B
  else(if k true true=true then[a]else[])++mrg k A B
termination_by A B=>A.length+B.length
theorem QbF {k : Bool -> Bool -> Bool} {x : Nat} : ∀ {A B : List Nat}, A.Pairwise (· < ·) -> B.Pairwise (· < ·) -> (x ∈ mrg k A B ↔ k (decide (x ∈ A)) (decide (x ∈ B)) = true /\ (x ∈ A \/ x ∈ B))
  |[],[],_,_=>by simp[mrg]
  | a :: A, [], hA, hB => by
    have ih:=QbF (k:=k) (x:=x) (List.pairwise_cons.1 hA).2 hB
    grind [mrg]
  | [], b :: B, hA, hB => by
    have ih:=QbF (k:=k) (x:=x) hA (List.pairwise_cons.1 hB).2
    grind [mrg]
  | a :: A, b :: B, hA, hB => by
    have hA1:=(List.pairwise_cons.1 hA).1
    have hB1:=(List.pairwise_cons.1 hB).1
    rw[mrg]
    by_cases h1:a<b
    · have ih := QbF (k := k) (x := x) (List.pairwise_cons.1 hA).2 hB
      grind
    · rw [if_neg h1]
      by_cases h2:b<a
      · have ih := QbF (k := k) (x := x) hA (List.pairwise_cons.1 hB).2
        grind
      · have e1 : a = b := by omega
        subst e1
        have ih:=QbF (k:=k) (x:=x) (List.pairwise_cons.1 hA).2 (List.pairwise_cons.1 hB).2
        grind
termination_by A B=>A.length+B.length
theorem Qcn {k:Bool->Bool->Bool}:∀{A B:List Nat},A.Pairwise (· < ·)->B.Pairwise (· < ·)->(mrg k A B).Pairwise (· < ·)
 |[],[],_,_=>by simp[mrg]
 |a::A,[],hA,hB=>by
  have ih:=Qcn (k:=k) (List.pairwise_cons.1 hA).2 hB
  grind [List.pairwise_cons,mrg,QbF]
 |[],b::B,hA,hB=>by
  have ih:=Qcn (k:=k) hA (List.pairwise_cons.1 hB).2
  grind [List.pairwise_cons,mrg,QbF]
 | a :: A, b :: B, hA, hB => by
  have hA1:=(List.pairwise_cons.1 hA).1
  have hB1:=(List.pairwise_cons.1 hB).1
  rw[mrg]
  split
  ·rename_i h1
   rw[List.pairwise_append]
   refine⟨by split<;>simp,Qcn (List.pairwise_cons.1 hA).2 hB,fun x hx y hy=>?_⟩
   have hx:x=a:=by simp_all
   have:=(QbF (List.pairwise_cons.1 hA).2 hB).1 hy
   grind
  ·rename_i h1
   split
   ·rename_i h2
    rw[List.pairwise_append]
    refine⟨by split<;>simp,Qcn hA (List.pairwise_cons.1 hB).2,fun x hx y hy=>?_⟩
    have hx:x=b:=by simp_all
    have:=(QbF hA (List.pairwise_cons.1 hB).2).1 hy
    grind
   ·rename_i h2
    have e1:a=b:=by omega
    subst e1
    rw[List.pairwise_append]
    refine⟨by split<;>simp,Qcn (List.pairwise_cons.1 hA).2 (List.pairwise_cons.1 hB).2,fun x hx y hy=>?_⟩
    grind [QbF]
termination_by A B=>A.length+B.length
end Go.AM.SO
namespace Go.AM.SO
open Go.Proofs Go.AM.SD Go.AM.SE
theorem iaddr0 {a:Nat} {A:List Nat}:aIAddr none 1 (sliN (a::A)) (.int .i64 0)=some (.fptr (ints (nz (a::A)))):=by
 simp[aIAddr]
theorem head0 {a:Nat} {A:List Nat}:(ints (nz (a::A))).head?=some (.int .i64 (a:Int)):=rfl
theorem tk1 {b:Nat} {B1:List Nat}:List.take (B1.length+1-1) (List.drop 1 (ints (nz (b::B1))))=ints (nz B1):=by
 simp only[ints,nz,List.map_cons,List.drop_succ_cons,List.drop_zero]
 exact List.take_of_length_le (by simp)
theorem tk2 {b:Nat} {B1:List Nat}:List.take B1.length (List.drop 1 (ints (nz (b::B1))))=ints (nz B1):=by
 simp only[ints,nz,List.map_cons,List.drop_succ_cons,List.drop_zero]
 exact List.take_of_length_le (by simp)
theorem union169 (a b:Bool):PSpec Tryz.prog 169 [.bool a,.bool b] (.bool (a||b)):=by
  refine PSpec.Qal 64 ok169 rfl rfl rfl ?_
  cases a
  · simp (disch := first | omega | (simp only [lenW] <;> omega)) only [s169, wV, simprocAttr]
    exact⟨.inr trivial,_,rfl,by simp[resOf,QaT]⟩
  · simp (disch := first | omega | (simp only [lenW] <;> omega)) only [s169, wV, simprocAttr]
    exact⟨.inr trivial,_,rfl,by simp[resOf,QaT]⟩
theorem minus242 (a b:Bool):PSpec Tryz.prog 242 [.bool a,.bool b] (.bool (a&& !b)):=by
  refine PSpec.Qal 64 ok242 rfl rfl rfl ?_
  cases a
  · simp (disch := first | omega | (simp only [lenW] <;> omega)) only [s242, wV, simprocAttr]
    exact⟨.inr trivial,_,rfl,by simp[resOf,QaT]⟩
  · simp (disch := first | omega | (simp only [lenW] <;> omega)) only [s242, wV, simprocAttr]
    exact⟨.inr trivial,_,rfl,by simp[resOf,QaT]⟩
theorem merge168 (K : Nat) (k : Bool -> Bool -> Bool) (hk : ∀ a b, PSpec Tryz.prog K [.bool a, .bool b] (.bool (k a b))) (A B : List Nat) (hA : A.length <= 1000000) (hB : B.length <= 1000000) :
    PSpec Tryz.prog 168 [sliN A,sliN B,.fn K [] []] (sliN (mrg k A B)):=by
  refine PSpec.of_rn 64 ok168 rfl (by(try simp only[noRefs,Qae,Qam,Qaf,Qao,Qan,noRef,Bool.and_self,Bool.and_true])<;>rfl) (Qab _) ?_
  simp(disch:=first|omega|(simp only[lenW]<;>omega)) only[s168,wV,simprocAttr]
  refine QaK 120 (fun t:List Nat×List Nat×List Nat=>[(0,sliN t.1),(1,sliN t.2.1),(2,.fn K [] []),(7,.sl 50 0 0 t.2.2.length 1)]) (fun t=>[(50,.cells 0 (ints (nz t.2.2)))]) (fun t=>mrg k A B=t.2.2++mrg k t.1 t.2.1/\t.1.length+t.2.1.length+t.2.2.length<=2000000) (fun t=>t.1.length+t.2.1.length) (A,B,[]) ⟨[(50,.nil)],rfl,au0,au1,au2⟩ ⟨by simp,by simp;omega⟩ ?_
  rintro⟨A',B',out⟩ ⟨hm,hl⟩
  dsimp only at hm hl
  rcases A' with _|⟨a,A1⟩<;>rcases B' with _|⟨b,B1⟩
  · simp (disch := first | omega | (simp only [lenW] <;> omega)) only [List.length_nil, List.map_nil, wV, simprocAttr]
    refine⟨.inr trivial,_,rfl,?_⟩
    rw[hm,mrg,List.append_nil]
    exact Rn.fz0 rfl (by simp[ints]) (RnL.same (Qae _))
  · have h1 : (0 : Int) < (B1.length : Int) + 1 := by omega
    have h2:¬(B1.length:Int)+1=0:=by omega
    simp only[List.length_nil,List.length_cons]at hl
    simp(disch:=first|omega|(simp only[lenW]<;>omega)) only[List.length_nil,List.length_cons,h1,h2,iaddr0,tk1,tk2,head0,Nat.add_sub_cancel,wV,simprocAttr]
    refine cp (hk false true) ?_
    rw[mrg]at hm
    cases hkb:k false true
    · simp (disch := first | omega | (simp only [lenW] <;> omega)) only [wV, simprocAttr]
      rw[if_neg (by simp[hkb]),List.nil_append]at hm
      exact⟨(([]:List Nat),(B1:List Nat),out),by simp<;>omega,⟨hm,by simp;omega⟩,⟨[(50,.blk 50 0)],rfl,au0,au1,au2⟩⟩
    · simp (disch := first | omega | (simp only [lenW] <;> omega)) only [wV, simprocAttr]
      rw[if_pos hkb,<-List.append_assoc]at hm
      refine⟨(([]:List Nat),(B1:List Nat),out++[b]),by simp<;>omega,⟨hm,by simp;omega⟩,?_⟩
      rw[QaI,QaB,List.length_append]
      exact⟨[(50,.blk 50 1)],rfl,au0,au1,au2⟩
  · have h1 : (0 : Int) < (A1.length : Int) + 1 := by omega
    have h2:¬(A1.length:Int)+1=0:=by omega
    simp only[List.length_nil,List.length_cons]at hl
    simp(disch:=first|omega|(simp only[lenW]<;>omega)) only[List.length_nil,List.length_cons,h1,h2,iaddr0,tk1,tk2,head0,Nat.add_sub_cancel,wV,simprocAttr]
    refine cp (hk true false) ?_
    rw[mrg]at hm
    cases hkb:k true false
    · simp (disch := first | omega | (simp only [lenW] <;> omega)) only [wV, simprocAttr]
      rw[if_neg (by simp[hkb]),List.nil_append]at hm
      exact⟨((A1:List Nat),([]:List Nat),out),by simp<;>omega,⟨hm,by simp;omega⟩,⟨[(50,.blk 50 0)],rfl,au0,au1,au2⟩⟩
    · simp (disch := first | omega | (simp only [lenW] <;> omega)) only [wV, simprocAttr]
      rw[if_pos hkb,<-List.append_assoc]at hm
      refine⟨((A1:List Nat),([]:List Nat),out++[a]),by simp<;>omega,⟨hm,by simp;omega⟩,?_⟩
      rw[QaI,QaB,List.length_append]
      exact⟨[(50,.blk 50 1)],rfl,au0,au1,au2⟩
  · have h1 : (0 : Int) < (A1.length : Int) + 1 := by omega
    have h2:¬(A1.length:Int)+1=0:=by omega
    have h3:(0:Int)<(B1.length:Int)+1:=by omega
    have h4:¬(B1.length:Int)+1=0:=by omega
    by_cases hab:a<b
    · have h5 : (a : Int) <= (b : Int) := by omega
      have h6:¬(b:Int)<=(a:Int):=by omega
      simp only[List.length_nil,List.length_cons]at hl
      simp(disch:=first|omega|(simp only[lenW]<;>omega)) only[List.length_nil,List.length_cons,h1,h2,h3,h4,h5,h6,iaddr0,tk1,tk2,head0,Nat.add_sub_cancel,wV,simprocAttr]
      refine cp (hk true false) ?_
      rw[mrg,if_pos hab]at hm
      cases hkb:k true false
      · simp (disch := first | omega | (simp only [lenW] <;> omega)) only [wV, simprocAttr]
        rw[if_neg (by simp[hkb]),List.nil_append]at hm
        exact⟨((A1:List Nat),(b::B1:List Nat),out),by simp<;>omega,⟨hm,by simp;omega⟩,⟨[(50,.blk 50 0)],rfl,au0,au1,au2⟩⟩
      · simp (disch := first | omega | (simp only [lenW] <;> omega)) only [wV, simprocAttr]
        rw[if_pos hkb,<-List.append_assoc]at hm
        refine⟨((A1:List Nat),(b::B1:List Nat),out++[a]),by simp<;>omega,⟨hm,by simp;omega⟩,?_⟩
        rw[QaI,QaB,List.length_append]
        exact⟨[(50,.blk 50 1)],rfl,au0,au1,au2⟩
    · by_cases hba : b < a
      · have h5 : ¬ (a : Int) <= (b : Int) := by omega
        have h6:(b:Int)<=(a:Int):=by omega
        simp only[List.length_nil,List.length_cons]at hl
        simp(disch:=first|omega|(simp only[lenW]<;>omega)) only[List.length_nil,List.length_cons,h1,h2,h3,h4,h5,h6,iaddr0,tk1,tk2,head0,Nat.add_sub_cancel,wV,simprocAttr]
        refine cp (hk false true) ?_
        rw[mrg,if_neg hab,if_pos hba]at hm
        cases hkb:k false true
        · simp (disch := first | omega | (simp only [lenW] <;> omega)) only [wV, simprocAttr]
          rw[if_neg (by simp[hkb]),List.nil_append]at hm
          exact⟨((a::A1:List Nat),(B1:List Nat),out),by simp<;>omega,⟨hm,by simp;omega⟩,⟨[(50,.blk 50 0)],rfl,au0,au1,au2⟩⟩
        · simp (disch := first | omega | (simp only [lenW] <;> omega)) only [wV, simprocAttr]
          rw[if_pos hkb,<-List.append_assoc]at hm
          refine⟨((a::A1:List Nat),(B1:List Nat),out++[b]),by simp<;>omega,⟨hm,by simp;omega⟩,?_⟩
          rw[QaI,QaB,List.length_append]
          exact⟨[(50,.blk 50 1)],rfl,au0,au1,au2⟩
      · have e1 : a = b := by omega
        subst e1
        have h5:(a:Int)<=(a:Int):=by omega
        simp only[List.length_nil,List.length_cons]at hl
        simp(disch:=first|omega|(simp only[lenW]<;>omega)) only[List.length_nil,List.length_cons,h1,h2,h3,h4,h5,iaddr0,tk1,tk2,head0,Nat.add_sub_cancel,wV,simprocAttr]
        refine cp (hk true true) ?_
        rw[mrg,if_neg hab,if_neg hba]at hm
        cases hkb:k true true
        · simp (disch := first | omega | (simp only [lenW] <;> omega)) only [wV, simprocAttr]
          rw[if_neg (by simp[hkb]),List.nil_append]at hm
          exact⟨((A1:List Nat),(B1:List Nat),out),by simp<;>omega,⟨hm,by simp;omega⟩,⟨[(50,.blk 50 0)],rfl,au0,au1,au2⟩⟩
        · simp (disch := first | omega | (simp only [lenW] <;> omega)) only [wV, simprocAttr]
          rw[if_pos hkb,<-List.append_assoc]at hm
          refine⟨((A1:List Nat),(B1:List Nat),out++[a]),by simp<;>omega,⟨hm,by simp;omega⟩,?_⟩
          rw[QaI,QaB,List.length_append]
          exact⟨[(50,.blk 50 1)],rfl,au0,au1,au2⟩
theorem union84 (A B:List Nat) (hA:A.length<=1000000) (hB:B.length<=1000000):PSpec Tryz.prog 84 [sliN A,sliN B] (sliN (mrg (fun a b=>a||b) A B)):=by
 refine PSpec.of_rn 64 ok84 rfl (by(try simp only[noRefs,Qae,Qam,Qaf,Qao,Qan,noRef,Bool.and_self,Bool.and_true])<;>rfl) (Qab _) ?_
 simp(disch:=first|omega|(simp only[lenW]<;>omega)) only[s84,wV,simprocAttr]
 refine cp (merge168 169 _ union169 A B hA hB) ?_
 simp(disch:=first|omega|(simp only[lenW]<;>omega)) only[wV,simprocAttr]
 exact⟨.inr trivial,_,rfl,Rn.same (Qab _)⟩
theorem minus219 (A B:List Nat) (hA:A.length<=1000000) (hB:B.length<=1000000):PSpec Tryz.prog 219 [sliN A,sliN B] (sliN (mrg (fun a b=>a&& !b) A B)):=by
 refine PSpec.of_rn 64 ok219 rfl (by(try simp only[noRefs,Qae,Qam,Qaf,Qao,Qan,noRef,Bool.and_self,Bool.and_true])<;>rfl) (Qab _) ?_
 simp(disch:=first|omega|(simp only[lenW]<;>omega)) only[s219,wV,simprocAttr]
 refine cp (merge168 242 _ minus242 A B hA hB) ?_
 simp(disch:=first|omega|(simp only[lenW]<;>omega)) only[wV,simprocAttr]
 exact⟨.inr trivial,_,rfl,Rn.same (Qab _)⟩
theorem subset167 (A B:List Nat) (hA:A.length<=1000000) (hB:B.length<=1000000):PSpec Tryz.prog 167 [sliN A,sliN B] (.bool (decide ((mrg (fun a b=>a&& !b) A B).length=0))):=by
  refine PSpec.Qal 64 ok167 rfl (by(try simp only[noRefs,Qae,Qam,Qaf,Qao,Qan,noRef,Bool.and_self,Bool.and_true])<;>rfl) rfl ?_
  simp(disch:=first|omega|(simp only[lenW]<;>omega)) only[s167,wV,simprocAttr]
  refine cp (minus219 A B hA hB) ?_
  by_cases h:(mrg (fun a b=>a&& !b) A B).length=0
  · have h' : (((mrg (fun a b => a && !b) A B).length : Nat) : Int) = 0 := by omega
    simp(disch:=first|omega|(simp only[lenW]<;>omega)) only[h',wV,simprocAttr]
    exact⟨.inr trivial,_,rfl,by simp[resOf,QaT,h]⟩
  · have h' : ¬ (((mrg (fun a b => a && !b) A B).length : Nat) : Int) = 0 := by omega
    simp(disch:=first|omega|(simp only[lenW]<;>omega)) only[h',wV,simprocAttr]
    exact⟨.inr trivial,_,rfl,by simp[resOf,QaT,h]⟩
end Go.AM.SO
namespace Go.AM.SD
theorem QhN {α:Type} (f:α->Nat):∀{l l':List α},l.Pairwise (fun a b=>f a<f b)->l'.Pairwise (fun a b=>f a<f b)->(∀p,p∈l↔p∈l')->l=l'
 |[],[],_,_,_=>rfl
 |[],y::l',_,_,hm=>absurd ((hm y).2 (by simp)) (by simp)
 |x::l,[],_,_,hm=>absurd ((hm x).1 (by simp)) (by simp)
 | x :: l, y :: l', h, h', hm => by
  rw[List.pairwise_cons]at h h'
  have hxy:x=y:=by
   grind
  subst hxy
  have:l=l':=QhN f h.2 h'.2 fun p=>by
   grind
  rw[this]
theorem uniqE {es:List Ed} (h:es.Pairwise fun x y=>x.1<y.1\/(x.1=y.1/\x.2.1<y.2.1)) {e e':Ed} (he:e∈es) (he':e'∈es) (h1:e.1=e'.1) (h2:e.2.1=e'.2.1):e=e':=by
 induction h with
 |nil=>cases he
 |cons hx _ ih=>
  rcases List.mem_cons.1 he with rfl|m1<;>rcases List.mem_cons.1 he' with rfl|m2
  ·rfl
  ·grind
  ·grind
  ·exact ih m1 m2
theorem Qeb {es:List Ed} (h:es.Pairwise fun x y=>x.1<y.1\/(x.1=y.1/\x.2.1<y.2.1)) {v ev to:Nat}:stepA es v ev=some to↔((v,ev,to):Ed)∈es:=by
 unfold stepA
 constructor
 ·intro hs
  cases hf:es.find? fun e=>e.1==v&&e.2.1==ev with
  |none=>rw[hf]at hs;cases hs
  |some e=>
   rw[hf]at hs;cases hs
   have h1:=List.find?_some hf
   simp only[Bool.and_eq_true,beq_iff_eq]at h1
   have h2:=List.mem_of_find?_eq_some hf
   obtain⟨a,b,c⟩:=e
   obtain⟨rfl,rfl⟩:=h1
   exact h2
 ·intro hm
  cases hf:es.find? fun e=>e.1==v&&e.2.1==ev with
  |none=>
   rw[List.find?_eq_none]at hf
   exact absurd (by simp) (hf _ hm)
  |some e=>
   have h1:=List.find?_some hf
   simp only[Bool.and_eq_true,beq_iff_eq]at h1
   rw[uniqE h (List.mem_of_find?_eq_some hf) hm h1.1 h1.2];rfl
theorem Qmx {a:Aut} (h:WfA a) (v:Nat):sOut a.es (fun _=>true) v=a.al.filterMap fun ev=>(stepA a.es v ev).map fun to=>((v,ev,to):Ed):=by
 refine QhN (fun e:Ed=>e.2.1) ?_ ?_ fun e=>?_
 ·have h1 : (sOut a.es (fun _ => true) v).Pairwise fun x y => x.1 < y.1 \/ (x.1 = y.1 /\ x.2.1 < y.2.1) := h.es.filter _
  refine h1.imp_of_mem fun{x y} hx hy hr=>?_
  simp_all [Qa5]
 ·refine List.Pairwise.filterMap _ (R := (· < ·)) ?_ h.al
  simp_all
 ·rw [Qa5, List.mem_filterMap]
  constructor
  ·rintro ⟨he, rfl, _⟩
   obtain⟨x,y,z⟩:=e
   exact⟨y,h.ev _ he,by rw[(Qeb h.es).2 he];rfl⟩
  ·rintro ⟨ev, hev, hm⟩
   cases hs:stepA a.es v ev with
   |none=>rw[hs]at hm;cases hm
   |some to=>rw[hs]at hm;cases hm;exact⟨(Qeb h.es).1 hs,rfl,rfl⟩
theorem QpD {a:Aut} (h:WfA a) (i v:Nat) (s:OE):(sRow a.es (fun _=>true) i v s).1=fRow a.al a.es v s.1:=by
 unfold sRow fRow
 rw[Qmx h]
 have key:∀(al:List Nat) (s:OE),((al.filterMap fun ev=>(stepA a.es v ev).map fun to=>((v,ev,to):Ed)).foldl (sEd i) s).1=al.foldl (fEv a.es v) s.1:=by
  intro al
  induction al with
  |nil=>intro s;rfl
  | cons ev al ih =>
   intro s
   rw[List.filterMap_cons,List.foldl_cons]
   cases hs:stepA a.es v ev with
   |none=>
    have e:fEv a.es v s.1 ev=s.1:=by grind [fEv]
    rw[e];exact ih s
   |some to=>
    have e:fEv a.es v s.1 ev=if s.1.contains to then s.1 else s.1++[to]:=by grind [fEv]
    dsimp only[Option.map_some]
    rw[List.foldl_cons,ih,e]
    congr 1
    unfold sEd
    split<;>rfl
 simp_all
theorem Qos {a:Aut} (h:WfA a):∀(k i:Nat) (s:OE),(sQ a.es (fun _=>true) k i s).1=fQ a.al a.es k i s.1
 |0,_,_=>rfl
 |k+1,i,s=>by
  unfold sQ fQ
  cases s.1[i]? with
  |none=>rfl
  |some v=>dsimp only;rw[Qos h k,QpD h]
theorem QpE {a:Aut} (h:WfA a):(sAll a fun _=>true).1=found a:=by
 simp_all [sAll,found,Qos]
theorem QlL {a:Aut} (h:WfA a):canon a=restr a (fun _=>true):=by
 have hs:=(QfT (left:=fun _=>true) h).1
 have hf:=QpE h
 have he:(sAll a fun _=>true).2=cRows a (found a):=by
  rw[hs.ed,hf]
  unfold cRows
  rw[List.flatMap_def,List.flatMap_def]
  congr 1
  refine List.map_congr_left fun i _=>?_
  rw[Qmx h]
  unfold cRow
  rw[List.map_filterMap]
  congr 1
  funext ev
  rw[Option.map_map];rfl
 simp_all [canon,restr]
end Go.AM.SD
namespace Go.AM.SE
open Go.Proofs Go.AM.SD
theorem shr1 {i j:Nat}:aBin .shr (.int .u64 ((i:Int)+(j:Int))) (.int .u64 1)=some (.int .u64 (((i+j)/2:Nat):Int)):=by
 have h:(((i:Int)+(j:Int)).fdiv (2^(min (1:Int).toNat 64)))=(((i+j)/2:Nat):Int):=by
  rw[show min (1:Int).toNat 64=1 from rfl,Int.fdiv_eq_ediv_of_nonneg _ (by decide)];omega
 show(if(1:Int)<0 then none else some (AV.int .u64 (((i:Int)+(j:Int)).fdiv (2^(min (1:Int).toNat 64)))))=_
 rw[if_neg (by decide),h]
def lbN (l:List Nat) (t:Nat):Nat:=l.countP fun x=>decide (x<t)
theorem lb_eq:∀{l:List Nat} {t i:Nat},i<=l.length->(∀j,j<i->l.getD j 0<t)->(∀j,i<=j->j<l.length->¬l.getD j 0<t)->lbN l t=i
 |[],t,i,hi,_,_=>by simp at hi;subst hi;rfl
 |x::l,t,0,_,_,h2=>by
  unfold lbN
  rw[List.countP_eq_zero]
  intro y hy
  obtain⟨q,hq,hql⟩:=Qd1 hy
  have:=h2 q (Nat.zero_le _) hql
  rw[List.getD_eq_getElem?_getD,hq]at this
  simpa using this
 |x::l,t,i+1,hi,h1,h2=>by
  have hx:x<t:=by have:=h1 0 (by omega);simpa using this
  have:=lb_eq (l:=l) (t:=t) (i:=i) (by simpa using hi) (fun j hj=>by have:=h1 (j+1) (by omega);simpa using this) (fun j hj hl=>by have:=h2 (j+1) (by omega) (by simpa using hl);simpa using this)
  unfold lbN at this⊢
  rw[List.countP_cons,this,if_pos (by simpa using hx)]
theorem lb_le {l:List Nat} {t:Nat}:lbN l t<=l.length:=List.countP_le_length
theorem Qc9 {l:List Nat} (h:l.Pairwise (· <= ·)) {p q:Nat} (hpq:p<=q) (hq:q<l.length):l.getD p 0<=l.getD q 0:=by
 rw[List.getD_eq_getElem?_getD,List.getD_eq_getElem?_getD,List.getElem?_eq_getElem (by omega),List.getElem?_eq_getElem hq]
 rcases Nat.lt_or_eq_of_le hpq with h1|h1
 ·exact List.pairwise_iff_getElem.1 h p q (by omega) hq h1
 ·subst h1;exact Nat.le_refl _
theorem QkO {l:List Nat} (h:l.Pairwise (· <= ·)) {t i:Nat} (h1:∀j,j<i->l.getD j 0<t) (h2:∀j,i<=j->j<l.length->¬l.getD j 0<t):l.contains t=decide (i<l.length/\l.getD i 0=t):=by
 rw[Bool.eq_iff_iff,decide_eq_true_iff,List.contains_iff_mem]
 constructor
 ·intro hm
  obtain⟨q,hq,hql⟩:=Qd1 hm
  have hqd:l.getD q 0=t:=by rw[List.getD_eq_getElem?_getD,hq];rfl
  have hiq:i<=q:=by
   refine Nat.le_of_not_lt fun h3=>?_
   have:=h1 q h3;omega
  have h4:=Qc9 h hiq hql
  have h5:=h2 i (Nat.le_refl _) (by omega)
  exact⟨by omega,by omega⟩
 ·rintro ⟨hi, e⟩
  rw[<-e,List.getD_eq_getElem?_getD,List.getElem?_eq_getElem hi]
  exact List.getElem_mem hi
theorem nan81 (x:Int):PSpec Tryz.prog 227 [.int .i64 x] (.bool false):=by
 refine PSpec.Qal 64 ok227 rfl (by(try simp only[noRefs,QaA,Qav,Qay,Qae,Qam,Qaf,Qao,QaD,Qan,noRef,Bool.and_self,Bool.and_true])<;>rfl) rfl ?_
 simp(disch:=first|omega|(simp only[lenW]<;>omega)) only[s227,wW,wV,simprocAttr]
 exact⟨.inr trivial,_,rfl,rfl⟩
theorem nan66 (x:Int):PSpec Tryz.prog 198 [.int .i64 x] (.bool false):=by
 refine PSpec.Qal 64 ok198 rfl (by(try simp only[noRefs,QaA,Qav,Qay,Qae,Qam,Qaf,Qao,QaD,Qan,noRef,Bool.and_self,Bool.and_true])<;>rfl) rfl ?_
 simp(disch:=first|omega|(simp only[lenW]<;>omega)) only[s198,wW,wV,simprocAttr]
 exact⟨.inr trivial,_,rfl,rfl⟩
theorem less65 (x y:Int):PSpec Tryz.prog 197 [.int .i64 x,.int .i64 y] (.bool (decide (x<y))):=by
 refine PSpec.Qal 64 ok197 rfl (by(try simp only[noRefs,QaA,Qav,Qay,Qae,Qam,Qaf,Qao,QaD,Qan,noRef,Bool.and_self,Bool.and_true])<;>rfl) rfl ?_
 simp(disch:=first|omega|(simp only[lenW]<;>omega)) only[s197,wW,wV,simprocAttr]
 refine cp (nan81 x) ?_
 simp(disch:=first|omega|(simp only[lenW]<;>omega)) only[wW,wV,simprocAttr]
 exact⟨.inr trivial,_,rfl,rfl⟩
theorem find57 (l : List Nat) (t : Nat) (hs : l.Pairwise (· <= ·)) (hl : l.length <= 1000000) : PSpec Tryz.prog 144 [sliN l, .int .i64 (t : Int)] (.tup [.int .i64 (lbN l t : Int), .bool (l.contains t)]) := by
  refine PSpec.Qal 64 ok144 rfl (by(try simp only[noRefs,QaA,Qav,Qay,Qae,Qam,Qaf,Qao,QaD,Qan,noRef,Bool.and_self,Bool.and_true])<;>rfl) rfl ?_
  simp(disch:=first|omega|(simp only[lenW]<;>omega)) only[s144,wW,wV,simprocAttr]
  refine Qaj 100 (fun p:Nat×Nat=>[(0,sliN l),(1,.int .i64 (t:Int)),(6,.int .i64 l.length),(7,.int .i64 p.1),(8,.int .i64 p.2)]) (fun _=>[])
    (fun p=>p.1<=p.2/\p.2<=l.length/\(∀q,q<p.1->l.getD q 0<t)/\∀q,p.2<=q->q<l.length->¬l.getD q 0<t) (fun p=>p.2-p.1) (0,l.length) 0 140
    (fun i:Nat=>[(0,sliN l),(1,.int .i64 (t:Int)),(6,.int .i64 l.length),(7,.int .i64 i)]) (fun _=>[])
    (fun i=>i<=l.length/\(∀q,q<i->l.getD q 0<t)/\∀q,i<=q->q<l.length->¬l.getD q 0<t) ?_ ⟨Nat.zero_le _,Nat.le_refl _,fun q hq=>absurd hq (Nat.not_lt_zero _),fun q h1 h2=>by omega⟩ ?_ ?_
  · exact⟨[],rfl,au0,au7,au8⟩
  · rintro ⟨i, j⟩ ⟨hij, hj, h1, h2⟩
    dsimp only at hij hj h1 h2⊢
    by_cases hlt:i<j
    · obtain ⟨k, hk, hk1, hk2⟩ : ∃ k : Nat, aBin .shr (.int .u64 ((i : Int) + (j : Int))) (.int .u64 1) = some (.int .u64 (k : Int)) /\ i <= k /\ k < j := ⟨(i + j) / 2, shr1, by omega, by omega⟩
      have hkl:k<l.length:=by omega
      have hkx:l[k]?=some (l.getD k 0):=by rw[List.getElem?_eq_getElem hkl];simp[hkl]
      simp(disch:=first|omega|(simp only[lenW]<;>omega)) only[hlt,hk,hkl,Qaz hkx,wW,wV,simprocAttr]
      refine cp (less65 _ _) ?_
      by_cases hc:l.getD k 0<t
      · rw [decide_eq_true (by omega)]
        simp(disch:=first|omega|(simp only[lenW]<;>omega)) only[wW,wV,simprocAttr]
        refine⟨(k+1,j),by dsimp only;omega,⟨by dsimp only;omega,hj,fun q hq=>?_,h2⟩,⟨[],rfl,au0,au7,au8⟩⟩
        have:=Qc9 hs (p:=q) (q:=k) (by dsimp only at hq;omega) hkl
        omega
      · rw [decide_eq_false (by omega)]
        simp(disch:=first|omega|(simp only[lenW]<;>omega)) only[wW,wV,simprocAttr]
        refine⟨(i,k),by dsimp only;omega,⟨hk1,by dsimp only;omega,h1,fun q hq hql=>?_⟩,⟨[],rfl,au0,au7,au8⟩⟩
        have:=Qc9 hs (p:=k) (q:=q) hq hql
        omega
    · have e : i = j := by omega
      subst e
      simp(disch:=first|omega|(simp only[lenW]<;>omega)) only[hlt,wW,wV,simprocAttr]
      exact⟨i,⟨hj,h1,h2⟩,⟨[],rfl,au0,au7,au8⟩⟩
  rintro i ⟨hi,h1,h2⟩
  rw[lb_eq hi h1 h2,QkO hs h1 h2]
  by_cases hlt:i<l.length
  · have hx : l[i]? = some (l.getD i 0) := by rw [List.getElem?_eq_getElem hlt]; simp [hlt]
    by_cases he:l.getD i 0=t
    · rw [decide_eq_true ⟨hlt, he⟩]
      rw[he]at hx
      simp(disch:=first|omega|(simp only[lenW]<;>omega)) only[hlt,Qaz hx,wW,wV,simprocAttr]
      exact⟨.inr trivial,_,rfl,rfl⟩
    · rw [decide_eq_false fun h => he h.2]
      generalize l.getD i 0=y at*
      have he':¬(y:Int)=(t:Int):=by omega
      simp(disch:=first|omega|(simp only[lenW]<;>omega)) only[hlt,Qaz hx,he',wW,wV,simprocAttr]
      refine cp (nan66 _) ?_
      simp(disch:=first|omega|(simp only[lenW]<;>omega)) only[wW,wV,simprocAttr]
      exact⟨.inr trivial,_,rfl,rfl⟩
  · rw [decide_eq_false fun h => hlt h.1]
    simp(disch:=first|omega|(simp only[lenW]<;>omega)) only[hlt,wW,wV,simprocAttr]
    exact⟨.inr trivial,_,rfl,rfl⟩
end Go.AM.SE
namespace Go.AM.SE
open Go.Proofs Go.AM.SD
abbrev edV (e:Ed):AV:= .agg [.int .i64 (e.1:Int),.int .i64 (e.2.1:Int),.int .i64 (e.2.2:Int)]
theorem Qot (x y:Ed):aEq (.flat true [.i,.i,.i]) true (edV x) (edV y)=some (.bool (!decide (x=y))):=by
 have:∀n m:Nat,decide ((n:Int)=(m:Int))=decide (n=m):=fun n m=>decide_eq_decide.2 (by omega)
 obtain⟨a,b,c⟩:=x
 obtain⟨a',b',c'⟩:=y
 simp only[aEq,eqCells,eqCell,if_true]
 simp only[Prod.mk.injEq,Bool.decide_and,this]
 cases decide (a=a')<;>cases decide (b=b')<;>cases decide (c=c')<;>rfl
theorem eq41 (a b : List Int) (hl : b.length <= 1000000) : PSpec Tryz.prog 31 [sli a, sli b] (.bool (decide (a = b))) := by
  refine PSpec.Qal 64 ok31 rfl (by(try simp only[noRefs,QaA,Qav,Qay,Qae,Qam,Qaf,Qao,QaD,Qan,noRef,Bool.and_self,Bool.and_true])<;>rfl) rfl ?_
  by_cases hab:a.length=b.length
  · simp (disch := first | omega | (simp only [lenW] <;> omega)) only [s31, hab, wW, wV, simprocAttr]
    refine QaK 100 (fun i:Nat=>[(0,sli a),(1,sli b),(12,.int .i64 b.length),(13,.int .i64 i)]) (fun _=>[]) (fun i=>i<=b.length/\∀j,j<i->a[j]?=b[j]?) (fun i=>b.length-i) 0 ⟨[],rfl,au0,au7,au8⟩ ⟨Nat.zero_le _,fun j hj=>absurd hj (Nat.not_lt_zero _)⟩ ?_
    rintro i ⟨hi,hb⟩
    by_cases hlt:i<b.length
    · obtain ⟨x, hx⟩ := Qag (l := a) (i := i) (by omega)
      obtain⟨y,hy⟩:=Qag (l:=b) (i:=i) (by omega)
      have hlt2:i<a.length:=by omega
      by_cases h0:x=y
      · have hq : True := by trivial
        simp(disch:=first|omega|(simp only[lenW]<;>omega)) only[hlt,hlt2,Qa7 hx,Qa7 hy,h0,hq,wW,wV,simprocAttr]
        refine⟨i+1,by omega,⟨by omega,fun j hj=>?_⟩,⟨[],rfl,au0,au7,au8⟩⟩
        by_cases e:j=i
        · subst e;rw[hx,hy,h0]
        · exact hb j (by omega)
      · have hq : True := by trivial
        simp(disch:=first|omega|(simp only[lenW]<;>omega)) only[hlt,hlt2,Qa7 hx,Qa7 hy,h0,hq,wW,wV,simprocAttr]
        refine⟨.inr trivial,_,rfl,?_⟩
        have:a≠b:=fun e=>by subst e;rw[hx]at hy;cases hy;exact h0 rfl
        simp[resOf,QaT,this]
    · have : a = b := List.ext_getElem? fun j => by
        by_cases hj:j<i
        · exact hb j hj
        · rw[List.getElem?_eq_none (by omega),List.getElem?_eq_none (by omega)]
      simp(disch:=first|omega|(simp only[lenW]<;>omega)) only[hlt,wW,wV,simprocAttr]
      exact⟨.inr trivial,_,rfl,by simp[resOf,QaT,this]⟩
  · simp (disch := first | omega | (simp only [lenW] <;> omega)) only [s31, hab, wW, wV, simprocAttr]
    have:a≠b:=fun e=>hab (by rw[e])
    exact⟨.inr trivial,_,rfl,by simp[resOf,QaT,this]⟩
theorem eq55 (a b : List Ed) (hl : b.length <= 10000000) : PSpec Tryz.prog 106 [egsN a, egsN b] (.bool (decide (a = b))) := by
  refine PSpec.Qal 64 ok106 rfl (by(try simp only[noRefs,QaA,Qav,Qay,Qae,Qam,Qaf,Qao,QaD,Qan,noRef,Bool.and_self,Bool.and_true])<;>rfl) rfl ?_
  by_cases hab:a.length=b.length
  · simp (disch := first | omega | (simp only [lenW] <;> omega)) only [s106, hab, wW, wV, simprocAttr]
    refine QaK 100 (fun i:Nat=>[(0,egsN a),(1,egsN b),(12,.int .i64 b.length),(13,.int .i64 i)]) (fun _=>[]) (fun i=>i<=b.length/\∀j,j<i->a[j]?=b[j]?) (fun i=>b.length-i) 0 ⟨[],rfl,au0,au7,au8⟩ ⟨Nat.zero_le _,fun j hj=>absurd hj (Nat.not_lt_zero _)⟩ ?_
    rintro i ⟨hi,hb⟩
    by_cases hlt:i<b.length
    · obtain ⟨x, hx⟩ := Qag (l := a) (i := i) (by omega)
      obtain⟨y,hy⟩:=Qag (l:=b) (i:=i) (by omega)
      have hlt2:i<a.length:=by omega
      by_cases h0:x=y
      · have hq : aEq (.flat true [.i, .i, .i]) true (edV y) (edV y) = some (.bool false) := by rw [Qot]; simp
        simp(disch:=first|omega|(simp only[lenW]<;>omega)) only[hlt,hlt2,QaP hx,QaP hy,h0,hq,wW,wV,simprocAttr]
        refine⟨i+1,by omega,⟨by omega,fun j hj=>?_⟩,⟨[],rfl,au0,au7,au8⟩⟩
        by_cases e:j=i
        · subst e;rw[hx,hy,h0]
        · exact hb j (by omega)
      · have hq : aEq (.flat true [.i, .i, .i]) true (edV x) (edV y) = some (.bool true) := by rw [Qot]; simp [h0]
        simp(disch:=first|omega|(simp only[lenW]<;>omega)) only[hlt,hlt2,QaP hx,QaP hy,h0,hq,wW,wV,simprocAttr]
        refine⟨.inr trivial,_,rfl,?_⟩
        have:a≠b:=fun e=>by subst e;rw[hx]at hy;cases hy;exact h0 rfl
        simp[resOf,QaT,this]
    · have : a = b := List.ext_getElem? fun j => by
        by_cases hj:j<i
        · exact hb j hj
        · rw[List.getElem?_eq_none (by omega),List.getElem?_eq_none (by omega)]
      simp(disch:=first|omega|(simp only[lenW]<;>omega)) only[hlt,wW,wV,simprocAttr]
      exact⟨.inr trivial,_,rfl,by simp[resOf,QaT,this]⟩
  · simp (disch := first | omega | (simp only [lenW] <;> omega)) only [s106, hab, wW, wV, simprocAttr]
    have:a≠b:=fun e=>hab (by rw[e])
    exact⟨.inr trivial,_,rfl,by simp[resOf,QaT,this]⟩
theorem Qrh {a b : List Nat} : decide (nz a = nz b) = decide (a = b) := by
  refine decide_eq_decide.2 ⟨fun h=>?_,fun h=>by rw[h]⟩
  have:∀a b:List Nat,nz a=nz b->a=b:=by
    intro a
    induction a with
    | nil => intro b h; cases b with
      |nil=>rfl
      |cons=>simp at h
    | cons x a ih => intro b h; cases b with
      |nil=>simp at h
      | cons y b =>
        simp only[nz,List.map_cons,List.cons.injEq]at h
        rw[ih b h.2,show x=y by omega]
  exact this a b h
theorem eq41N (a b:List Nat) (hl:b.length<=1000000):PSpec Tryz.prog 31 [sliN a,sliN b] (.bool (decide (a=b))):=by
 have:=eq41 (nz a) (nz b) (by simpa using hl)
 rw[Qb2,Qb2,Qrh]at this;exact this
def autB (x y:Aut):Bool:=decide (x.n=y.n)&&(decide (x.al=y.al)&&(decide (x.ms=y.ms)&&decide (x.es=y.es)))
structure AOk (r:Aut):Prop where
 al:r.al.length<=1000000
 ms:r.ms.length<=1000000
 es:r.es.length<=10000000
theorem eq43 (x y:Aut) (hx:AOk x) (hy:AOk y):PSpec Tryz.prog 33 [aV x,aV y] (.bool (autB x y)):=by
 refine PSpec.Qal 64 ok33 rfl (by(try simp only[noRefs,QaA,Qav,Qay,Qae,Qam,Qaf,Qao,QaD,Qan,noRef,Bool.and_self,Bool.and_true])<;>rfl) rfl ?_
 have c1:=eq41N x.al y.al hy.al
 have c2:=eq41N x.ms y.ms hy.ms
 have c3:=eq55 x.es y.es hy.es
 unfold autB
 by_cases h1:x.n=y.n
 ·rw [decide_eq_true h1, Bool.true_and]
  generalize decide (x.al=y.al)=b1 at*
  generalize decide (x.ms=y.ms)=b2 at*
  generalize decide (x.es=y.es)=b3 at*
  simp(disch:=first|omega|(simp only[lenW]<;>omega)) only[s33,h1,wW,wV,simprocAttr]
  refine cp c1 ?_
  cases b1 with
  |false=>
   simp(disch:=first|omega|(simp only[lenW]<;>omega)) only[wW,wV,simprocAttr]
   exact⟨.inr trivial,_,rfl,rfl⟩
  | true =>
   simp(disch:=first|omega|(simp only[lenW]<;>omega)) only[wW,wV,simprocAttr]
   refine cp c2 ?_
   cases b2 with
   |false=>
    simp(disch:=first|omega|(simp only[lenW]<;>omega)) only[wW,wV,simprocAttr]
    exact⟨.inr trivial,_,rfl,rfl⟩
   |true=>
    simp(disch:=first|omega|(simp only[lenW]<;>omega)) only[wW,wV,simprocAttr]
    refine cp c3 ?_
    simp(disch:=first|omega|(simp only[lenW]<;>omega)) only[wW,wV,simprocAttr]
    exact⟨.inr trivial,_,rfl,rfl⟩
 ·rw [decide_eq_false h1, Bool.false_and]
  simp(disch:=first|omega|(simp only[lenW]<;>omega)) only[s33,h1,wW,wV,simprocAttr]
  exact⟨.inr trivial,_,rfl,rfl⟩
theorem QfH (x:Aut):autB x x=true:=by simp[autB]
end Go.AM.SE
namespace Go.AM.SE
open Go.Proofs Go.AM.SD
abbrev froms (es:List Ed):List Nat:=es.map (·.1)
theorem QfI:∀(l:List Ed) (i:Nat),(l.flatMap edC).drop (i*3)=(l.drop i).flatMap edC
 |l,0=>by simp
 |[],i+1=>by simp
 |e::l,i+1=>by
  rw[List.flatMap_cons,Nat.succ_mul,List.drop_succ_cons]
  show List.drop (i*3+3) (_::_::_::l.flatMap edC)=_
  rw[List.drop_succ_cons,List.drop_succ_cons,List.drop_succ_cons]
  exact QfI l i
theorem QfJ:∀(l:List Ed) (i:Nat),(l.flatMap edC).take (i*3)=(l.take i).flatMap edC
 |l,0=>by simp
 |[],i+1=>by simp
 |e::l,i+1=>by
  rw[List.flatMap_cons,Nat.succ_mul,List.take_succ_cons,List.flatMap_cons]
  show List.take (i*3+3) (_::_::_::l.flatMap edC)=_
  rw[List.take_succ_cons,List.take_succ_cons,List.take_succ_cons,QfJ l i];rfl
theorem Qmy {x t:Nat} {l:List Nat}:lbN (x::l) t=lbN l t+if x<t then 1 else 0:=by
 unfold lbN;rw[List.countP_cons];simp
theorem Qid {l:List Nat} {t:Nat} (h:∀x∈l,t<=x):lbN l t=0:=by
 unfold lbN
 rw[List.countP_eq_zero]
 intro x hx;have:=h x hx;simp;omega
theorem QkP:∀{es:List Ed},es.Pairwise (fun a b=>a.1<=b.1)->∀v:Nat,(es.drop (lbN (froms es) v)).take (lbN (froms es) (v+1)-lbN (froms es) v)=sOut es (fun _=>true) v
 |[],_,_=>by simp[sOut]
 | e :: es, h, v => by
  rw[List.pairwise_cons]at h
  have ih:=QkP h.2 v
  have ef:froms (e::es)=e.1::froms es:=rfl
  have so:sOut (e::es) (fun _=>true) v=if e.1=v then e::sOut es (fun _=>true) v else sOut es (fun _=>true) v:=by
   unfold sOut;rw[List.filter_cons];simp
  rw[ef,Qmy,Qmy,so]
  rcases Nat.lt_trichotomy e.1 v with h1|h1|h1
  ·rw[if_pos h1,if_pos (by omega),if_neg (by omega),List.drop_succ_cons,Nat.add_sub_add_right,ih]
  ·have hz : lbN (froms es) v = 0 := Qid fun x hx => by
    obtain⟨y,hy,rfl⟩:=List.mem_map.1 hx
    have:=h.1 y hy;omega
   rw[hz]at ih⊢
   have i1:¬e.1<v:=by omega
   have i2:e.1<v+1:=by omega
   simp only[if_neg i1,if_pos i2,if_pos h1,Nat.add_zero,List.drop_zero,Nat.sub_zero,List.take_succ_cons]
   rw[List.drop_zero,Nat.sub_zero]at ih
   rw[ih]
  ·have hz : lbN (froms es) v = 0 := Qid fun x hx => by
    obtain⟨y,hy,rfl⟩:=List.mem_map.1 hx
    have:=h.1 y hy;omega
   have hz2:lbN (froms es) (v+1)=0:=Qid fun x hx=>by
    obtain⟨y,hy,rfl⟩:=List.mem_map.1 hx
    have:=h.1 y hy;omega
   rw[hz,hz2]at ih⊢
   rw[if_neg (by omega),if_neg (by omega),if_neg (by omega)]
   simpa using ih
theorem sub229 (e:Ed) (t:Nat) (he:e.1<=1000000) (ht:t<=1000000):PSpec Tryz.prog 229 [edV e,.int .i64 (t:Int)] (.int .i64 ((e.1:Int)-(t:Int))):=by
 refine PSpec.Qal 64 ok229 rfl (by(try simp only[noRefs,QaA,Qav,Qay,Qae,Qam,Qaf,Qao,QaD,Qan,noRef,Bool.and_self,Bool.and_true])<;>rfl) rfl ?_
 simp(disch:=first|omega|(simp only[lenW]<;>omega)) only[s229,wW,wV,simprocAttr]
 exact⟨.inr trivial,_,rfl,rfl⟩
theorem sub230 (e:Ed) (t:Nat) (he:e.1<=1000000) (ht:t<=1000000):PSpec Tryz.prog 230 [edV e,.int .i64 (t:Int)] (.int .i64 ((e.1:Int)-(t:Int))):=by
 refine PSpec.Qal 64 ok230 rfl (by(try simp only[noRefs,QaA,Qav,Qay,Qae,Qam,Qaf,Qao,QaD,Qan,noRef,Bool.and_self,Bool.and_true])<;>rfl) rfl ?_
 simp(disch:=first|omega|(simp only[lenW]<;>omega)) only[s230,wW,wV,simprocAttr]
 exact⟨.inr trivial,_,rfl,rfl⟩
theorem find67 (es : List Ed) (t : Nat) (hs : (froms es).Pairwise (· <= ·)) (hb : ∀ e ∈ es, e.1 <= 1000000) (ht : t <= 1000000) (hl : es.length <= 1000000) : PSpec Tryz.prog 228 [egsN es, .int .i64 (t : Int), .fn 229 [] []] (.tup [.int .i64 (lbN (froms es) t : Int), .bool ((froms es).contains t)]) := by
  refine PSpec.Qal 64 ok228 rfl (by(try simp only[noRefs,QaA,Qav,Qay,Qae,Qam,Qaf,Qao,QaD,Qan,noRef,Bool.and_self,Bool.and_true])<;>rfl) rfl ?_
  have hfl:(froms es).length=es.length:=by simp
  simp(disch:=first|omega|(simp only[lenW]<;>omega)) only[s228,wW,wV,simprocAttr]
  refine Qaj 100 (fun p:Nat×Nat=>[(0,egsN es),(1,.int .i64 (t:Int)),(2,.fn 229 [] []),(8,.int .i64 es.length),(9,.int .i64 p.1),(10,.int .i64 p.2)]) (fun _=>[])
    (fun p=>p.1<=p.2/\p.2<=es.length/\(∀q,q<p.1->(froms es).getD q 0<t)/\∀q,p.2<=q->q<es.length->¬(froms es).getD q 0<t) (fun p=>p.2-p.1) (0,es.length) 0 140
    (fun i:Nat=>[(0,egsN es),(1,.int .i64 (t:Int)),(2,.fn 229 [] []),(8,.int .i64 es.length),(9,.int .i64 i)]) (fun _=>[])
    (fun i=>i<=es.length/\(∀q,q<i->(froms es).getD q 0<t)/\∀q,i<=q->q<es.length->¬(froms es).getD q 0<t) ?_ ⟨Nat.zero_le _,Nat.le_refl _,fun q hq=>absurd hq (Nat.not_lt_zero _),fun q h1 h2=>by omega⟩ ?_ ?_
  · exact⟨[],rfl,au0,au7,au8⟩
  · rintro ⟨i, j⟩ ⟨hij, hj, h1, h2⟩
    dsimp only at hij hj h1 h2⊢
    by_cases hlt:i<j
    · obtain ⟨k, hk, hk1, hk2⟩ : ∃ k : Nat, aBin .shr (.int .u64 ((i : Int) + (j : Int))) (.int .u64 1) = some (.int .u64 (k : Int)) /\ i <= k /\ k < j := ⟨(i + j) / 2, shr1, by omega, by omega⟩
      have hkl:k<es.length:=by omega
      obtain⟨e,he⟩:=Qag hkl
      have hke:(froms es).getD k 0=e.1:=by rw[List.getD_eq_getElem?_getD,List.getElem?_map,he];rfl
      have heb:=hb e (List.mem_of_getElem? he)
      simp(disch:=first|omega|(simp only[lenW]<;>omega)) only[hlt,hk,hkl,QaP he,wW,wV,simprocAttr]
      refine cp (sub229 e t heb ht) ?_
      by_cases hc:e.1<t
      · have hc' : (e.1 : Int) - (t : Int) < 0 := by omega
        simp(disch:=first|omega|(simp only[lenW]<;>omega)) only[hc',wW,wV,simprocAttr]
        refine⟨(k+1,j),by dsimp only;omega,⟨by dsimp only;omega,hj,fun q hq=>?_,h2⟩,⟨[],rfl,au0,au7,au8⟩⟩
        have:=Qc9 hs (p:=q) (q:=k) (by dsimp only at hq;omega) (by omega)
        omega
      · have hc' : ¬ (e.1 : Int) - (t : Int) < 0 := by omega
        simp(disch:=first|omega|(simp only[lenW]<;>omega)) only[hc',wW,wV,simprocAttr]
        refine⟨(i,k),by dsimp only;omega,⟨hk1,by dsimp only;omega,h1,fun q hq hql=>?_⟩,⟨[],rfl,au0,au7,au8⟩⟩
        have:=Qc9 hs (p:=k) (q:=q) hq (by omega)
        omega
    · have e : i = j := by omega
      subst e
      simp(disch:=first|omega|(simp only[lenW]<;>omega)) only[hlt,wW,wV,simprocAttr]
      exact⟨i,⟨hj,h1,h2⟩,⟨[],rfl,au0,au7,au8⟩⟩
  rintro i ⟨hi,h1,h2⟩
  rw[lb_eq (by omega) h1 fun q a b=>h2 q a (by omega),QkO hs h1 fun q a b=>h2 q a (by omega)]
  by_cases hlt:i<es.length
  · obtain ⟨e, he⟩ := Qag hlt
    have hke:(froms es).getD i 0=e.1:=by rw[List.getD_eq_getElem?_getD,List.getElem?_map,he];rfl
    have heb:=hb e (List.mem_of_getElem? he)
    rw[hke]
    by_cases hc:e.1=t
    · rw [decide_eq_true ⟨by omega, hc⟩]
      have hc':(e.1:Int)-(t:Int)=0:=by omega
      simp(disch:=first|omega|(simp only[lenW]<;>omega)) only[hlt,QaP he,wW,wV,simprocAttr]
      refine cp (sub229 e t heb ht) ?_
      simp(disch:=first|omega|(simp only[lenW]<;>omega)) only[hc',wW,wV,simprocAttr]
      exact⟨.inr trivial,_,rfl,rfl⟩
    · rw [decide_eq_false fun h => hc h.2]
      have hc':¬(e.1:Int)-(t:Int)=0:=by omega
      simp(disch:=first|omega|(simp only[lenW]<;>omega)) only[hlt,QaP he,wW,wV,simprocAttr]
      refine cp (sub229 e t heb ht) ?_
      simp(disch:=first|omega|(simp only[lenW]<;>omega)) only[hc',wW,wV,simprocAttr]
      exact⟨.inr trivial,_,rfl,rfl⟩
  · rw [decide_eq_false fun h => hlt (by omega)]
    simp(disch:=first|omega|(simp only[lenW]<;>omega)) only[hlt,wW,wV,simprocAttr]
    exact⟨.inr trivial,_,rfl,rfl⟩
theorem find67b (es : List Ed) (t : Nat) (hs : (froms es).Pairwise (· <= ·)) (hb : ∀ e ∈ es, e.1 <= 1000000) (ht : t <= 1000000) (hl : es.length <= 1000000) : PSpec Tryz.prog 228 [egsN es, .int .i64 (t : Int), .fn 230 [] []] (.tup [.int .i64 (lbN (froms es) t : Int), .bool ((froms es).contains t)]) := by
  refine PSpec.Qal 64 ok228 rfl (by(try simp only[noRefs,QaA,Qav,Qay,Qae,Qam,Qaf,Qao,QaD,Qan,noRef,Bool.and_self,Bool.and_true])<;>rfl) rfl ?_
  have hfl:(froms es).length=es.length:=by simp
  simp(disch:=first|omega|(simp only[lenW]<;>omega)) only[s228,wW,wV,simprocAttr]
  refine Qaj 100 (fun p:Nat×Nat=>[(0,egsN es),(1,.int .i64 (t:Int)),(2,.fn 230 [] []),(8,.int .i64 es.length),(9,.int .i64 p.1),(10,.int .i64 p.2)]) (fun _=>[])
    (fun p=>p.1<=p.2/\p.2<=es.length/\(∀q,q<p.1->(froms es).getD q 0<t)/\∀q,p.2<=q->q<es.length->¬(froms es).getD q 0<t) (fun p=>p.2-p.1) (0,es.length) 0 140
    (fun i:Nat=>[(0,egsN es),(1,.int .i64 (t:Int)),(2,.fn 230 [] []),(8,.int .i64 es.length),(9,.int .i64 i)]) (fun _=>[])
    (fun i=>i<=es.length/\(∀q,q<i->(froms es).getD q 0<t)/\∀q,i<=q->q<es.length->¬(froms es).getD q 0<t) ?_ ⟨Nat.zero_le _,Nat.le_refl _,fun q hq=>absurd hq (Nat.not_lt_zero _),fun q h1 h2=>by omega⟩ ?_ ?_
  · exact⟨[],rfl,au0,au7,au8⟩
  · rintro ⟨i, j⟩ ⟨hij, hj, h1, h2⟩
    dsimp only at hij hj h1 h2⊢
    by_cases hlt:i<j
    · obtain ⟨k, hk, hk1, hk2⟩ : ∃ k : Nat, aBin .shr (.int .u64 ((i : Int) + (j : Int))) (.int .u64 1) = some (.int .u64 (k : Int)) /\ i <= k /\ k < j := ⟨(i + j) / 2, shr1, by omega, by omega⟩
      have hkl:k<es.length:=by omega
      obtain⟨e,he⟩:=Qag hkl
      have hke:(froms es).getD k 0=e.1:=by rw[List.getD_eq_getElem?_getD,List.getElem?_map,he];rfl
      have heb:=hb e (List.mem_of_getElem? he)
      simp(disch:=first|omega|(simp only[lenW]<;>omega)) only[hlt,hk,hkl,QaP he,wW,wV,simprocAttr]
      refine cp (sub230 e t heb ht) ?_
      by_cases hc:e.1<t
      · have hc' : (e.1 : Int) - (t : Int) < 0 := by omega
        simp(disch:=first|omega|(simp only[lenW]<;>omega)) only[hc',wW,wV,simprocAttr]
        refine⟨(k+1,j),by dsimp only;omega,⟨by dsimp only;omega,hj,fun q hq=>?_,h2⟩,⟨[],rfl,au0,au7,au8⟩⟩
        have:=Qc9 hs (p:=q) (q:=k) (by dsimp only at hq;omega) (by omega)
        omega
      · have hc' : ¬ (e.1 : Int) - (t : Int) < 0 := by omega
        simp(disch:=first|omega|(simp only[lenW]<;>omega)) only[hc',wW,wV,simprocAttr]
        refine⟨(i,k),by dsimp only;omega,⟨hk1,by dsimp only;omega,h1,fun q hq hql=>?_⟩,⟨[],rfl,au0,au7,au8⟩⟩
        have:=Qc9 hs (p:=k) (q:=q) hq (by omega)
        omega
    · have e : i = j := by omega
      subst e
      simp(disch:=first|omega|(simp only[lenW]<;>omega)) only[hlt,wW,wV,simprocAttr]
      exact⟨i,⟨hj,h1,h2⟩,⟨[],rfl,au0,au7,au8⟩⟩
  rintro i ⟨hi,h1,h2⟩
  rw[lb_eq (by omega) h1 fun q a b=>h2 q a (by omega),QkO hs h1 fun q a b=>h2 q a (by omega)]
  by_cases hlt:i<es.length
  · obtain ⟨e, he⟩ := Qag hlt
    have hke:(froms es).getD i 0=e.1:=by rw[List.getD_eq_getElem?_getD,List.getElem?_map,he];rfl
    have heb:=hb e (List.mem_of_getElem? he)
    rw[hke]
    by_cases hc:e.1=t
    · rw [decide_eq_true ⟨by omega, hc⟩]
      have hc':(e.1:Int)-(t:Int)=0:=by omega
      simp(disch:=first|omega|(simp only[lenW]<;>omega)) only[hlt,QaP he,wW,wV,simprocAttr]
      refine cp (sub230 e t heb ht) ?_
      simp(disch:=first|omega|(simp only[lenW]<;>omega)) only[hc',wW,wV,simprocAttr]
      exact⟨.inr trivial,_,rfl,rfl⟩
    · rw [decide_eq_false fun h => hc h.2]
      have hc':¬(e.1:Int)-(t:Int)=0:=by omega
      simp(disch:=first|omega|(simp only[lenW]<;>omega)) only[hlt,QaP he,wW,wV,simprocAttr]
      refine cp (sub230 e t heb ht) ?_
      simp(disch:=first|omega|(simp only[lenW]<;>omega)) only[hc',wW,wV,simprocAttr]
      exact⟨.inr trivial,_,rfl,rfl⟩
  · rw [decide_eq_false fun h => hlt (by omega)]
    simp(disch:=first|omega|(simp only[lenW]<;>omega)) only[hlt,wW,wV,simprocAttr]
    exact⟨.inr trivial,_,rfl,rfl⟩
theorem out58 (a:Aut) (v:Nat) (h:WfA a) (hel:a.es.length<=1000000) (hv:v<=1000):PSpec Tryz.prog 199 [aV a,.int .i64 (v:Int)] (egsN (sOut a.es (fun _=>true) v)):=by
 have hs:(froms a.es).Pairwise (· <= ·):=by rw[List.pairwise_map];exact h.srt
 have hb:∀e∈a.es,e.1<=1000000:=fun e he=>by have:=(h.esn e he).1;have:=h.n5;omega
 have f1:=find67 a.es v hs hb (by omega) hel
 have f2:=find67b a.es (v+1) hs hb (by omega) hel
 have e1:((v+1:Nat):Int)=(v:Int)+1:=by omega
 rw[e1]at f2
 have ho:=QkP h.srt v
 have l1:=lb_le (l:=froms a.es) (t:=v+1)
 rw[List.length_map]at l1
 have hm:lbN (froms a.es) v<=lbN (froms a.es) (v+1):=List.countP_mono_left fun x _ hx=>by simp at hx⊢;omega
 generalize (froms a.es).contains v=b1 at*
 generalize (froms a.es).contains (v+1)=b2 at*
 generalize lbN (froms a.es) v=p at*
 generalize lbN (froms a.es) (v+1)=q at*
 have hlen:q-p=(sOut a.es (fun _=>true) v).length:=by rw[<-ho,List.length_take,List.length_drop];omega
 have hpq:(p:Int)<=(q:Int):=by omega
 have hql:(q:Int)<=(a.es.length:Int):=by omega
 refine PSpec.of_rn 64 ok199 rfl (by(try simp only[noRefs,QaA,Qav,Qay,Qae,Qam,Qaf,Qao,QaD,Qan,noRef,Bool.and_self,Bool.and_true])<;>rfl) (Qak _) ?_
 simp(disch:=first|omega|(simp only[lenW]<;>omega)) only[s199,wW,wV,simprocAttr]
 refine cp f1 ?_
 simp(disch:=first|omega|(simp only[lenW]<;>omega)) only[wW,wV,simprocAttr]
 refine cp f2 ?_
 simp(disch:=first|omega|(simp only[lenW]<;>omega)) only[hpq,hql,wW,wV,simprocAttr]
 refine⟨.inr trivial,_,rfl,?_⟩
 rw[QfI,QfJ,ho,hlen]
 exact Rn.same (Qak _)
end Go.AM.SE
namespace Go.AM.SE
open Go.Proofs Go.AM.SD
abbrev rsA (a:Aut):List AV:=[sliN a.al,.int .i64 (a.n:Int),sliN a.ms,egsN a.es]
abbrev rsN:List AV:=[.nilsl,.int .i64 0,.nilsl,.nilsl]
end Go.AM.SE
namespace Go.AM.SE
open Go.Proofs Go.AM.SD
def pl (n:Nat) (o:List Nat):List Int:=(List.range n).map fun x=>if o.contains x then((SD.idx o x:Nat):Int)else-1
theorem QhO {n:Nat} {o:List Nat}:(pl n o).length=n:=by simp[pl]
theorem QhP {n:Nat} {o:List Nat} {x:Nat} (hx:x<n):(pl n o).getD x 0=if o.contains x then((SD.idx o x:Nat):Int)else-1:=by
 unfold pl;rw[List.getD_eq_getElem?_getD,List.getElem?_map,List.getElem?_range hx];rfl
theorem Qou {n:Nat} {o:List Nat} {x:Nat} (hx:x∉o):(pl n o).set x (o.length:Int)=pl n (o++[x]):=by
 refine List.ext_getElem (by simp[pl]) fun j h1 h2=>?_
 have hj:j<n:=by simpa[pl]using h2
 rw[List.getElem_set]
 simp only[pl,List.getElem_map,List.getElem_range]
 by_cases e:x=j
 ·subst e
  rw[if_pos rfl,if_pos (by simp),SD.Qeu hx]
 ·rw [if_neg e]
  by_cases hm:j∈o
  ·rw[if_pos (by simpa using hm),if_pos (by simp[hm]),SD.QdB hm]
  ·have e2 : ¬ j = x := fun h => e h.symm
   rw[if_neg (by simpa using hm),if_neg (by simp[hm,e2])]
theorem QpF {n:Nat} (h0:0<n):(List.replicate n (-1:Int)).set 0 0=pl n [0]:=by
 refine List.ext_getElem (by simp[pl]) fun j h1 h2=>?_
 have hj:j<n:=by simpa[pl]using h2
 rw[List.getElem_set]
 simp only[pl,List.getElem_map,List.getElem_range,List.getElem_replicate]
 by_cases e:0=j
 ·subst e;rw[if_pos rfl,if_pos (by simp)];rfl
 ·have e2 : ¬ j = 0 := fun h => e h.symm
  rw[if_neg e,if_neg (by simp[e2])]
abbrev cnB (a:Aut) (m e:Nat):List AV:=[.sl 83 0 0 a.al.length 1,.int .i64 0,.sl 77 0 0 m 1,.sl 76 0 0 e 3]
abbrev tru:Nat->Bool:=fun _=>true
theorem canonical44 (a : Aut) (h : WfA a) (hel : a.es.length <= 1000000) : PSpec Tryz.prog 150 [aV a] (aV (restr a tru)) := by
  have hn5:=h.n5
  have hal:a.al.length<=5:=QaX 5 a.al (by rw[List.nodup_iff_pairwise_ne];exact h.al.imp fun h=>by omega) h.al5
  have hml:a.ms.length<=a.n:=QaX a.n a.ms h.nd h.msn
  have hmsP:a.ms.Pairwise (· <= ·):=h.ms.imp fun h=>by omega
  have hn':(a.n:Int)<=140737488355328:=by omega
  have hn8:(8:Int)*(a.n:Int)<=140737488355328:=by omega
  refine PSpec.of_rn 40 ok150 rfl (by(try simp only[noRefs,QaA,Qav,Qay,Qae,Qam,Qaf,Qao,QaD,Qan,noRef,Bool.and_self,Bool.and_true])<;>rfl) (Qc7 _) ?_
  simp(disch:=first|omega|(simp only[lenW]<;>omega)) only[s150,wW,wV,simprocAttr]
  refine ch (HSpec.of_O (b:=83) (by(try simp only[noRefs,QaA,Qav,Qay,Qae,Qam,Qaf,Qao,QaD,Qan,noRef,Bool.and_self,Bool.and_true])<;>rfl) (clone56 a.al (by omega)) (by repeat (first|exact Fresh.e|exact Fresh.le (by assumption) (by omega)|refine Fresh.set ?_ (by omega) (by omega))) rfl) ?_
  by_cases h0:a.n=0
  · have h0' : (a.n : Int) = 0 := by omega
    have e:sAll a tru=([],[]):=by unfold sAll;rw[h0];rfl
    have hr:restr a tru=⟨a.al,0,[],[]⟩:=by unfold restr;rw[e];rfl
    simp(disch:=first|omega|(simp only[lenW]<;>omega)) only[h0',wW,wV,simprocAttr]
    refine⟨.inr trivial,_,rfl,?_⟩
    rw[hr]
    exact Rn.agg (RnL.cons (Rn.fz0 (g:=0) rfl (by simp[ints]) (RnL.same (Qae _))) (RnL.cons (Rn.same rfl) (RnL.cons Rn.nilK (RnL.cons Rn.nilK RnL.nil))))
  have h0':¬(a.n:Int)=0:=by omega
  have h0p:0<a.n:=by omega
  have h0n:(0:Int)<(a.n:Int):=by omega
  simp(disch:=first|omega|(simp only[lenW]<;>omega)) only[h0',hn',hn8,Qpz,wW,wV,simprocAttr]
  refine Qaj 100 (fun i:Nat=>[(1,.ptr 50 0 0),(2,.ptr 60 0 0),(3,.ptr 69 0 0),(4,.sl 78 0 0 a.n 1),(24,.int .i64 a.n),(25,.int .i64 i)])
    (fun i=>[(50,.cells 0 (rsA a)),(60,.cells 0 rsN),(69,.cells 0 [.sl 83 0 0 a.al.length 1,.int .i64 0,.nilsl,.nilsl]),(83,.cells 0 (ints (nz a.al))),(78,.cells 0 (ints (List.replicate i (-1)++List.replicate (a.n-i) 0)))])
    (fun i=>i<=a.n) (fun i=>a.n-i) 0 0 120
    (fun _:Unit=>[(1,.ptr 50 0 0),(2,.ptr 60 0 0),(3,.ptr 69 0 0),(4,.sl 78 0 0 a.n 1)])
    (fun _=>[(50,.cells 0 (rsA a)),(60,.cells 0 rsN),(69,.cells 0 [.sl 83 0 0 a.al.length 1,.int .i64 0,.nilsl,.nilsl]),(83,.cells 0 (ints (nz a.al))),(78,.cells 0 (ints (List.replicate a.n (-1))))]) (fun _=>True) ?_ (Nat.zero_le _) ?_ ?_
  · exact⟨[(50,.blk 40 0),(60,.blk 41 0),(69,.blk 46 0),(83,.blk 83 0),(78,.blk 53 0)],rfl,au0,au7,au8⟩
  · rintro i hi
    by_cases hlt:i<a.n
    · have h1 : i + 1 <= i + (a.n - i) := by omega
      simp(disch:=first|omega|(simp only[lenW]<;>omega)) only[hlt,h1,QeV,Qom hlt,wW,wV,simprocAttr]
      exact⟨i+1,by omega,by omega,⟨[(50,.blk 50 0),(60,.blk 60 0),(69,.blk 69 0),(83,.blk 83 0),(78,.blk 78 0)],rfl,au0,au7,au8⟩⟩
    · have e : i = a.n := by omega
      subst e
      have e2:List.replicate a.n (-1:Int)++List.replicate (a.n-a.n) 0=List.replicate a.n (-1):=by simp
      simp(disch:=first|omega|(simp only[lenW]<;>omega)) only[hlt,wW,wV,simprocAttr]
      refine⟨(),?_⟩
      rw[e2]
      exact⟨[(50,.blk 50 0),(60,.blk 60 0),(69,.blk 69 0),(83,.blk 83 0),(78,.blk 78 0)],rfl,au0,au7,au8⟩
  rintro _ _
  have hp1:1<=a.n:=h0p
  have hps:=QpF h0p
  simp(disch:=first|omega|(simp only[lenW]<;>omega)) only[h0n,hp1,QeV,hps,wW,wV,simprocAttr]
  have hsi:SI a.n a.es tru 0 (([0],[]):OE):=⟨⟨by simp,fun x hx=>by simp at hx;omega⟩,fun _ _=>rfl,Nat.zero_le _,fun j v hj=>by omega,by simp⟩
  have hq0:sQ a.es tru (a.n+1) 0 ([0],[])=sAll a tru:=by
    unfold sAll;rw[if_pos (by simp[h0p])]
  refine Qaj 180 (fun t:Nat×OE=>[(1,.ptr 50 0 0),(2,.ptr 60 0 0),(3,.ptr 69 0 0),(4,.sl 78 0 0 a.n 1),(6,.sl 75 0 0 t.2.1.length 1),(7,.int .i64 t.1)])
    (fun t=>[(50,.cells 0 (rsA a)),(60,.cells 0 rsN),(69,.cells 0 (cnB a (mks a t.1 t.2.1).length t.2.2.length)),(83,.cells 0 (ints (nz a.al))),(78,.cells 0 (ints (pl a.n t.2.1))),(75,.cells 0 (ints (nz t.2.1))),(76,.cells 0 (t.2.2.flatMap edC)),(77,.cells 0 (ints (nz (mks a t.1 t.2.1))))])
    (fun t=>t.1<=a.n/\SI a.n a.es tru t.1 t.2/\t.2.2.length<=t.1*1000000/\sQ a.es tru (a.n+1-t.1) t.1 t.2=sAll a tru) (fun t=>a.n+1-t.1) (0,([0],[])) 2 260
    (fun _:Unit=>[(2,.ptr 60 0 0),(3,.ptr 69 0 0),(6,.sl 75 0 0 (sAll a tru).1.length 1)])
    (fun _=>[(60,.cells 0 rsN),(69,.cells 0 (cnB a (restr a tru).ms.length (restr a tru).es.length)),(83,.cells 0 (ints (nz a.al))),(75,.cells 0 (ints (nz (sAll a tru).1))),(76,.cells 0 ((restr a tru).es.flatMap edC)),(77,.cells 0 (ints (nz (restr a tru).ms)))]) (fun _=>True) ?_ ⟨Nat.zero_le _,hsi,Nat.zero_le _,hq0⟩ ?_ ?_
  · dsimp only
    have hms0:mks a 0 [0]=[]:=rfl
    rw[hms0]
    exact⟨[(50,.blk 50 0),(60,.blk 60 0),(69,.blk 69 0),(83,.blk 83 0),(78,.blk 78 0),(75,.blk 123 0),(76,.nil),(77,.nil)],rfl,au0,au7,au8⟩
  · rintro ⟨i, s⟩ ⟨hi, hsi, hsl, hq⟩
    dsimp only at hi hsi hsl hq⊢
    have hfl:=hsi.fi.len
    have hile:=hsi.le
    by_cases hlt:i<s.1.length
    · obtain ⟨v, hv⟩ := Qag hlt
      have hvn:=hsi.fi.lt v (List.mem_of_getElem? hv)
      have hin':i<a.n:=by omega
      have hsi':=hsi.step h.esn hv
      have hq':sQ a.es tru (a.n+1-(i+1)) (i+1) (sRow a.es tru i v s)=sAll a tru:=by
        rw[<-hq,show a.n+1-i=(a.n+1-(i+1))+1 by omega]
        simp only[sQ,hv]
      have hrow:=fun j=>Qd0 (n:=a.n) (left:=tru) i ((sOut a.es tru v).take j) s (fun e he=>⟨(h.esn e (Qa5.1 (List.mem_of_mem_take he)).1).2,rfl⟩) hsi.fi hsi.lft
      have hol:=Qg1 a.es tru v
      have hmn:=QkM (a:=a) hv
      have hmsl:=@Qmw a i s.1
      have hmapp:mks a (i+1) (sRow a.es tru i v s).1=mks a (i+1) s.1:=by
        obtain⟨_,_,⟨t,ht⟩,_⟩:=Qd0 (n:=a.n) (left:=tru) i (sOut a.es tru v) s (fun e he=>⟨(h.esn e (Qa5.1 he).1).2,rfl⟩) hsi.fi hsi.lft
        have ht:(sRow a.es tru i v s).1=s.1++t:=ht
        rw[ht,Qqn (by omega)]
      have hc:=find57 a.ms v hmsP (by omega)
      have ho:=out58 a v h hel (by omega)
      generalize hM0:mks a i s.1=M0 at*
      generalize hM:mks a (i+1) s.1=M at*
      simp(disch:=first|omega|(simp only[lenW]<;>omega)) only[hlt,Qd2 (nz_at hv),wW,wV,simprocAttr]
      refine cp hc ?_
      by_cases hmv:a.ms.contains v=true
      · rw [if_pos hmv] at hmn
        rw[hmv]
        simp(disch:=first|omega|(simp only[lenW]<;>omega)) only[hlt,Qd2 (nz_at hv),wW,wV,simprocAttr]
        refine cp ho ?_
        simp(disch:=first|omega|(simp only[lenW]<;>omega)) only[wW,wV,simprocAttr]
        refine Qaj 300 (fun j:Nat=>[(1,.ptr 50 0 0),(2,.ptr 60 0 0),(3,.ptr 69 0 0),(4,.sl 78 0 0 a.n 1),(6,.sl 75 0 0 (((sOut a.es tru v).take j).foldl (sEd i) s).1.length 1),(7,.int .i64 i),(63,egsN (sOut a.es tru v)),(64,.int .i64 (sOut a.es tru v).length),(65,.int .i64 j)])
          (fun j=>[(50,.cells 0 (rsA a)),(60,.cells 0 rsN),(69,.cells 0 (cnB a M.length (((sOut a.es tru v).take j).foldl (sEd i) s).2.length)),(83,.cells 0 (ints (nz a.al))),(78,.cells 0 (ints (pl a.n (((sOut a.es tru v).take j).foldl (sEd i) s).1))),(75,.cells 0 (ints (nz (((sOut a.es tru v).take j).foldl (sEd i) s).1))),(76,.cells 0 ((((sOut a.es tru v).take j).foldl (sEd i) s).2.flatMap edC)),(77,.cells 0 (ints (nz M)))])
          (fun j=>j<=(sOut a.es tru v).length) (fun j=>(sOut a.es tru v).length-j) 0 4 400
          (fun _:Unit=>[(1,.ptr 50 0 0),(2,.ptr 60 0 0),(3,.ptr 69 0 0),(4,.sl 78 0 0 a.n 1),(6,.sl 75 0 0 (sRow a.es tru i v s).1.length 1),(7,.int .i64 i)])
          (fun _=>[(50,.cells 0 (rsA a)),(60,.cells 0 rsN),(69,.cells 0 (cnB a M.length (sRow a.es tru i v s).2.length)),(83,.cells 0 (ints (nz a.al))),(78,.cells 0 (ints (pl a.n (sRow a.es tru i v s).1))),(75,.cells 0 (ints (nz (sRow a.es tru i v s).1))),(76,.cells 0 ((sRow a.es tru i v s).2.flatMap edC)),(77,.cells 0 (ints (nz M)))]) (fun _=>True) ?_ (Nat.zero_le _) ?_ ?_
        · rw [hmn, List.length_append, QaI, QaB]
          exact⟨[(50,.blk 50 0),(60,.blk 60 0),(69,.blk 69 0),(83,.blk 83 0),(78,.blk 78 0),(75,.blk 75 0),(76,.blk 76 0),(77,.blk 77 1)],rfl,au0,au7,au8⟩
        · rintro j hj
          by_cases hjl:j<(sOut a.es tru v).length
          · obtain ⟨e, he⟩ := Qag hjl
            have hem:=Qa5.1 (List.mem_of_getElem? he)
            have hto:=(h.esn e hem.1).2
            obtain⟨k1,_,_,_,_⟩:=hrow j
            have hfi:=k1.len
            have hstep:=Qjd (i:=i) (s:=s) he
            have hsl2:=Qd3 (i:=i) ((sOut a.es tru v).take j) s
            rw[List.length_take]at hsl2
            generalize (((sOut a.es tru v).take j).foldl (sEd i) s)=t at*
            have hel2:=Qbj t.2
            have hpl:=QhO (n:=a.n) (o:=t.1)
            have hpg:=QhP (o:=t.1) hto
            have hpt:e.2.2<(pl a.n t.1).length:=by omega
            have hp1:e.2.2+1<=(pl a.n t.1).length:=by omega
            by_cases hc:e.2.2∈t.1
            · have h2 : sEd i t e = (t.1, t.2 ++ [(i, e.2.1, SD.idx t.1 e.2.2)]) := if_pos (by simpa using hc)
              rw[h2]at hstep
              rw[if_pos (by simpa using hc)]at hpg
              have h3:¬((SD.idx t.1 e.2.2:Nat):Int)<0:=by omega
              generalize SD.idx t.1 e.2.2=q at*
              simp(disch:=first|omega|(simp only[lenW]<;>omega)) only[hjl,QaP he,hto,QcG hpt,hpg,h3,hel2,wW,wV,simprocAttr]
              refine⟨j+1,by omega,by omega,?_⟩
              rw[hstep,List.flatMap_append,List.length_append]
              exact⟨[(50,.blk 50 0),(60,.blk 60 0),(69,.blk 69 0),(83,.blk 83 0),(78,.blk 78 0),(75,.blk 75 0),(76,.blk 76 1),(77,.blk 77 0)],rfl,au0,au7,au8⟩
            · have h2 : sEd i t e = (t.1 ++ [e.2.2], t.2 ++ [(i, e.2.1, t.1.length)]) := if_neg (by simpa using hc)
              rw[h2]at hstep
              rw[if_neg (by simpa using hc)]at hpg
              have hps:=Qou (n:=a.n) hc
              have h3:(-1:Int)<0:=by decide
              have hpl2:e.2.2<(pl a.n (t.1++[e.2.2])).length:=by rw[QhO];exact hto
              have hpg2:(pl a.n (t.1++[e.2.2])).getD e.2.2 0=(t.1.length:Int):=by
                rw[QhP hto,if_pos (by simp),SD.Qeu hc]
              simp(disch:=first|omega|(simp only[lenW]<;>omega)) only[hjl,QaP he,hto,QcG hpt,hpg,h3,hel2,hp1,QeV,hps,QcG hpl2,hpg2,wW,wV,simprocAttr]
              refine⟨j+1,by omega,by omega,?_⟩
              rw[hstep,List.flatMap_append,List.length_append]
              dsimp only
              rw[List.length_append,QaI,QaB]
              exact⟨[(50,.blk 50 0),(60,.blk 60 0),(69,.blk 69 0),(83,.blk 83 0),(78,.blk 78 0),(75,.blk 75 1),(76,.blk 76 1),(77,.blk 77 0)],rfl,au0,au7,au8⟩
          · have e : j = (sOut a.es tru v).length := by omega
            subst e
            simp(disch:=first|omega|(simp only[lenW]<;>omega)) only[hjl,wW,wV,simprocAttr]
            refine⟨(),?_⟩
            exact⟨[(50,.blk 50 0),(60,.blk 60 0),(69,.blk 69 0),(83,.blk 83 0),(78,.blk 78 0),(75,.blk 75 0),(76,.blk 76 0),(77,.blk 77 0)],rfl,au0,au7,au8⟩
        rintro _ _
        have hsl3:(sRow a.es tru i v s).2.length=s.2.length+(sOut a.es tru v).length:=Qd3 _ _
        have hol3:=Qg1 a.es tru v
        simp(disch:=first|omega|(simp only[lenW]<;>omega)) only[wW,wV,simprocAttr]
        refine⟨(i+1,sRow a.es tru i v s),by dsimp only;omega,⟨hin',hsi',by dsimp only;omega,hq'⟩,?_⟩
        dsimp only
        rw[hmapp]
        exact⟨[(50,.blk 50 0),(60,.blk 60 0),(69,.blk 69 0),(83,.blk 83 0),(78,.blk 78 0),(75,.blk 75 0),(76,.blk 76 0),(77,.blk 77 0)],rfl,au0,au7,au8⟩
      · rw [if_neg hmv, List.append_nil] at hmn
        rw[Bool.not_eq_true]at hmv
        rw[hmv]
        simp(disch:=first|omega|(simp only[lenW]<;>omega)) only[hlt,Qd2 (nz_at hv),wW,wV,simprocAttr]
        refine cp ho ?_
        simp(disch:=first|omega|(simp only[lenW]<;>omega)) only[wW,wV,simprocAttr]
        refine Qaj 300 (fun j:Nat=>[(1,.ptr 50 0 0),(2,.ptr 60 0 0),(3,.ptr 69 0 0),(4,.sl 78 0 0 a.n 1),(6,.sl 75 0 0 (((sOut a.es tru v).take j).foldl (sEd i) s).1.length 1),(7,.int .i64 i),(63,egsN (sOut a.es tru v)),(64,.int .i64 (sOut a.es tru v).length),(65,.int .i64 j)])
          (fun j=>[(50,.cells 0 (rsA a)),(60,.cells 0 rsN),(69,.cells 0 (cnB a M.length (((sOut a.es tru v).take j).foldl (sEd i) s).2.length)),(83,.cells 0 (ints (nz a.al))),(78,.cells 0 (ints (pl a.n (((sOut a.es tru v).take j).foldl (sEd i) s).1))),(75,.cells 0 (ints (nz (((sOut a.es tru v).take j).foldl (sEd i) s).1))),(76,.cells 0 ((((sOut a.es tru v).take j).foldl (sEd i) s).2.flatMap edC)),(77,.cells 0 (ints (nz M)))])
          (fun j=>j<=(sOut a.es tru v).length) (fun j=>(sOut a.es tru v).length-j) 0 4 400
          (fun _:Unit=>[(1,.ptr 50 0 0),(2,.ptr 60 0 0),(3,.ptr 69 0 0),(4,.sl 78 0 0 a.n 1),(6,.sl 75 0 0 (sRow a.es tru i v s).1.length 1),(7,.int .i64 i)])
          (fun _=>[(50,.cells 0 (rsA a)),(60,.cells 0 rsN),(69,.cells 0 (cnB a M.length (sRow a.es tru i v s).2.length)),(83,.cells 0 (ints (nz a.al))),(78,.cells 0 (ints (pl a.n (sRow a.es tru i v s).1))),(75,.cells 0 (ints (nz (sRow a.es tru i v s).1))),(76,.cells 0 ((sRow a.es tru i v s).2.flatMap edC)),(77,.cells 0 (ints (nz M)))]) (fun _=>True) ?_ (Nat.zero_le _) ?_ ?_
        · rw [hmn]
          exact⟨[(50,.blk 50 0),(60,.blk 60 0),(69,.blk 69 0),(83,.blk 83 0),(78,.blk 78 0),(75,.blk 75 0),(76,.blk 76 0),(77,.blk 77 0)],rfl,au0,au7,au8⟩
        · rintro j hj
          by_cases hjl:j<(sOut a.es tru v).length
          · obtain ⟨e, he⟩ := Qag hjl
            have hem:=Qa5.1 (List.mem_of_getElem? he)
            have hto:=(h.esn e hem.1).2
            obtain⟨k1,_,_,_,_⟩:=hrow j
            have hfi:=k1.len
            have hstep:=Qjd (i:=i) (s:=s) he
            have hsl2:=Qd3 (i:=i) ((sOut a.es tru v).take j) s
            rw[List.length_take]at hsl2
            generalize (((sOut a.es tru v).take j).foldl (sEd i) s)=t at*
            have hel2:=Qbj t.2
            have hpl:=QhO (n:=a.n) (o:=t.1)
            have hpg:=QhP (o:=t.1) hto
            have hpt:e.2.2<(pl a.n t.1).length:=by omega
            have hp1:e.2.2+1<=(pl a.n t.1).length:=by omega
            by_cases hc:e.2.2∈t.1
            · have h2 : sEd i t e = (t.1, t.2 ++ [(i, e.2.1, SD.idx t.1 e.2.2)]) := if_pos (by simpa using hc)
              rw[h2]at hstep
              rw[if_pos (by simpa using hc)]at hpg
              have h3:¬((SD.idx t.1 e.2.2:Nat):Int)<0:=by omega
              generalize SD.idx t.1 e.2.2=q at*
              simp(disch:=first|omega|(simp only[lenW]<;>omega)) only[hjl,QaP he,hto,QcG hpt,hpg,h3,hel2,wW,wV,simprocAttr]
              refine⟨j+1,by omega,by omega,?_⟩
              rw[hstep,List.flatMap_append,List.length_append]
              exact⟨[(50,.blk 50 0),(60,.blk 60 0),(69,.blk 69 0),(83,.blk 83 0),(78,.blk 78 0),(75,.blk 75 0),(76,.blk 76 1),(77,.blk 77 0)],rfl,au0,au7,au8⟩
            · have h2 : sEd i t e = (t.1 ++ [e.2.2], t.2 ++ [(i, e.2.1, t.1.length)]) := if_neg (by simpa using hc)
              rw[h2]at hstep
              rw[if_neg (by simpa using hc)]at hpg
              have hps:=Qou (n:=a.n) hc
              have h3:(-1:Int)<0:=by decide
              have hpl2:e.2.2<(pl a.n (t.1++[e.2.2])).length:=by rw[QhO];exact hto
              have hpg2:(pl a.n (t.1++[e.2.2])).getD e.2.2 0=(t.1.length:Int):=by
                rw[QhP hto,if_pos (by simp),SD.Qeu hc]
              simp(disch:=first|omega|(simp only[lenW]<;>omega)) only[hjl,QaP he,hto,QcG hpt,hpg,h3,hel2,hp1,QeV,hps,QcG hpl2,hpg2,wW,wV,simprocAttr]
              refine⟨j+1,by omega,by omega,?_⟩
              rw[hstep,List.flatMap_append,List.length_append]
              dsimp only
              rw[List.length_append,QaI,QaB]
              exact⟨[(50,.blk 50 0),(60,.blk 60 0),(69,.blk 69 0),(83,.blk 83 0),(78,.blk 78 0),(75,.blk 75 1),(76,.blk 76 1),(77,.blk 77 0)],rfl,au0,au7,au8⟩
          · have e : j = (sOut a.es tru v).length := by omega
            subst e
            simp(disch:=first|omega|(simp only[lenW]<;>omega)) only[hjl,wW,wV,simprocAttr]
            refine⟨(),?_⟩
            exact⟨[(50,.blk 50 0),(60,.blk 60 0),(69,.blk 69 0),(83,.blk 83 0),(78,.blk 78 0),(75,.blk 75 0),(76,.blk 76 0),(77,.blk 77 0)],rfl,au0,au7,au8⟩
        rintro _ _
        have hsl3:(sRow a.es tru i v s).2.length=s.2.length+(sOut a.es tru v).length:=Qd3 _ _
        have hol3:=Qg1 a.es tru v
        simp(disch:=first|omega|(simp only[lenW]<;>omega)) only[wW,wV,simprocAttr]
        refine⟨(i+1,sRow a.es tru i v s),by dsimp only;omega,⟨hin',hsi',by dsimp only;omega,hq'⟩,?_⟩
        dsimp only
        rw[hmapp]
        exact⟨[(50,.blk 50 0),(60,.blk 60 0),(69,.blk 69 0),(83,.blk 83 0),(78,.blk 78 0),(75,.blk 75 0),(76,.blk 76 0),(77,.blk 77 0)],rfl,au0,au7,au8⟩
    · have hv : s.1[i]? = none := List.getElem?_eq_none (by omega)
      have hqf:s=sAll a tru:=by
        rw[<-hq,show a.n+1-i=(a.n-i)+1 by omega]
        simp only[sQ,hv]
      have hil:i=s.1.length:=by omega
      have hmf:mks a i s.1=(restr a tru).ms:=by rw[hil,hqf];rfl
      have hef:s.2=(restr a tru).es:=by rw[hqf];rfl
      simp(disch:=first|omega|(simp only[lenW]<;>omega)) only[hlt,wW,wV,simprocAttr]
      refine⟨(),?_⟩
      rw[hmf,hef,<-hqf]
      exact⟨[(60,.blk 60 0),(69,.blk 69 0),(83,.blk 83 0),(75,.blk 75 0),(76,.blk 76 0),(77,.blk 77 0)],rfl,au0,au7,au8⟩
  rintro _ _
  have hra:(restr a tru).al=a.al:=rfl
  have hrn2:(restr a tru).n=(sAll a tru).1.length:=rfl
  simp(disch:=first|omega|(simp only[lenW]<;>omega)) only[wW,wV,simprocAttr]
  refine⟨.inr trivial,_,rfl,?_⟩
  exact Rn.agg (RnL.cons (Rn.fz0 (g:=0) rfl (by simp[ints,hra]) (RnL.same (Qae _))) (RnL.cons (Rn.same rfl) (RnL.cons (Rn.fz0 (g:=0) rfl (by simp[ints]) (RnL.same (Qae _))) (RnL.cons (Rn.fz0 (g:=0) rfl (Qbj _) (RnL.same (Qaf _))) RnL.nil))))
end Go.AM.SE
namespace Go.AM.SO
open Go.Proofs Go.AM.SD Go.AM.SE
theorem check112 (a:Aut) (h:WfA a) (hel:a.es.length<=1000000):PSpec Tryz.prog 112 [aV a] (.int .i64 0):=by
 have:=check37 (au a) (WfA.auOk h hel)
 rwa [Qoj]at this
theorem isCanon60 (a:Aut) (h:WfA a) (hel:a.es.length<=1000000) (hc:restr a (fun _=>true)=a):PSpec Tryz.prog 60 [aV a] (.bool true):=by
 have h1:=canonical44 a h hel
 have hc':restr a tru=a:=hc
 rw[hc']at h1
 have hn5:=h.n5
 have hal:a.al.length<=5:=QaX 5 a.al (by rw[List.nodup_iff_pairwise_ne];exact h.al.imp fun h=>by omega) h.al5
 have hml:a.ms.length<=a.n:=QaX a.n a.ms h.nd h.msn
 have ho:AOk a:=⟨by omega,by omega,by omega⟩
 have h2:=eq43 a a ho ho
 rw[QfH]at h2
 refine PSpec.Qal 64 ok60 rfl (by(try simp only[noRefs,Qae,Qam,Qaf,Qao,Qan,noRef,Bool.and_self,Bool.and_true])<;>rfl) rfl ?_
 simp(disch:=first|omega|(simp only[lenW]<;>omega)) only[s60,wV,simprocAttr]
 refine cp (check112 a h hel) ?_
 simp(disch:=first|omega|(simp only[lenW]<;>omega)) only[wV,simprocAttr]
 refine cp h1 ?_
 simp(disch:=first|omega|(simp only[lenW]<;>omega)) only[wV,simprocAttr]
 refine cp h2 ?_
 simp(disch:=first|omega|(simp only[lenW]<;>omega)) only[wV,simprocAttr]
 exact⟨.inr trivial,_,rfl,rfl⟩
end Go.AM.SO
namespace Go.AM.SK
open Go.Proofs
set_option maxHeartbeats 4000000
noncomputable section
def cf:YA.Cf:={}
noncomputable def ft:FT2:=YA.tre Tryz.prog cf 20 [15,16,17,18,19,21,28,31,32,33,36,38,41,45,48,60,68,69,70,71,72,73,74,75,76,77,82,83,84,85,90,95,96,97,98,99,100,101,102,103,104,105,106,110,111,112,115,135,144,148,149,150,154,155,156,157,158,159,160,161,162,163,164,166,167,168,169,183,184,187,188,189,190,192,193,195,197,198,199,200,201,202,203,204,205,206,207,208,209,218,219,223,226,227,228,229,230,232,233,234,235,236,242,251,263]
theorem ft_ok:ft.OK Tryz.prog:=YA.QhC _ _ (YA.QgZ (by kernel_rfl))
end
end Go.AM.SK
namespace Go.AM.SP
open Go.Proofs
noncomputable section
def isTrue:AV->Bool| .bool true=>true|_=>false
theorem Qov:∀u,isTrue u=true->u= .bool true:=by
 intro u h
 unfold isTrue at h
 split at h
 ·rfl
 ·cases h
def nameB (s:List UInt8):Bool:=callR ansB noOrc SK.ft.get (exR ansB noOrc SK.ft.get 1000) (.c .pure) 135 [.str s] .e 64 (fun u _ _=>isTrue u)
theorem Qb7 {s:List UInt8} (h:nameB s=true):PSpec Tryz.prog 135 [.str s] (.bool true):=
 QbE (t:=SK.ft) SK.ft_ok Qc4 (d:=1000) isTrue Qov h
theorem Qri:PSpec Tryz.prog 135 [.str [97]] (.bool true):=Qb7 (by kernel_rfl)
theorem Qrj:PSpec Tryz.prog 135 [.str [98]] (.bool true):=Qb7 (by kernel_rfl)
theorem QkQ:PSpec Tryz.prog 135 [.str [99]] (.bool true):=Qb7 (by kernel_rfl)
theorem Qrk:PSpec Tryz.prog 135 [.str [100]] (.bool true):=Qb7 (by kernel_rfl)
theorem Qrl:PSpec Tryz.prog 135 [.str [101]] (.bool true):=Qb7 (by kernel_rfl)
theorem Qqo:PSpec Tryz.prog 135 [.str [99,48]] (.bool true):=Qb7 (by kernel_rfl)
theorem Qqp:PSpec Tryz.prog 135 [.str [99,49]] (.bool true):=Qb7 (by kernel_rfl)
theorem Qqq:PSpec Tryz.prog 135 [.str [99,50]] (.bool true):=Qb7 (by kernel_rfl)
theorem Qqr:PSpec Tryz.prog 135 [.str [114,48]] (.bool true):=Qb7 (by kernel_rfl)
theorem Qqs:PSpec Tryz.prog 135 [.str [114,49]] (.bool true):=Qb7 (by kernel_rfl)
end
end Go.AM.SP
namespace Go.AM.SO
open Go.Proofs Go.AM.SD Go.AM.SE
structure Evt where
 c:Bool
 o:Bool
 f:Bool
 flt:Nat
def Evt.Ok (e:Evt):Prop:=e.flt<=4/\(e.flt≠0->e.c=false/\e.o=false)
def evC (i:Nat) (e:Evt):List AV:=[.str [UInt8.ofNat (97+i)],.bool e.c,.bool e.o,.bool e.f,.int .i64 (e.flt:Int)]
abbrev evsC (e:Nat->Evt):List AV:=evC 0 (e 0)++evC 1 (e 1)++evC 2 (e 2)++evC 3 (e 3)++evC 4 (e 4)
abbrev evsV (e:Nat->Evt):AV:= .fsl (evsC e) 5 5
theorem Qrm (e:Nat->Evt) {i:Nat} (hi:i<5):((evsC e).drop (i*5)).take 5=evC i (e i):=by
 have:i=0\/i=1\/i=2\/i=3\/i=4:=by omega
 rcases this with rfl|rfl|rfl|rfl|rfl<;>rfl
theorem Qie (e:Nat->Evt):(evsC e).length=25:=rfl
theorem Qqt {i:Nat} (hi:i<5):PSpec Tryz.prog 135 [.str [UInt8.ofNat (97+i)]] (.bool true):=by
 have:i=0\/i=1\/i=2\/i=3\/i=4:=by omega
 rcases this with rfl|rfl|rfl|rfl|rfl
 ·exact SP.Qri
 ·exact SP.Qrj
 ·exact SP.QkQ
 ·exact SP.Qrk
 ·exact SP.Qrl
end Go.AM.SO
namespace Go.AM.SO
open Go.Proofs Go.AM.SD Go.AM.SE
def nmL (i:Nat):List (List UInt8):=(List.range i).map fun j=>[UInt8.ofNat (97+j)]
theorem QpG {i:Nat}:nmL (i+1)=nmL i++[[UInt8.ofNat (97+i)]]:=by
 unfold nmL
 rw[List.range_succ,List.map_append];rfl
theorem Qqu {i:Nat} (hi:i<5):[UInt8.ofNat (97+i)]∉nmL i:=by
 have:i=0\/i=1\/i=2\/i=3\/i=4:=by omega
 rcases this with rfl|rfl|rfl|rfl|rfl<;>decide
abbrev yes:List UInt8->AV:=fun _=> .bool true
theorem Qg5 {x:List UInt8}:updS yes x (.bool true)=yes:=by
 funext y;simp[updS]
theorem Qow (e:Nat->Evt):noRefs [evsV e]=true:=rfl
theorem _root_.Go.AM.au9 {p:Prop} (h:p:=by repeat (first|exact RT.nil|(refine RT.cons ?_ ?_; · (first|exact Rn.any|exact Rn.x1 rfl rfl|exact Rn.x2 rfl rfl|exact Rn.x3 rfl rfl|exact Rn.x4 rfl rfl|exact Rn.x5 rfl|exact Rn.x6 rfl|exact Rn.x7 rfl|(refine Rn.slot ?_ ?_;(first|rfl|(rw[Int.natCast_add];rfl));(first|rfl|(simp only[noRef,noRefs,Qai,Bool.and_self,Bool.and_true,Bool.true_and,Qae,Qau,Qab];done)))|(refine Rn.fn ?_ ?_<;>(repeat' (first|exact RnL.nil|refine RnL.cons ?_ ?_|exact Rn.same rfl|exact Rn.x6 rfl|exact Rn.x2 rfl rfl|exact Rn.x5 rfl|exact Rn.x1 rfl rfl))))))):p:=h
theorem check82 (e:Nat->Evt) (he:∀i,i<5->(e i).Ok):PSpec Tryz.prog 82 [evsV e] (.int .i64 0):=by
  refine PSpec.Qal 64 ok82 rfl (Qow e) rfl ?_
  simp(disch:=first|omega|(simp only[lenW]<;>omega)) only[s82,wW,wV,simprocAttr]
  refine QaK 100 (fun i:Nat=>[(10,evsV e),(11,.int .i64 5),(12,.int .i64 i),(3,.map 68 0)]) (fun i=>[(68,.map 0 (mapS yes (nmL i)))]) (fun i=>i<=5) (fun i=>5-i) 0 ⟨[(68,.blk 68 0)],rfl,au0,?_,au9⟩ (Nat.zero_le _) ?_
  · exact RB.map rfl rfl rfl trivial RB.nil
  rintro i hi
  by_cases hlt:i<5
  · have hlt2 : (i : Int) < 5 := by omega
    have hat:=Qrm e hlt
    have hln:5<=(List.drop (i*5) (evsC e)).length:=by rw[List.length_drop,Qie];omega
    have hev:evC i (e i)=[.str [UInt8.ofNat (97+i)],.bool (e i).c,.bool (e i).o,.bool (e i).f,.int .i64 ((e i).flt:Int)]:=rfl
    obtain⟨h4,hc⟩:=he i hlt
    generalize e i=ei at hat hev h4 hc
    obtain⟨ec,eo,ef,efl⟩:=ei
    dsimp only at hat hev h4 hc
    have hnm:=Qqu hlt
    have hs:=@QpG i
    have hne:=Qqt hlt
    generalize UInt8.ofNat (97+i)=ch at hev hnm hs hne
    simp(disch:=first|omega|(simp only[lenW]<;>omega)) only[hlt2,hat,hln,hev,wW,wV,simprocAttr]
    refine cp hne ?_
    simp(disch:=first|omega|(simp only[lenW]<;>omega)) only[wW,wV,simprocAttr]
    refine QfE rfl hnm ?_
    have k1:¬(efl:Int)<0:=by omega
    have k2:¬4<(efl:Int):=by omega
    by_cases h0:efl=0
    · have k3 : (efl : Int) = 0 := by omega
      simp(disch:=first|omega|(simp only[lenW]<;>omega)) only[k1,k2,k3,wW,wV,simprocAttr]
      refine QdY gg hnm (by omega) ?_
      simp(disch:=first|omega|(simp only[lenW]<;>omega)) only[Qg5,wW,wV,simprocAttr]
      refine⟨i+1,by omega,by omega,?_⟩
      rw[hs]
      refine⟨[(68,.blk 68 0)],rfl,au0,?_,au9⟩
      exact RB.map rfl rfl gg (RnM.mapS fun _ _=>Rn.same rfl) RB.nil
    · have k3 : ¬ (efl : Int) = 0 := by omega
      obtain⟨rfl,rfl⟩:=hc h0
      simp(disch:=first|omega|(simp only[lenW]<;>omega)) only[k1,k2,k3,wW,wV,simprocAttr]
      refine QdY gg hnm (by omega) ?_
      simp(disch:=first|omega|(simp only[lenW]<;>omega)) only[Qg5,wW,wV,simprocAttr]
      refine⟨i+1,by omega,by omega,?_⟩
      rw[hs]
      refine⟨[(68,.blk 68 0)],rfl,au0,?_,au9⟩
      exact RB.map rfl rfl gg (RnM.mapS fun _ _=>Rn.same rfl) RB.nil
  · have hlt2 : ¬ (i : Int) < 5 := by omega
    simp(disch:=first|omega|(simp only[lenW]<;>omega)) only[hlt2,wW,wV,simprocAttr]
    exact⟨.inr trivial,_,rfl,rfl⟩
end Go.AM.SO
namespace Go.AM.SO
open Go.Proofs Go.AM.SD Go.AM.SE
def evOf (b:Nat):Evt:=if 48<=b/\b<52 then⟨false,false,false,b-47⟩else⟨decide (b&&&1=1),decide (b&&&2=2),decide (b&&&4=4),0⟩
theorem Qqv (b:Nat):(evOf b).Ok:=by
 unfold evOf
 split
 ·exact⟨by grind,fun _=>⟨rfl,rfl⟩⟩
 ·exact⟨by simp_all,fun h=>absurd rfl h⟩
theorem andN (b m:Nat) (hb:b<256) (hm:m<256):(BitVec.ofInt 8 (b:Int)&&&BitVec.ofInt 8 (m:Int)).toNat=b&&&m:=by
 grind
theorem QkR (b m:Nat) (hm:m<256):b&&&m<256:=Nat.lt_of_le_of_lt Nat.and_le_right hm
theorem Qox {b:Nat} (hb:b<256):aBin .and (.int .u8 (b:Int)) (.int .u8 1)=some (.int .u8 ((b&&&1:Nat):Int)):=by
 have:=andN b 1 hb (by omega)
 have h2:=QkR b 1 (by omega)
 simp only[aBin,if_true]
 rw[show IntKind.u8.bits=8 from rfl,show(1:Int)=((1:Nat):Int) from rfl,this,wr_u8 (by omega) (by omega)]
theorem Qoy {b:Nat} (hb:b<256):aBin .and (.int .u8 (b:Int)) (.int .u8 2)=some (.int .u8 ((b&&&2:Nat):Int)):=by
 have:=andN b 2 hb (by omega)
 have h2:=QkR b 2 (by omega)
 simp only[aBin,if_true]
 rw[show IntKind.u8.bits=8 from rfl,show(2:Int)=((2:Nat):Int) from rfl,this,wr_u8 (by omega) (by omega)]
theorem Qoz {b:Nat} (hb:b<256):aBin .and (.int .u8 (b:Int)) (.int .u8 4)=some (.int .u8 ((b&&&4:Nat):Int)):=by
 have:=andN b 4 hb (by omega)
 have h2:=QkR b 4 (by omega)
 simp only[aBin,if_true]
 rw[show IntKind.u8.bits=8 from rfl,show(4:Int)=((4:Nat):Int) from rfl,this,wr_u8 (by omega) (by omega)]
def evP (F:List Nat) (i:Nat):List AV:=(List.range i).flatMap fun j=>evC j (evOf (F.getD j 0))
theorem QkS {F:List Nat} {i:Nat}:evP F (i+1)=evP F i++evC i (evOf (F.getD i 0)):=by
 simp_all [evP,List.range_succ]
theorem Qif {F:List Nat}:∀{i:Nat},(evP F i).length=i*5
 |0=>rfl
 |i+1=>by rw[QkS,List.length_append,Qif];simp[evC];omega
end Go.AM.SO
namespace Go.AM.SO
open Go.Proofs Go.AM.SD Go.AM.SE
structure Cel where
 ev:Nat->Evt
 cs:List (Nat×Aut)
 rs:List (Nat×Aut)
 xs:List (Nat×List (Nat×Nat))
 ks:List (List (Nat×Int)×Int)
def itC (ch:UInt8) (x:Nat×Aut):List AV:=[.str [ch,UInt8.ofNat (48+x.1)],sliN x.2.al,.int .i64 (x.2.n:Int),sliN x.2.ms,egsN x.2.es]
def loC (x:Nat×Nat):List AV:=[.int .i64 (x.1:Int),.int .i64 (x.2:Int)]
abbrev los (l:List (Nat×Nat)):AV:= .fsl (l.flatMap loC) l.length 2
def exC (x:Nat×List (Nat×Nat)):List AV:=[.str [101,UInt8.ofNat (48+x.1)],los x.2]
def teC (x:Nat×Int):List AV:=[.int .i64 (x.1:Int),.int .i64 x.2]
abbrev tes (l:List (Nat×Int)):AV:= .fsl (l.flatMap teC) l.length 2
def coC (x:List (Nat×Int)×Int):List AV:=[.str [107],tes x.1,.int .i64 x.2]
abbrev its (ch:UInt8) (l:List (Nat×Aut)):AV:= .fsl (l.flatMap (itC ch)) l.length 5
abbrev exs (l:List (Nat×List (Nat×Nat))):AV:= .fsl (l.flatMap exC) l.length 2
abbrev cos (l:List (List (Nat×Int)×Int)):AV:= .fsl (l.flatMap coC) l.length 3
abbrev celV (c:Cel):AV:= .agg [evsV c.ev,its 99 c.cs,its 114 c.rs,exs c.xs,cos c.ks]
structure WfI (a:Aut):Prop where
 wf:WfA a
 pos:0<a.n
 n3:a.n<=3
 can:restr a (fun _=>true)=a
 el:a.es.length<=25
structure WfCel (c:Cel):Prop where
 ev:∀i,i<5->(c.ev i).Ok
 c0:0<c.cs.length
 c3:c.cs.length<=3
 r2:c.rs.length<=2
 x2:c.xs.length<=2
 k1:c.ks.length<=1
 cn:c.cs.map (·.1)=List.range c.cs.length
 rn:c.rs.map (·.1)=List.range c.rs.length
 xn:(c.xs.map (·.1)).Pairwise (· < ·)/\∀x∈c.xs,x.1<2
 ca:∀x∈c.cs,WfI x.2
 ra:∀x∈c.rs,WfI x.2
 rsub:∀x∈c.rs,∀e∈x.2.al,∃y∈c.cs,e∈y.2.al
 xl:∀x∈c.xs,x.2≠[]/\(x.2.map (·.1)).Pairwise (· < ·)/\∀l∈x.2,∃y,c.cs[l.1]?=some y/\l.2<y.2.n
 kl:∀x∈c.ks,x.1≠[]/\(x.1.map (·.1)).Pairwise (· < ·)/\(∀t∈x.1,t.1<c.cs.length/\t.2≠0/\ -4<t.2/\t.2<4)/\ -8<x.2/\x.2<8
theorem Qnj {l:List Nat} (h:l.Pairwise (· < ·)) {p q:Nat} (hpq:p<q) (hq:q<l.length):l.getD p 0<l.getD q 0:=by
 grind [List.pairwise_iff_getElem]
theorem partLt {n b:Nat}:∀x∈SD.part n b,x<n:=fun x hx=>(QkH.1 hx).1
theorem Qqw {al:List Nat} {st mk:Nat} {T:List Nat} (hs:al.Pairwise (· < ·)) (h5:∀x∈al,x<5):WfA (gRaw al st mk T):=by
 have hr:=QeW (st:=st) (mk:=mk) (T:=T) (Qbq hs h5)
 have hesn:=hr.esn
 have hn5:=hr.n5
 unfold gRaw at hesn hn5⊢
 split
 ·exact⟨hs,h5,by simp,by simp,by simp,by simp,by simp,by simp⟩
 ·rename_i hst
  rw[if_neg hst]at hesn hn5
  have hev:∀i,∀e∈gRow al (1+st % 5) T i al.length,e.1=i/\∃j,j<al.length/\e.2.1=al.getD j 0:=fun i e he=>by
   unfold gRow at he
   obtain⟨j,hj,hm⟩:=List.mem_filterMap.1 he
   unfold gEd at hm
   grind
  refine⟨hs,h5,hn5,Qdg _ _,partLt,?_,hesn,fun e he=>?_⟩
  ·show (gPre _ _ _ _).Pairwise _
   unfold gPre
   refine Qcv (fun i _=>?_) (List.pairwise_lt_range.imp fun hij x hx y hy=> .inl ?_)
   ·unfold gRow
    refine List.Pairwise.filterMap _ (R:=fun j j'=>j<j'/\j'<al.length) ?_ (List.pairwise_lt_range.imp_of_mem fun _ hb h=>⟨h,List.mem_range.1 hb⟩)
    rintro x y ⟨hxy,hy⟩ p hp q hq
    unfold gEd at hp hq
    split at hp
    ·split at hq
     ·cases hp;cases hq;exact .inr ⟨rfl,Qnj hs hxy hy⟩
     ·cases hq
    ·cases hp
   grind
  grind [gPre]
theorem Qqx {al:List Nat} {st mk:Nat} {T:List Nat} (hs:al.Pairwise (· < ·)) (h5:∀x∈al,x<5):restr (mkA al st mk T) (fun _=>true)=mkA al st mk T:=by
 have h:=Qqw (st:=st) (mk:=mk) (T:=T) hs h5
 show restr (canon _) _=canon _
 grind [QlL,QlK]
theorem QkT {es:List Ed} {s:Nat}:∀{L:List Nat} {out:List Nat},out.length<=(L.foldl (fEv es s) out).length
 |[],out=>Nat.le_refl _
 |e::L,out=>by
  rw[List.foldl_cons]
  refine Nat.le_trans ?_ (QkT (L:=L))
  grind [fEv]
theorem QoA {al:List Nat} {es:List Ed}:∀(k i:Nat) (out:List Nat),out.length<=(fQ al es k i out).length
 |0,_,_=>Nat.le_refl _
 |k+1,i,out=>by
  unfold fQ
  split
  ·exact Nat.le_trans QkT (QoA k (i+1) _)
  omega
theorem Qmz {al:List Nat} {st mk:Nat} {T:List Nat} (hs:al.Pairwise (· < ·)) (h5:∀x∈al,x<5) (h3:st<3):WfI (mkA al st mk T):=by
 have hr:=QeW (st:=st) (mk:=mk) (T:=T) (Qbq hs h5)
 have e:gRaw al st mk T=⟨al,1+st % 5,SD.part (1+st % 5) mk,gPre al (1+st % 5) T (1+st % 5)⟩:=if_neg (by omega)
 have hn:(gRaw al st mk T).n<=3:=by grind
 have hf:(found (gRaw al st mk T)).length<=(gRaw al st mk T).n:=QaX _ _ (QeT hr.esn).1.nd (QeT hr.esn).1.lt
 have h1:=Qg2 (gRaw al st mk T) (found (gRaw al st mk T)) (found (gRaw al st mk T)).length
 refine⟨Qrg hs h5,?_,Nat.le_trans hf hn,Qqx hs h5,?_⟩
 ·show 0 < (found (gRaw al st mk T)).length
  have h0:0<(gRaw al st mk T).n:=by grind
  unfold found
  rw[if_pos h0]
  exact Nat.lt_of_lt_of_le (by simp) (QoA _ _ _)
 ·have h2 : (mkA al st mk T).es.length = (cPre (gRaw al st mk T) (found (gRaw al st mk T)) (found (gRaw al st mk T)).length).length := rfl
  rw[h2]
  have h4:(gRaw al st mk T).al.length<=5:=by simp_all [Qbq]
  refine Nat.le_trans h1 (Nat.le_trans (Nat.mul_le_mul (Nat.le_trans hf hn) h4) (by decide))
structure Pln where
 L:List Nat
 X:List Nat
 xn:Nat
 f0:Int
 f1:Int
 f2:Int
 bd:Int
structure POk (p:Pln):Prop where
 L:p.L.length=147
 L8:∀x∈p.L,x<256
 X:p.X.length=p.xn*4
 X8:∀x∈p.X,x<256
 f0: -128<=p.f0/\p.f0<128
 f1: -128<=p.f1/\p.f1<128
 f2: -128<=p.f2/\p.f2<128
 bd: -128<=p.bd/\p.bd<128
abbrev plnC (p:Pln):List AV:=u8s p.L++[.fsl (u8s p.X) p.xn 4,.int .i8 p.f0,.int .i8 p.f1,.int .i8 p.f2,.int .i8 p.bd]
abbrev plnV (p:Pln):AV:= .agg (plnC p)
variable (p:Pln)
def pN:Nat:=1+p.L.getD 5 0 % 3
def pM:Nat:=p.L.getD 90 0 % 3
def pA (i:Nat):Aut:=mkA (SD.part 5 (p.L.getD (6+i) 0)) (p.L.getD (9+i*27) 0 % 3) (p.L.getD (9+i*27+1) 0) ((p.L.drop (9+i*27+2)).take 25)
def pAll:Nat->Nat
 |0=>0
 |i+1=>pAll i|||p.L.getD (6+i) 0 % 32
def pW (i:Nat):List Nat:=(SD.part 5 (p.L.getD (91+i) 0)).filter fun x=>(pAll p (pN p)).testBit x
def pR (i:Nat):Aut:=mkA (pW p i) (p.L.getD (93+i*27) 0 % 3) (p.L.getD (93+i*27+1) 0) ((p.L.drop (93+i*27+2)).take 25)
def pCs (n:Nat):List (Nat×Aut):=(List.range n).map fun i=>(i,pA p i)
def pRs (n:Nat):List (Nat×Aut):=(List.range n).map fun i=>(i,pR p i)
def pLo (i:Nat):Nat->List (Nat×Nat)
 |0=>[]
 |k+1=>if p.X.getD (i*4+k) 0 % ((pA p k).n+2)<(pA p k).n then pLo i k++[(k,p.X.getD (i*4+k) 0 % ((pA p k).n+2))]else pLo i k
def pXs:Nat->List (Nat×List (Nat×Nat))
 |0=>[]
 |i+1=>if 0<(pLo p i (pN p)).length then pXs i++[(i,pLo p i (pN p))]else pXs i
def pF (i:Nat):Int:=if i=0 then p.f0 else if i=1 then p.f1 else p.f2
def pT:Nat->List (Nat×Int)
 |0=>[]
 |i+1=>if pF p i=0 then pT i else pT i++[(i,(pF p i).tmod 4)]
def pT0:List (Nat×Int):=(pT p (pN p)).filter fun t=> !(decide (t.2=0))
def pKs:List (List (Nat×Int)×Int):=if 0<(pT0 p).length then[(pT0 p,p.bd.tmod 8)]else[]
def mkC:Cel:=⟨fun i=>evOf ((p.L.take 5).getD i 0),pCs p (pN p),pRs p (pM p),pXs p (min p.xn 2),pKs p⟩
variable {p}
theorem pN_le:1<=pN p/\pN p<=3:=by unfold pN;omega
theorem pM_le:pM p<=2:=by unfold pM;omega
theorem Qjh (i:Nat):(pW p i).Pairwise (· < ·):=(Qdg _ _).filter _
theorem pW_lt (i:Nat):∀x∈pW p i,x<5:=fun x hx=>partLt x (List.mem_filter.1 hx).1
theorem pA_wf (i:Nat):WfI (pA p i):=Qmz (Qdg _ _) partLt (by omega)
theorem pR_wf (i:Nat):WfI (pR p i):=Qmz (Qjh i) (pW_lt i) (by omega)
theorem QoB {al:List Nat} {st mk:Nat} {T:List Nat}:(mkA al st mk T).al=al:=by
 show(gRaw al st mk T).al=al
 grind [gRaw]
theorem QhQ {i:Nat}:∀{n:Nat},∀x∈pLo p i n,x.1<n/\x.2<(pA p x.1).n
 |0,x,h=>by cases h
 | n + 1, x, h => by
  unfold pLo at h
  split at h
  ·rename_i hc
   rcases List.mem_append.1 h with h|h
   ·have:=QhQ x h;omega
   simp_all
  ·have:=QhQ x h;omega
theorem QeX {i:Nat}:∀{n:Nat},((pLo p i n).map (·.1)).Pairwise (· < ·)
 |0=>by simp[pLo]
 | n + 1 => by
  unfold pLo
  split
  ·rw [List.map_append, List.pairwise_append]
   refine⟨QeX,by simp,fun x hx y hy=>?_⟩
   simp at hy;subst hy
   obtain⟨z,hz,rfl⟩:=List.mem_map.1 hx
   exact(QhQ z hz).1
  ·exact QeX
theorem QfK:∀{n:Nat},∀x∈pXs p n,x.1<n/\x.2=pLo p x.1 (pN p)/\x.2≠[]
 |0,x,h=>by cases h
 | n + 1, x, h => by
  unfold pXs at h
  split at h
  ·rename_i hc
   rcases List.mem_append.1 h with h|h
   ·have:=QfK x h;grind
   grind
  ·have:=QfK x h;grind
theorem QeY:∀{n:Nat},((pXs p n).map (·.1)).Pairwise (· < ·)
 |0=>by simp[pXs]
 | n + 1 => by
  unfold pXs
  split
  ·rw [List.map_append, List.pairwise_append]
   refine⟨QeY,by simp,fun x hx y hy=>?_⟩
   simp at hy;subst hy
   obtain⟨z,hz,rfl⟩:=List.mem_map.1 hx
   exact(QfK z hz).1
  ·exact QeY
theorem Qig:∀{n:Nat},(pXs p n).length<=n
 |0=>by simp[pXs]
 |n+1=>by
  have:=@Qig n
  grind [pXs]
theorem Qih {i:Nat}:∀{n:Nat},(pLo p i n).length<=n
 |0=>by simp[pLo]
 |n+1=>by
  have:=@Qih i n
  grind [pLo]
theorem QkU:∀{n:Nat},(pT p n).length<=n
 |0=>by simp[pT]
 |n+1=>by
  have:=@QkU n
  grind [pT]
theorem pT_lt:∀{n:Nat},∀x∈pT p n,x.1<n/\ -4<x.2/\x.2<4
 |0,x,h=>by cases h
 | n + 1, x, h => by
  unfold pT at h
  split at h
  ·have:=pT_lt x h;omega
  ·rcases List.mem_append.1 h with h | h
   ·have:=pT_lt x h;omega
   grind
theorem QfL:∀{n:Nat},((pT p n).map (·.1)).Pairwise (· < ·)
 |0=>by simp[pT]
 | n + 1 => by
  unfold pT
  split
  ·exact QfL
  ·rw [List.map_append, List.pairwise_append]
   refine⟨QfL,by simp,fun x hx y hy=>?_⟩
   simp at hy;subst hy
   obtain⟨z,hz,rfl⟩:=List.mem_map.1 hx
   exact(pT_lt z hz).1
theorem QkV {e:Nat}:∀{n:Nat},(pAll p n).testBit e=true->e<5->∃i,i<n/\(p.L.getD (6+i) 0).testBit e=true
 |0,h,_=>by simp[pAll]at h
 | n + 1, h, h5 => by
  unfold pAll at h
  rw[Nat.testBit_or,Bool.or_eq_true]at h
  rcases h with h|h
  ·obtain⟨i,hi,h⟩:=QkV h h5;grind
  ·rw [show 32 = 2 ^ 5 from rfl, Nat.testBit_mod_two_pow] at h
   grind
theorem QoC {n i:Nat} (h:i<n):(pCs p n)[i]?=some (i,pA p i):=by
 simp_all [pCs]
theorem Qrn:WfCel (mkC p):=by
 have h1:=@pN_le p
 have h2:=@pM_le p
 have hc:(pCs p (pN p)).length=pN p:=by simp[pCs]
 have hr:(pRs p (pM p)).length=pM p:=by simp[pRs]
 have hx:=@Qig p (min p.xn 2)
 refine⟨fun i _=>Qqv _,?_,?_,?_,?_,?_,?_,?_,⟨QeY,fun x hx=>?_⟩,fun x hx=>?_,fun x hx=>?_,fun x hx e he=>?_,fun x hx=>?_,fun x hx=>?_⟩
 ·show 0 < (pCs p (pN p)).length
  omega
 ·show (pCs p (pN p)).length <= 3
  omega
 ·show (pRs p (pM p)).length <= 2
  omega
 ·show (pXs p _).length <= 2
  omega
 ·show (pKs p).length <= 1
  grind [pKs]
 ·show (pCs p (pN p)).map (·.1) = List.range (pCs p (pN p)).length
  simp_all [pCs,Function.comp_def]
 ·show (pRs p (pM p)).map (·.1) = List.range (pRs p (pM p)).length
  simp_all [pRs,Function.comp_def]
 ·have:=(QfK x hx).1;omega
 ·obtain ⟨i, _, rfl⟩ := List.mem_map.1 (show x ∈ pCs p (pN p) from hx)
  exact pA_wf i
 ·obtain ⟨i, _, rfl⟩ := List.mem_map.1 (show x ∈ pRs p (pM p) from hx)
  exact pR_wf i
 ·obtain ⟨i, _, rfl⟩ := List.mem_map.1 (show x ∈ pRs p (pM p) from hx)
  dsimp only at he
  rw[show(pR p i).al=pW p i from QoB]at he
  obtain⟨h5,hb⟩:=List.mem_filter.1 he
  obtain⟨j,hj,hb⟩:=QkV hb (partLt e h5)
  refine⟨(j,pA p j),List.mem_map.2 ⟨j,List.mem_range.2 hj,rfl⟩,?_⟩
  simp_all [pA,QoB,QkH]
 ·obtain ⟨_, h4, h5⟩ := QfK x hx
  refine⟨h5,by grind [QeX],fun l hl=>?_⟩
  rw[h4]at hl
  obtain⟨h6,h7⟩:=QhQ l hl
  exact⟨_,QoC h6,h7⟩
 ·have hx' : x ∈ pKs p := hx
  unfold pKs at hx'
  split at hx'
  ·rename_i h0
   simp at hx';subst hx'
   refine⟨List.ne_nil_of_length_pos h0,?_,fun t ht=>?_,?_,?_⟩
   ·exact(QfL (n:=pN p)).sublist (List.Sublist.map _ (List.filter_sublist))
   ·obtain ⟨h3, h4⟩ := List.mem_filter.1 (show t ∈ pT0 p from ht)
    have h5:=pT_lt t h3
    simp_all [mkC]
   ·grind
   grind
  ·cases hx'
end Go.AM.SO
namespace Go.AM.SO
open Go.Proofs Go.AM.SD Go.AM.SE
def stp (l:List Aut) (t:List Nat) (e:Nat):Nat->Option (List Nat)
 |0=>some t
 | k + 1 => match stp l t e k with
  |none=>none
  |some n=>match l[k]? with
   |none=>some n
   |some a=>if e∈a.al then(match stepA a.es (t.getD k 0) e with|some to=>some (n.set k to)|none=>none)else some n
def stepT (l:List Aut) (t:List Nat) (e:Nat):Option (List Nat):=stp l t e l.length
def Stp (l:List Aut) (t:List Nat) (e:Nat) (n:List Nat) (k:Nat):Prop:=
 n.length=t.length/\(∀i,k<=i->n[i]?=t[i]?)/\∀i a,i<k->l[i]?=some a->if e∈a.al then stepA a.es (t.getD i 0) e=n[i]? else n[i]?=t[i]?
theorem QeZ {l : List Aut} {t n : List Nat} {e : Nat} : ∀ {k : Nat}, k <= l.length -> l.length <= t.length -> (stp l t e k = some n ↔ Stp l t e n k)
  | 0, _, _ => by
    unfold stp Stp
    constructor
    · simp_all
    · rintro ⟨_, h, _⟩
      have:t=n:=List.ext_getElem? fun i=>(h i (Nat.zero_le _)).symm
      rw[this]
  | k + 1, hk, hl => by
    obtain⟨a,ha⟩:=Qag (l:=l) (i:=k) (by omega)
    have hkt:k<t.length:=by omega
    unfold stp
    rw[ha]
    constructor
    · intro h
      cases hm:stp l t e k with
      |none=>rw[hm]at h;cases h
      | some m =>
        rw[hm]at h
        dsimp only at h
        obtain⟨h1,h2,h3⟩:=(QeZ (n:=m) (by omega) hl).1 hm
        by_cases he:e∈a.al
        · rw [if_pos he] at h
          cases hs:stepA a.es (t.getD k 0) e with
          |none=>rw[hs]at h;cases h
          | some to =>
            rw[hs]at h;cases h
            refine⟨by simp_all,fun i hi=>by grind,fun i b hi hb=>?_⟩
            by_cases hik:i=k
            · simp_all
            · rw [List.getElem?_set_ne (by omega)]
              exact h3 i b (by omega) hb
        · rw [if_neg he] at h; cases h
          refine⟨h1,fun i hi=>h2 i (by omega),fun i b hi hb=>?_⟩
          by_cases hik:i=k
          · grind
          · exact h3 i b (by omega) hb
    · rintro ⟨h1, h2, h3⟩
      have hka:=h3 k a (Nat.lt_succ_self _) ha
      by_cases he:e∈a.al
      · rw [if_pos he] at hka
        have hS:Stp l t e (n.set k (t.getD k 0)) k:=by
          refine⟨by simp_all,fun i hi=>?_,fun i b hi hb=>?_⟩
          · grind
          · rw[List.getElem?_set_ne (by omega)];exact h3 i b (by omega) hb
        rw[(QeZ (n:=n.set k (t.getD k 0)) (by omega) hl).2 hS]
        simp_all
      · rw [if_neg he] at hka
        have hS:Stp l t e n k:=⟨h1,fun i hi=>by
          grind,fun i b hi hb=>h3 i b (by omega) hb⟩
        rw[(QeZ (n:=n) (by omega) hl).2 hS]
        simp_all
theorem Qe0 {l:List Aut} {t n:List Nat} {e:Nat} (hl:l.length<=t.length):stepT l t e=some n↔Stp l t e n l.length:=QeZ (Nat.le_refl _) hl
def pEv (l:List Aut) (i:Nat) (t:List Nat) (s:List (List Nat)×List Ed) (e:Nat):List (List Nat)×List Ed:=
 match stepT l t e with
 |none=>s
 |some n=>(if n∈s.1 then s.1 else s.1++[n],s.2++[(i,e,s.1.findIdx (· ==n))])
def pRow (l:List Aut) (ev:List Nat) (i:Nat) (t:List Nat) (s:List (List Nat)×List Ed):List (List Nat)×List Ed:=ev.foldl (pEv l i t) s
def pQ (l:List Aut) (ev:List Nat):Nat->Nat->List (List Nat)×List Ed->List (List Nat)×List Ed
 |0,_,s=>s
 |k+1,i,s=>match s.1[i]? with
  |some t=>pQ l ev k (i+1) (pRow l ev i t s)
  |none=>s
def orE (a b:Bool):Bool:=a||b
def evA (l:List Aut):List Nat:=l.foldl (fun out a=>mrg orE out a.al) []
def mkdT:List Aut->List Nat->Bool
 |[],_=>true
 |a::l,t=>a.ms.contains (t.headD 0)&&mkdT l t.tail
def box:List Aut->Nat
 |[]=>1
 |a::l=>a.n*box l
def sync0 (l:List Aut):List (List Nat)×List Ed:=pQ l (evA l) (box l+1) 0 ([List.replicate l.length 0],[])
def syncA (l:List Aut):Aut:=⟨evA l,(sync0 l).1.length,(List.range (sync0 l).1.length).filter fun i=>mkdT l ((sync0 l).1.getD i []),(sync0 l).2⟩
def InT (l:List Aut) (t:List Nat):Prop:=t.length=l.length/\∀i a,l[i]?=some a->t.getD i 0<a.n
def allT:List Aut->List (List Nat)
 |[]=>[[]]
 |a::l=>(List.range a.n).flatMap fun x=>(allT l).map (x:: ·)
theorem QkW:∀{l:List Aut} {t:List Nat},InT l t->t∈allT l
 |[],t,⟨h,_⟩=>by simp_all [allT]
 |a::l,[],⟨h,_⟩=>by simp at h
 |a::l,x::t,⟨h,h2⟩=>by
  unfold allT
  refine List.mem_flatMap.2 ⟨x,List.mem_range.2 (by simpa using h2 0 a rfl),List.mem_map.2 ⟨t,QkW ⟨by simpa using h,fun i b hb=>?_⟩,rfl⟩⟩
  simpa using h2 (i+1) b (by simpa using hb)
theorem QkX:∀(l:List Aut),(allT l).length=box l
 |[]=>rfl
 |a::l=>by
  unfold allT box
  rw[List.length_flatMap]
  simp only[List.length_map,QkX l]
  simp_all [List.map_const']
theorem Qji {α:Type} [DecidableEq α]:∀{l m:List α},l.Nodup->(∀x∈l,x∈m)->l.length<=m.length
 |[],m,_,_=>Nat.zero_le _
 |x::l,m,h,hm=>by
  rw[List.nodup_cons]at h
  have h1:=hm x (by simp)
  have h2:=Qji (l:=l) (m:=m.erase x) h.2 fun y hy=>(List.mem_erase_of_ne (fun(e:y=x)=>h.1 (e▸hy))).2 (hm y (by simp[hy]))
  grind
theorem QcR {l:List Aut} {T:List (List Nat)} (hn:T.Nodup) (hi:∀t∈T,InT l t):T.length<=box l:=by
 rw[<-QkX]
 exact Qji hn fun t ht=>QkW (hi t ht)
theorem QkY {l:List Aut} {k:Nat} (h:∀a∈l,a.n<=k) (hk:1<=k):box l<=k^l.length:=by
 induction l with
 |nil=>simp[box]
 |cons a l ih=>
  unfold box
  rw[List.length_cons,Nat.pow_succ,Nat.mul_comm]
  exact Nat.mul_le_mul (ih fun b hb=>h b (by simp[hb])) (h a (by simp))
theorem Qe1 {l:List Aut} (hw:∀a∈l,∀e∈a.es,e.1<a.n/\e.2.2<a.n) {t n:List Nat} {e:Nat} (ht:InT l t) (h:stepT l t e=some n):InT l n:=by
 obtain⟨h1,h2,h3⟩:=(Qe0 (Nat.le_of_eq ht.1.symm)).1 h
 refine⟨by rw[h1,ht.1],fun i a ha=>?_⟩
 have hi:i<l.length:=by
  grind
 have h4:=h3 i a hi ha
 by_cases he:e∈a.al
 ·rw [if_pos he] at h4
  obtain⟨x,hx⟩:=Qag (l:=n) (i:=i) (by rw[h1,ht.1];exact hi)
  rw[hx]at h4
  rw[List.getD_eq_getElem?_getD,hx]
  exact QeS (hw a (List.mem_of_getElem? ha)) h4
 ·rw [if_neg he] at h4
  rw[List.getD_eq_getElem?_getD,h4,<-List.getD_eq_getElem?_getD]
  exact ht.2 i a ha
structure PI (l:List Aut) (s:List (List Nat)×List Ed):Prop where
 nd:s.1.Nodup
 inT:∀t∈s.1,InT l t
theorem Qro {l:List Aut} (hw:∀a∈l,∀e∈a.es,e.1<a.n/\e.2.2<a.n) {i e:Nat} {t:List Nat} {s:List (List Nat)×List Ed} (ht:InT l t) (h:PI l s):PI l (pEv l i t s e):=by
 unfold pEv
 cases hs:stepT l t e with
 |none=>exact h
 | some n =>
  have hn:=Qe1 hw ht hs
  dsimp only
  by_cases hm:n∈s.1
  ·simp only[if_pos hm];exact⟨h.nd,h.inT⟩
  ·simp only [if_neg hm]
   refine⟨List.nodup_append.2 ⟨h.nd,by simp,fun x hx y hy=>by grind⟩,fun x hx=>?_⟩
   rcases List.mem_append.1 hx with hx|hx
   ·exact h.inT x hx
   simp_all
theorem QdD {l:List Aut} (hw:∀a∈l,∀e∈a.es,e.1<a.n/\e.2.2<a.n) {i:Nat} {t:List Nat} (ht:InT l t):∀{ev:List Nat} {s:List (List Nat)×List Ed},PI l s->PI l (pRow l ev i t s)
 |[],s,h=>h
 |e::ev,s,h=>QdD hw ht (ev:=ev) (Qro hw ht h)
theorem Qqy {l:List Aut} {i e:Nat} {t:List Nat} {s:List (List Nat)×List Ed}:s.1<+:(pEv l i t s e).1:=by
 grind [pEv]
theorem Qcw {l:List Aut} {i:Nat} {t:List Nat}:∀{ev:List Nat} {s:List (List Nat)×List Ed},s.1<+:(pRow l ev i t s).1
 |[],s=>List.prefix_refl _
 |e::ev,s=>List.IsPrefix.trans Qqy (Qcw (ev:=ev))
theorem pQ_ok {l:List Aut} {ev:List Nat} (hw:∀a∈l,∀e∈a.es,e.1<a.n/\e.2.2<a.n):∀{k i:Nat} {s:List (List Nat)×List Ed},PI l s->PI l (pQ l ev k i s)
 |0,_,_,h=>h
 |k+1,i,s,h=>by
  unfold pQ
  cases hs:s.1[i]? with
  |none=>exact h
  |some t=>exact pQ_ok hw (QdD hw (h.inT t (List.mem_of_getElem? hs)) h)
theorem QoD {l:List Aut} {ev:List Nat}:∀{k i:Nat} {s:List (List Nat)×List Ed},s.1<+:(pQ l ev k i s).1
 |0,_,_=>List.prefix_refl _
 |k+1,i,s=>by
  unfold pQ
  cases hs:s.1[i]? with
  |none=>exact List.prefix_refl _
  |some t=>exact List.IsPrefix.trans Qcw QoD
theorem Qe2 {l:List Aut} (h0:∀a∈l,0<a.n):PI l ([List.replicate l.length 0],[]):=by
 refine⟨by simp,fun t ht=>?_⟩
 simp at ht;subst ht
 refine⟨by simp,fun i a ha=>?_⟩
 grind
theorem Qev {l:List Aut} (h0:∀a∈l,0<a.n) (hw:∀a∈l,∀e∈a.es,e.1<a.n/\e.2.2<a.n):PI l (sync0 l):=pQ_ok hw (Qe2 h0)
theorem QpH {l:List Aut} (h0:∀a∈l,0<a.n) (hw:∀a∈l,∀e∈a.es,e.1<a.n/\e.2.2<a.n):(sync0 l).1.length<=box l:=QcR (Qev h0 hw).nd (Qev h0 hw).inT
end Go.AM.SO
namespace Go.AM.SU
open Go.Proofs
set_option maxHeartbeats 4000000
noncomputable section
def cf:YA.Cf:={always:=[38,185].map fun k=>(k,.pure)}
def s26:SFn:=⟨192,[.cell 2 (some 5)],
 (.seq (.region [Zz 1 (.box .dyn (.t 0)) [],
 Zz 2 (.alloc .dyn (.agg [.nilsl,.nilsl,.nilsl,.nilsl,.nilsl])) []] [] [0])
 (.seq (.region [Zf 17 0 1 [],
 Zw 18 5 17 [0],
 Zz 19 (.call .pure (.f 88) [(.t 18)]) [1],
 Zz 20 (.build [.nilsl,.nilsl,.nilsl,.nilsl,.nilsl] [(0,1,(.t 19))]) [2],
 Zz 3 (.alloc .dyn (.agg [.nilsl,.nilsl,.nilsl,.nilsl,.nilsl])) [],
 Zs 5 3 20 (Za [4,3,2] 5)] [] [17,18,19,20])
 (.seq (.region [Zz 4 (.alloc .dyn .nilsl) []] [] [])
 (.seq (.region [Zf 21 5 1 [],
 Zl 22 21 [0],
 Zz 23 (.bin .rem (.t 22) (.c (.int .u8 3))) [1],
 Zz 24 (.conv .i64 (.t 23)) [2],
 Zz 25 (.bin .add (.c (.int .i64 1)) (.t 24)) [3],
 Zm 5 25 (Za [4] 5)] [] [21,22,23,24,25])
 (.seq (.seq (.region [Zm 26 5 [],
 Zz 27 (.mov (.c (.int .i64 0))) []] [] [])
 (.block 0 (.loop (.seq (.region [Zb 28 .lss 27 26 []] [] [])
 (.seq (.cond (.t 28)
 .skip
 (.exit 0))
 (.seq (.block 1 (.seq (.region [Zm 29 27 [],
 Zm 6 29 [0,0]] [] [28,29])
 (.seq (.region [Zm 30 6 [],
 Zf 31 6 1 [],
 Zz 32 (.iaddr (some 3) 1 (.t 31) (.t 30)) [1,0],
 Zl 33 32 [2],
 Zz 34 (.call .pure (.f 89) [(.t 33)]) [3],
 Zm 7 34 (Za [4,4] 5)] [] [30,31,32,33,34])
 (.seq (.region [Zl 35 4 [],
 Zm 36 7 [],
 Zz 37 (.call .pure (.f 90) [(.t 35),(.t 36)]) [0,1],
 Zs 1 4 37 [2,2,0,1,2]] [] [35,36,37])
 (.region [Zf 38 1 3 [],
 Zl 39 38 [0],
 Zm 40 6 [],
 Zz 41 (.bin .add (.c (.int .i64 48)) (.t 40)) [2],
 Zz 42 (.conv .i32 (.t 41)) [3],
 Zz 43 (.convS (.t 42)) [4],
 Zz 44 (.bin .add (.c (.str [99])) (.t 43)) [5],
 Zm 45 7 [],
 Zm 46 6 [],
 Zf 47 9 1 [],
 Zz 48 (.iaddr (some 3) 27 (.t 47) (.t 46)) [9,8],
 Zw 49 27 48 [10],
 Zz 50 (.call .pure (.f 91) [(.t 45),(.t 49),(.c (.int .i64 3))]) [7,11],
 Zz 51 (.build [(.str []),.nilsl,(.int .i64 0),.nilsl,.nilsl] [(0,1,(.t 44)),(1,4,(.t 50))]) [6,12],
 Zz 52 (.bslice false .dyn 5 1 [(.str []),.nilsl,(.int .i64 0),.nilsl,.nilsl] [(0,5,(.t 51))]) [13],
 Zz 53 (.append .dyn 5 96 (.t 39) (.t 52)) [1,14,12],
 Zf 54 1 3 (Za [] 16),
 Zs 1 54 53 (Za [16,15,15] 16)] [] [6,7,38,39,40,41,42,43,44,45,46,47,48,49,50,51,52,53,54])))))
 (.region [Zz 55 (.bin .add (.t 27) (.c (.int .i64 1))) [],
 Zm 27 55 [0]] [] [55])))))))
 (.seq (.seq (.region [Zf 56 90 1 [],
 Zl 57 56 [0],
 Zz 58 (.bin .rem (.t 57) (.c (.int .u8 3))) [1],
 Zz 59 (.conv .i64 (.t 58)) [2],
 Zz 60 (.mov (.c (.int .i64 0))) []] [] [26,27,56,57,58])
 (.block 2 (.loop (.seq (.region [Zb 61 .lss 60 59 []] [] [])
 (.seq (.cond (.t 61)
 .skip
 (.exit 2))
 (.seq (.block 3 (.seq (.region [Zm 62 60 [],
 Zm 8 62 [0,0]] [] [61,62])
 (.seq (.region [Zm 63 8 [],
 Zf 64 91 1 [],
 Zz 65 (.iaddr (some 2) 1 (.t 64) (.t 63)) [1,0],
 Zl 66 65 [2],
 Zz 67 (.call .heap (.f 89) [(.t 66)]) [3],
 Zz 68 (.mkfn 92 [] [(.t 4)]) [],
 Zz 69 (.call .heap (.f 40) [(.t 67),(.t 68)]) [4,5,4],
 Zm 9 69 (Za [6,6] 7)] [] [63,64,65,66,67,68,69])
 (.region [Zf 70 2 3 [],
 Zl 71 70 [0],
 Zm 72 8 [],
 Zz 73 (.bin .add (.c (.int .i64 48)) (.t 72)) [2],
 Zz 74 (.conv .i32 (.t 73)) [3],
 Zz 75 (.convS (.t 74)) [4],
 Zz 76 (.bin .add (.c (.str [114])) (.t 75)) [5],
 Zm 77 9 [],
 Zm 78 8 [],
 Zf 79 93 1 [],
 Zz 80 (.iaddr (some 2) 27 (.t 79) (.t 78)) [9,8],
 Zw 81 27 80 [10],
 Zz 82 (.call .pure (.f 91) [(.t 77),(.t 81),(.c (.int .i64 3))]) [7,11],
 Zz 83 (.build [(.str []),.nilsl,(.int .i64 0),.nilsl,.nilsl] [(0,1,(.t 76)),(1,4,(.t 82))]) [6,12],
 Zz 84 (.bslice false .dyn 5 1 [(.str []),.nilsl,(.int .i64 0),.nilsl,.nilsl] [(0,5,(.t 83))]) [13],
 Zz 85 (.append .dyn 5 96 (.t 71) (.t 84)) [1,14,12],
 Zf 86 2 3 (Za [] 16),
 Zs 1 86 85 (Za [16,15,15] 16)] [] [8,9,70,71,72,73,74,75,76,77,78,79,80,81,82,83,84,85,86]))))
 (.region [Zz 87 (.bin .add (.t 60) (.c (.int .i64 1))) [],
 Zm 60 87 [0]] [] [87])))))))
 (.seq (.seq (.region [Zf 88 147 1 [],
 Zl 89 88 [0],
 Zv 90 89 [1],
 Zz 91 (.mov (.c (.int .i64 0))) []] [] [4,59,60,88])
 (.block 4 (.loop (.seq (.region [Zb 92 .lss 91 90 []] [] [])
 (.seq (.cond (.t 92)
 .skip
 (.exit 4))
 (.seq (.block 5 (.seq (.region [Zm 93 91 [],
 Zi 94 4 89 91 [],
 Zw 95 4 94 [1],
 Zz 11 (.alloc .dyn (.agg [(.int .u8 0),(.int .u8 0),(.int .u8 0),(.int .u8 0)])) [],
 Zm 10 93 [0,0,1,2,3],
 Zs 4 11 95 (Za [3,2,4] 5)] [] [92,93,94,95])
 (.seq (.seq (.region [Zm 96 10 [],
 Zz 97 (.bin .eql (.t 96) (.c (.int .i64 2))) [0]] [] [96])
 (.cond (.t 97)
 (.exit 4)
 .skip))
 (.seq (.region [Zm 98 10 [],
 Zz 99 (.bin .add (.c (.int .i64 48)) (.t 98)) [0],
 Zz 100 (.conv .i32 (.t 99)) [1],
 Zz 101 (.convS (.t 100)) [2],
 Zz 102 (.bin .add (.c (.str [101])) (.t 101)) [3],
 Zz 103 (.build [(.str []),.nilsl] [(0,1,(.t 102))]) [4],
 Zz 12 (.alloc .dyn (.agg [(.str []),.nilsl])) [],
 Zs 2 12 103 (Za [6,5] 7)] [] [10,97,98,99,100,101,102,103])
 (.seq (.seq (.region [Zf 104 1 3 [],
 Zl 105 104 [0],
 Zv 106 105 [1],
 Zz 107 (.mov (.c (.int .i64 0))) []] [] [104,105])
 (.block 6 (.loop (.seq (.region [Zb 108 .lss 107 106 []] [] [])
 (.seq (.cond (.t 108)
 .skip
 (.exit 6))
 (.seq (.block 7 (.seq (.region [Zm 109 107 [],
 Zm 13 109 [0,0]] [] [108,109])
 (.seq (.region [Zf 110 1 3 [],
 Zl 111 110 [0],
 Zm 112 13 [],
 Zi 113 5 111 112 [1,2],
 Zf 114 1 113 [3],
 Zf 115 1 114 [4],
 Zl 116 115 [5],
 Zm 14 116 (Za [6] 7)] [] [110,111,112,113,114,115,116])
 (.seq (.region [Zm 117 13 [],
 Zz 118 (.iaddr (some 4) 1 (.t 11) (.t 117)) [0],
 Zl 119 118 [1],
 Zz 120 (.conv .i64 (.t 119)) [2],
 Zm 121 14 [],
 Zz 122 (.bin .add (.t 121) (.c (.int .i64 2))) [4],
 Zb 123 .rem 120 122 [3,5],
 Zm 124 14 [],
 Zb 125 .lss 123 124 [6,7]] [] [117,118,119,120,121,122,123,124])
 (.cond (.t 125)
 (.region [Zf 126 1 12 [],
 Zl 127 126 [0],
 Zm 128 13 [],
 Zm 129 13 [],
 Zz 130 (.iaddr (some 4) 1 (.t 11) (.t 129)) [3],
 Zl 131 130 [4],
 Zz 132 (.conv .i64 (.t 131)) [5],
 Zm 133 14 [],
 Zz 134 (.bin .add (.t 133) (.c (.int .i64 2))) [7],
 Zb 135 .rem 132 134 [6,8],
 Zz 136 (.build [(.int .i64 0),(.int .i64 0)] [(0,1,(.t 128)),(1,1,(.t 135))]) [2,9],
 Zz 137 (.bslice false .dyn 2 1 [(.int .i64 0),(.int .i64 0)] [(0,2,(.t 136))]) [10],
 Zz 138 (.append .dyn 2 16 (.t 127) (.t 137)) [1,11],
 Zf 139 1 12 (Za [] 13),
 Zs 1 139 138 (Za [13,12,12] 13)] [] [13,14,125,126,127,128,129,130,131,132,133,134,135,136,137,138,139])
 .skip)))))
 (.region [Zz 140 (.bin .add (.t 107) (.c (.int .i64 1))) [],
 Zm 107 140 [0]] [] [13,14,125,140])))))))
 (.seq (.region [Zf 141 1 12 [],
 Zl 142 141 [0],
 Zv 143 142 [1],
 Zz 144 (.bin .gtr (.t 143) (.c (.int .i64 0))) [2]] [] [11,106,107,141,142,143])
 (.cond (.t 144)
 (.region [Zf 145 3 3 [],
 Zl 146 145 [0],
 Zw 147 2 12 [],
 Zz 148 (.bslice false .dyn 2 1 [(.str []),.nilsl] [(0,2,(.t 147))]) [2],
 Zz 149 (.append .dyn 2 40 (.t 146) (.t 148)) [1,3],
 Zf 150 3 3 (Za [] 5),
 Zs 1 150 149 (Za [5,4,4] 5)] [] [12,144,145,146,147,148,149,150])
 .skip)))))))
 (.region [Zz 151 (.bin .add (.t 91) (.c (.int .i64 1))) [],
 Zm 91 151 [0]] [] [12,144,151])))))))
 (.seq (.region [Zf 152 151 1 [],
 Zl 153 152 [0],
 Zz 154 (.conv .i64 (.t 153)) [1],
 Zz 155 (.bin .rem (.t 154) (.c (.int .i64 8))) [2],
 Zz 156 (.build [(.str []),.nilsl,(.int .i64 0)] [(0,1,(.c (.str [107]))),(2,1,(.t 155))]) [3],
 Zz 15 (.alloc .dyn (.agg [(.str []),.nilsl,(.int .i64 0)])) [],
 Zs 3 15 156 (Za [5,4] 6)] [] [89,90,91,152,153,154,155,156])
 (.seq (.seq (.region [Zm 157 5 [],
 Zz 158 (.mov (.c (.int .i64 0))) []] [] [5])
 (.block 8 (.loop (.seq (.region [Zb 159 .lss 158 157 []] [] [])
 (.seq (.cond (.t 159)
 .skip
 (.exit 8))
 (.seq (.block 9 (.seq (.region [Zm 160 158 [],
 Zm 16 160 [0,0]] [] [159,160])
 (.seq (.region [Zm 161 16 [],
 Zf 162 148 1 [],
 Zz 163 (.iaddr (some 3) 1 (.t 162) (.t 161)) [1,0],
 Zl 164 163 [2],
 Zz 165 (.bin .neq (.t 164) (.c (.int .i8 0))) [3]] [] [161,162,163,164])
 (.cond (.t 165)
 (.region [Zf 166 1 15 [],
 Zl 167 166 [0],
 Zm 168 16 [],
 Zm 169 16 [],
 Zf 170 148 1 [],
 Zz 171 (.iaddr (some 3) 1 (.t 170) (.t 169)) [4,3],
 Zl 172 171 [5],
 Zz 173 (.conv .i64 (.t 172)) [6],
 Zz 174 (.bin .rem (.t 173) (.c (.int .i64 4))) [7],
 Zz 175 (.build [(.int .i64 0),(.int .i64 0)] [(0,1,(.t 168)),(1,1,(.t 174))]) [2,8],
 Zz 176 (.bslice false .dyn 2 1 [(.int .i64 0),(.int .i64 0)] [(0,2,(.t 175))]) [9],
 Zz 177 (.append .dyn 2 16 (.t 167) (.t 176)) [1,10],
 Zf 178 1 15 (Za [] 12),
 Zs 1 178 177 (Za [12,11,11] 12)] [] [16,165,166,167,168,169,170,171,172,173,174,175,176,177,178])
 .skip))))
 (.region [Zz 179 (.bin .add (.t 158) (.c (.int .i64 1))) [],
 Zm 158 179 [0]] [] [16,165,179])))))))
 (.seq (.region [Zf 180 1 15 [],
 Zl 181 180 [0],
 Zz 182 (.call .heap (.f 93) [(.t 181),(.f 94)]) [1],
 Zf 183 1 15 [0,1,2],
 Zs 1 183 182 [3,2,2,0,1,2]] [] [1,157,158,180,181,182,183])
 (.seq (.seq (.region [Zf 184 1 15 [],
 Zl 185 184 [0],
 Zv 186 185 [1],
 Zz 187 (.bin .gtr (.t 186) (.c (.int .i64 0))) [2]] [] [184,185,186])
 (.cond (.t 187)
 (.region [Zw 188 3 15 [],
 Zz 189 (.bslice false .dyn 3 1 [(.str []),.nilsl,(.int .i64 0)] [(0,3,(.t 188))]) [0],
 Zf 190 4 3 [0,1],
 Zs 1 190 189 [2,1,0,1]] [] [15,187,188,189,190])
 .skip))
 (.seq (.region [Zw 191 5 3 [],
 Zs 5 2 191 [0,0]] [] [3,15,187,191])
 .ret))))))))))))⟩
def s40:SFn:=by
 refine(?f:YA.Yt Tryz.prog cf 40 [[4],[8,9,10],[11],[0,1,5,12,13],[4,12,14,15],[16,17,18],[19,22,23,24,25],[26,27,28],[7,29,30,31,32,33],[34,35],[7,29,20,21],[1,6,36,37,38],[0,5,39,40,41]]) ?s ?h
 case h=>exact YA.rr
 exact fun s _=>s
def s91:SFn:=by
 refine(?f:YA.Yt Tryz.prog cf 91 [[1],[2,7,8,9,10,11,12],[0,4,13,14,15]]) ?s ?h
 case h=>exact YA.rr
 exact fun s _=>s
def s92:SFn:=by
 refine(?f:YA.Yt Tryz.prog cf 92 [[3],[0,1,4,5,6,7]]) ?s ?h
 case h=>exact YA.rr
 exact fun s _=>s
def s93:SFn:=by
 refine(?f:YA.Yt Tryz.prog cf 93 [[4],[8,9,10],[11],[0,1,5,12,13],[4,12,14,15],[16,17,18],[19,22,23,24,25],[26,27,28],[7,29,30,31,32,33],[34,35],[7,29,20,21],[1,6,36,37,38],[0,5,39,40,41]]) ?s ?h
 case h=>exact YA.rr
 exact fun s _=>s
def s94:SFn:=by
 refine(?f:YA.Yt Tryz.prog cf 94 [[0,2],[1,3,4,5]]) ?s ?h
 case h=>exact YA.rr
 exact fun s _=>s
def s110:SFn:=by
 refine(?f:YA.Yt Tryz.prog cf 110 [[4],[6],[],[9,10],[11,12,13,14,15],[0,1,7,8,5,16,17],[4,5,16,18],[0,1,7,8]]) ?s ?h
 case h=>exact YA.rr
 exact fun s _=>s
def s186:SFn:=by
 refine(?f:YA.Yt Tryz.prog cf 186 [[4],[6],[],[9,10],[11,12,13,14,15],[0,1,7,8,5,16,17],[4,5,16,18],[0,1,7,8]]) ?s ?h
 case h=>exact YA.rr
 exact fun s _=>s
theorem ok26:okFn Tryz.prog 26 s26=true:=by kernel_rfl
theorem ok40:okFn Tryz.prog 40 s40=true:=by kernel_rfl
theorem ok91:okFn Tryz.prog 91 s91=true:=by kernel_rfl
theorem ok92:okFn Tryz.prog 92 s92=true:=by kernel_rfl
theorem ok93:okFn Tryz.prog 93 s93=true:=by kernel_rfl
theorem ok94:okFn Tryz.prog 94 s94=true:=by kernel_rfl
theorem ok110:okFn Tryz.prog 110 s110=true:=by kernel_rfl
theorem ok186:okFn Tryz.prog 186 s186=true:=by kernel_rfl
end
end Go.AM.SU
namespace Go.AM.SU
open Go.Proofs Go.AM.SD Go.AM.SE
theorem not92 (A:List Nat) (x:Nat) (hA:A.length<=1000000):PSpec Tryz.prog 92 [.int .i64 (x:Int),.fptr [sliN A]] (.bool (!decide (x∈A))):=by
 refine PSpec.Qal 64 ok92 rfl (by simp only[noRefs,noRef,Qae];rfl) rfl ?_
 have h:=contains62 (nz A) x (by simp;omega)
 have e:decide ((x:Int)∈nz A)=decide (x∈A):=by
  refine decide_eq_decide.2 ⟨fun h=>?_,fun h=>List.mem_map.2 ⟨x,h,rfl⟩⟩
  obtain⟨a,h1,h2⟩:=List.mem_map.1 h
  have:a=x:=by omega
  exact this▸h1
 rw[e,Qb2]at h
 simp(disch:=first|omega|(simp only[lenW]<;>omega)) only[s92,Bool.not_eq_true,wW,wV,simprocAttr]
 refine cp h ?_
 simp(disch:=first|omega|(simp only[lenW]<;>omega)) only[Bool.not_eq_true,wW,wV,simprocAttr]
 exact⟨.inr trivial,_,rfl,rfl⟩
def fstN (A l:List Nat):Int:=if l.all (fun x=>decide (x∈A))then-1 else(l.findIdx (fun x=> !decide (x∈A)):Int)
theorem cpc {P:Program} {N:NM} {r:List SOper} {dead:List Nat} {fs:List Fr} {n:Nat} {T:Tmps} {h:Heap} {Q:QC} {d:Option Nat} {f:Nat} {args a c:List AV} {v:AV} (hp:PSpec P f (a++args++c) v) (k:wR P N r dead fs (n+1) (putD T d v) h Q):wCall P N .heap (.fn f a c) args d r dead fs n T h Q:=⟨v,h,hp.toH h,k⟩
theorem chc {P:Program} {N:NM} {r:List SOper} {dead:List Nat} {fs:List Fr} {n:Nat} {T:Tmps} {h h1:Heap} {Q:QC} {d:Option Nat} {f:Nat} {args a c:List AV} {v:AV} (hp:HSpec P f (a++args++c) h v h1) (k:wR P N r dead fs (n+1) (putD T d v) h1 Q):wCall P N .heap (.fn f a c) args d r dead fs n T h Q:=⟨v,h1,hp,k⟩
theorem _root_.Go.AM.au10 {p:Prop} (h:p:=by repeat' (first|exact RB.nil|(refine RnL.same ?_;first|rfl|(simp only[noRef,noRefs,Qai,Bool.and_self,Bool.and_true,Bool.true_and,Qae,Qau,Qab];done))|exact RnM.keyM rfl|exact RnL.nil|exact(True.intro:RnM _ _ _ [] [])|refine RnL.cons ?_ ?_|(refine Rn.same ?_;first|rfl|(simp only[noRef,noRefs,Qai,Bool.and_self,Bool.and_true,Bool.true_and,Qae,Qau,Qab];done))|exact Rn.x1 rfl rfl|exact Rn.x2 rfl rfl|exact Rn.x3 rfl rfl|exact Rn.x4 rfl rfl|exact Rn.x5 rfl|exact Rn.x6 rfl|exact Rn.x7 rfl|refine RB.newnil rfl rfl ?_|refine RB.cells rfl rfl rfl ?_ ?_|refine RB.map rfl rfl rfl ?_ ?_|refine RB.cellsB rfl rfl ?_ ?_|refine RB.mapB rfl rfl ?_ ?_)):p:=h
theorem index110 (A l : List Nat) (hA : A.length <= 1000000) (hl : l.length <= 1000000) : PSpec Tryz.prog 110 [sliN l, .fn 92 [] [.fptr [sliN A]]] (.int .i64 (fstN A l)) := by
  refine PSpec.Qal 64 ok110 rfl (by simp only[noRefs,noRef,Qae];rfl) rfl ?_
  simp(disch:=first|omega|(simp only[lenW]<;>omega)) only[s110,Bool.not_eq_true,wW,wV,simprocAttr]
  refine QaK 100 (fun i:Nat=>[(0,sliN l),(1,.fn 92 [] [.fptr [sliN A]]),(7,.int .i64 l.length),(8,.int .i64 i)]) (fun _=>[]) (fun i=>i<=l.length/\∀(j:Nat) y,j<i->l[j]?=some y->y∈A) (fun i=>l.length-i) 0 ⟨[],rfl,au0,au10,au9⟩ ⟨Nat.zero_le _,fun j y hj=>absurd hj (Nat.not_lt_zero _)⟩ ?_
  rintro i ⟨hi,hb⟩
  by_cases hlt:i<l.length
  · obtain ⟨x, hx⟩ := Qag hlt
    have hn:=not92 A x hA
    by_cases h0:x∈A
    · have e : (!decide (x ∈ A)) = false := by simp [h0]
      rw[e]at hn
      simp(disch:=first|omega|(simp only[lenW]<;>omega)) only[hlt,Qaz hx,Bool.not_eq_true,wW,wV,simprocAttr]
      refine cpc hn ?_
      simp(disch:=first|omega|(simp only[lenW]<;>omega)) only[Bool.not_eq_true,wW,wV,simprocAttr]
      refine⟨i+1,by omega,⟨by omega,fun j y hj hy=>?_⟩,⟨[],rfl,au0,au10,au9⟩⟩
      by_cases e:j=i
      · subst e;rw[hx]at hy;cases hy;exact h0
      · exact hb j y (by omega) hy
    · have e : (!decide (x ∈ A)) = true := by simp [h0]
      rw[e]at hn
      simp(disch:=first|omega|(simp only[lenW]<;>omega)) only[hlt,Qaz hx,Bool.not_eq_true,wW,wV,simprocAttr]
      refine cpc hn ?_
      simp(disch:=first|omega|(simp only[lenW]<;>omega)) only[Bool.not_eq_true,wW,wV,simprocAttr]
      refine⟨.inr trivial,_,rfl,?_⟩
      have h1:¬l.all (fun x=>decide (x∈A))=true:=by
        intro h;exact h0 (by simpa using List.all_eq_true.1 h x (List.mem_of_getElem? hx))
      have h2:l.findIdx (fun x=> !decide (x∈A))=i:=by
        rw[List.findIdx_eq hlt]
        refine⟨by rw[List.getElem?_eq_getElem hlt]at hx;cases hx;simp[h0],fun j hj=>?_⟩
        have:=hb j l[j] hj (List.getElem?_eq_getElem (by omega))
        simpa using this
      unfold fstN
      rw[if_neg h1,h2];rfl
  · have h1 : l.all (fun x => decide (x ∈ A)) = true := by
      rw[List.all_eq_true]
      intro x hx
      obtain⟨j,hj,hjl⟩:=List.getElem_of_mem hx
      simpa using hb j x (by omega) (by rw[List.getElem?_eq_getElem hj,hjl])
    simp(disch:=first|omega|(simp only[lenW]<;>omega)) only[hlt,Bool.not_eq_true,wW,wV,simprocAttr]
    refine⟨.inr trivial,_,rfl,?_⟩
    unfold fstN
    rw[if_pos h1];rfl
theorem Qel {cs vs:List AV} {off:Nat} (h:off<cs.length):putR cs off vs=cs.take off++vs++cs.drop (off+vs.length):=by
 unfold putR
 split
 ·rename_i v
  rw[List.set_eq_take_append_cons_drop,if_pos h];simp
 ·rfl
theorem QkZ {P:Program} {N:NM} {d:Option Nat} {r:List SOper} {dead:List Nat} {fs:List Fr} {n:Nat} {T:Tmps} {h:Heap} {Q:QC} {b g off len sz:Nat} {cs zero:List AV} (hb:h.get b=some (.cells g cs)) (h0:0<len) (hl:off+len*sz<=cs.length) (hz:zero.length=sz) (ho:zero.all AV.one=true) (hlim:b<lim)
  (hk:wR P N r dead fs (n+1) (putD T d .any) (h.set b (.cells g (putR cs off (List.replicate len zero).flatten))) Q):wM P N (aClear sz zero (.sl b g off len sz)) d r dead fs n T h Q:=by
 obtain⟨k,rfl⟩:∃k,len=k+1:=⟨len-1,by omega⟩
 refine⟨_,_,?_,hk⟩
 have hg:Nat.beq g g=true:=by simp
 have hlim2:Nat.blt b lim=true:=by simpa using hlim
 simp only[aClear,if_true,HM.cells,HM.run,hb,hg,cond_true]
 rw[if_pos ⟨hl,hz,ho⟩]
 simp only[HM.run,hlim2,cond_true]
def fltN (A l:List Nat):List Nat:=l.filter fun x=>decide (x∈A)
theorem Qk0 {A l:List Nat} {j v:Nat} (h:l[j]?=some v):fltN A (l.take (j+1))=if v∈A then fltN A (l.take j)++[v]else fltN A (l.take j):=by
 unfold fltN
 rw[List.take_add_one,h,Option.toList,List.filter_append]
 by_cases hv:v∈A<;>simp[hv]
def delL (A l:List Nat):List Nat:=fltN A l++List.replicate (l.length-(fltN A l).length) 0
theorem Qqz {A l:List Nat} (h:l.all (fun x=>decide (x∈A))=true):fltN A l=l:=by
 unfold fltN
 exact List.filter_eq_self.2 fun x hx=>List.all_eq_true.1 h x hx
theorem QpI {k:Nat}:(List.replicate k [AV.int .i64 0]).flatten=ints (nz (List.replicate k 0)):=by
 induction k with
 |zero=>rfl
 |succ k ih=>rw[List.replicate_succ,List.flatten_cons,ih];rfl
theorem QoE {l:List Nat} {i:Nat}:(ints (nz l)).take i=ints (nz (l.take i)):=by simp[ints,nz,List.map_take]
theorem QmA {l:List Nat} {i x:Nat} (h:l[i]?=some x):(ints (nz l))[i]?=some (.int .i64 (x:Int)):=by simp[ints,h]
theorem del40 (A l : List Nat) (hA : A.length <= 1000000) (hl : l.length <= 1000000) :
    HSpec Tryz.prog 40 [.sl 98 0 0 l.length 1,.fn 92 [] [.ptr 75 0 0]] (hp [(75,.cells 0 [sliN A]),(98,.cells 0 (ints (nz l)))]) (.sl 98 0 0 (fltN A l).length 1) (hp [(75,.cells 0 [sliN A]),(98,.cells 0 (ints (nz (delL A l))))]):=by
  refine HSpec.Qmt (m:=99) 100 ok40 rfl rfl ?_
  have hn:(ints (nz l)).length=l.length*1:=by simp[ints]
  simp(disch:=first|omega|(simp only[lenW]<;>omega)) only[s40,Bool.not_eq_true,wW,wV,simprocAttr]
  refine chc (HSpec.lend (FrzL.cons (FrzTo.all gg hn) (FrzL.cons (FrzTo.fn FrzL.nil (FrzL.cons (FrzTo.ptr (g:=0) (cs:=[sliN A]) gg (FrzL.cons (FrzTo.same _) FrzL.nil)) FrzL.nil)) FrzL.nil)) (index110 A l hA hl) rfl) ?_
  by_cases hall:l.all (fun x=>decide (x∈A))=true
  · have e1 : fstN A l = -1 := if_pos hall
    simp(disch:=first|omega|(simp only[lenW]<;>omega)) only[e1,Bool.not_eq_true,wW,wV,simprocAttr]
    refine⟨.inr trivial,_,rfl,?_⟩
    unfold delL;rw[Qqz hall,Nat.sub_self,List.replicate_zero,List.append_nil]
    exact⟨[(75,.nil),(98,.nil)],rfl,au0,au10,au9⟩
  have e1:fstN A l=(l.findIdx (fun x=> !decide (x∈A)):Int):=if_neg hall
  have hex:∃x∈l,(!decide (x∈A))=true:=by
    have:¬∀x∈l,decide (x∈A)=true:=fun h=>hall (List.all_eq_true.2 h)
    obtain⟨x,hx⟩:=Classical.not_forall.1 this
    obtain⟨hx,hy⟩:=Classical.not_imp.1 hx
    exact⟨x,hx,by simpa using hy⟩
  have hi0:l.findIdx (fun x=> !decide (x∈A))<l.length:=List.findIdx_lt_length_of_exists hex
  obtain⟨i0,hI⟩:∃i0,i0=l.findIdx (fun x=> !decide (x∈A)):=⟨_,rfl⟩
  rw[<-hI]at e1 hi0
  have hv0:l[i0]∉A:=by
    have:=List.findIdx_getElem (w:=by rw[<-hI];exact hi0) (xs:=l) (p:=fun x=> !decide (x∈A))
    simp only[<-hI]at this
    simpa using this
  have hlow:fltN A (l.take i0)=l.take i0:=by
    unfold fltN
    refine List.filter_eq_self.2 fun x hx=>?_
    obtain⟨j,hj,rfl⟩:=List.getElem_of_mem hx
    rw[List.length_take]at hj
    have:=List.not_of_lt_findIdx (xs:=l) (p:=fun x=> !decide (x∈A)) (i:=j) (by rw[<-hI];omega)
    rw[List.getElem_take]
    simpa using this
  have hst:fltN A (l.take (i0+1))=l.take i0:=by
    rw[Qk0 (List.getElem?_eq_getElem hi0),if_neg hv0,hlow]
  have hne:¬(i0:Int)= -1:=by omega
  simp(disch:=first|omega|(simp only[lenW]<;>omega)) only[e1,hne,Bool.not_eq_true,wW,wV,simprocAttr]
  refine QaK 110 (fun t:Nat×Nat×List Nat=>[(0,.sl 98 0 0 l.length 1),(1,.fn 92 [] [.ptr 75 0 0]),(5,.int .i64 t.2.1),(6,.int .i64 t.1)])
    (fun t=>[(75,.cells 0 [sliN A]),(98,.cells 0 (ints (nz t.2.2)))]) (fun t=>t.1<=l.length/\t.2.1<t.1/\t.2.2.length=l.length/\t.2.2.take t.2.1=fltN A (l.take t.1)/\t.2.2.drop t.1=l.drop t.1) (fun t=>l.length-t.1)
    (i0+1,i0,l) ⟨[(75,.nil),(98,.nil)],rfl,au0,au10,au9⟩ ⟨by dsimp only;omega,by dsimp only;omega,rfl,hst.symm,rfl⟩ ?_
  rintro⟨j,i,C⟩ ⟨hj,hij,hC,hT,hD⟩
  dsimp only at hj hij hC hT hD⊢
  by_cases hlt:j<l.length
  · obtain ⟨v, hv⟩ := Qag hlt
    have hvC:C[j]?=some v:=by
      have:(C.drop j)[0]?=(l.drop j)[0]?:=by rw[hD]
      simpa[hv]using this
    have hs:=Qk0 (A:=A) hv
    have hn2:=not92 A v hA
    by_cases hm:v∈A
    · have e2 : (!decide (v ∈ A)) = false := by simp [hm]
      rw[e2]at hn2
      rw[if_pos hm]at hs
      simp(disch:=first|omega|(simp only[lenW]<;>omega)) only[hlt,hC,QmA hvC,Bool.not_eq_true,wW,wV,simprocAttr]
      refine chc (HSpec.lend (FrzL.cons (FrzTo.same _) (FrzL.cons (FrzTo.ptr (g:=0) (cs:=[sliN A]) gg (FrzL.cons (FrzTo.same _) FrzL.nil)) FrzL.nil)) hn2 rfl) ?_
      have hil:i<l.length:=by omega
      have hset:(ints (nz C)).set i (.int .i64 (v:Int))=ints (nz (C.set i v)):=by simp[ints,nz,List.map_set]
      have hil1:i+1<=(ints (nz C)).length:=by simp[ints,hC];omega
      have hil2:i+1<=l.length:=by omega
      simp(disch:=first|omega|(simp only[lenW]<;>omega)) only[hil,hC,hset,hil1,hil2,Bool.not_eq_true,wW,wV,simprocAttr]
      refine⟨(j+1,i+1,C.set i v),by dsimp only;omega,⟨by dsimp only;omega,by dsimp only;omega,by simp[hC],?_,?_⟩,?_⟩
      · dsimp only
        rw[hs,<-hT,List.take_add_one,List.getElem?_set_self (by omega),List.take_set,List.set_eq_of_length_le (by rw[List.length_take];omega)];rfl
      · dsimp only
        rw[List.drop_set_of_lt (by omega)]
        have:=congrArg (List.drop 1) hD
        simpa[List.drop_drop]using this
      · exact⟨[(75,.nil),(98,.nil)],rfl,au0,au10,au9⟩
    · have e2 : (!decide (v ∈ A)) = true := by simp [hm]
      rw[e2]at hn2
      rw[if_neg hm]at hs
      simp(disch:=first|omega|(simp only[lenW]<;>omega)) only[hlt,hC,QmA hvC,Bool.not_eq_true,wW,wV,simprocAttr]
      refine chc (HSpec.lend (FrzL.cons (FrzTo.same _) (FrzL.cons (FrzTo.ptr (g:=0) (cs:=[sliN A]) gg (FrzL.cons (FrzTo.same _) FrzL.nil)) FrzL.nil)) hn2 rfl) ?_
      simp(disch:=first|omega|(simp only[lenW]<;>omega)) only[Bool.not_eq_true,wW,wV,simprocAttr]
      refine⟨(j+1,i,C),by dsimp only;omega,⟨by dsimp only;omega,by dsimp only;omega,hC,by rw[hs];exact hT,?_⟩,?_⟩
      · dsimp only
        have:=congrArg (List.drop 1) hD
        simpa[List.drop_drop]using this
      · exact⟨[(75,.nil),(98,.nil)],rfl,au0,au10,au9⟩
  · have ej : j = l.length := by omega
    subst ej
    rw[List.take_length]at hT
    have hil:(i:Int)<=(l.length:Int):=by omega
    simp(disch:=first|omega|(simp only[lenW]<;>omega)) only[hlt,hil,Bool.not_eq_true,wW,wV,simprocAttr]
    refine QkZ gg (by omega) (by simp[ints,hC];omega) rfl rfl (by decide) ?_
    simp(disch:=first|omega|(simp only[lenW]<;>omega)) only[hil,Bool.not_eq_true,wW,wV,simprocAttr]
    refine⟨.inr trivial,_,rfl,?_⟩
    have hfl:(fltN A l).length=i:=by rw[<-hT,List.length_take];omega
    have hput:putR (ints (nz C)) i (List.replicate (l.length-i) [AV.int .i64 0]).flatten=ints (nz (delL A l)):=by
      rw[Qel (by simp[ints,hC];omega),QpI,QoE,hT]
      unfold delL
      rw[hfl,QaI,QaB,List.drop_of_length_le (by simp[ints,hC];omega),List.append_nil]
    rw[hfl,hput]
    exact⟨[(75,.nil),(98,.nil)],rfl,au0,au10,au9⟩
end Go.AM.SU
namespace Go.AM.SU
open Go.Proofs Go.AM.SD Go.AM.SE Go.AM.SO
theorem QaG (l:List (Nat×Int)):noRefs (l.flatMap teC)=true:=QaV (fun _=>rfl) l
theorem Qcr (l:List (Nat×Int)):(l.flatMap teC).length=l.length*2:=Qbi (k:=2) (fun _=>rfl) l
theorem QcH {l:List (Nat×Int)} {i:Nat} {x:Nat×Int} (h:l[i]?=some x):(l.flatMap teC).drop (i*2)= .int .i64 (x.1:Int):: .int .i64 x.2::(l.drop (i+1)).flatMap teC:=QbB (f:=teC) (k:=2) (fun _=>rfl) h
theorem QoF {x:Nat×Int}:∀{l:List (Nat×Int)} {i:Nat},i<l.length->(l.flatMap teC).take (i*2)++[.int .i64 (x.1:Int),.int .i64 x.2]++(l.flatMap teC).drop (i*2+2)=(l.set i x).flatMap teC
 |[],i,h=>by simp at h
 |a::l,0,h=>by simp[List.flatMap_cons,teC]
 |a::l,i+1,h=>by
  have:=QoF (x:=x) (l:=l) (i:=i) (by simpa using h)
  rw[List.set_cons_succ,List.flatMap_cons,List.flatMap_cons,<-this]
  rw[show(i+1)*2=i*2+2 by omega]
  simp[teC]
abbrev teV (x:Nat×Int):AV:= .agg [.int .i64 (x.1:Int),.int .i64 x.2]
theorem zero94 (x:Nat×Int):PSpec Tryz.prog 94 [teV x] (.bool (decide (x.2=0))):=by
 refine PSpec.Qal 64 ok94 rfl rfl rfl ?_
 simp(disch:=first|omega|(simp only[lenW]<;>omega)) only[s94,Bool.not_eq_true,wW,wV,simprocAttr]
 exact⟨.inr trivial,_,rfl,rfl⟩
def fst0 (l:List (Nat×Int)):Int:=if l.all (fun x=> !decide (x.2=0))then-1 else(l.findIdx (fun x=>decide (x.2=0)):Int)
theorem _root_.Go.AM.au11 {p:Prop} (h:p:=by repeat' (first|exact RB.nil|(refine RnL.same ?_;first|rfl|(simp only[noRef,noRefs,Qai,Bool.and_self,Bool.and_true,Bool.true_and,Qae,Qau,Qab,QaG];done))|exact RnM.keyM rfl|exact RnL.nil|exact(True.intro:RnM _ _ _ [] [])|refine RnL.cons ?_ ?_|(refine Rn.same ?_;first|rfl|(simp only[noRef,noRefs,Qai,Bool.and_self,Bool.and_true,Bool.true_and,Qae,Qau,Qab,QaG];done))|exact Rn.x1 rfl rfl|exact Rn.x2 rfl rfl|exact Rn.x3 rfl rfl|exact Rn.x4 rfl rfl|exact Rn.x5 rfl|exact Rn.x6 rfl|exact Rn.x7 rfl|refine RB.newnil rfl rfl ?_|refine RB.cells rfl rfl rfl ?_ ?_|refine RB.map rfl rfl rfl ?_ ?_|refine RB.cellsB rfl rfl ?_ ?_|refine RB.mapB rfl rfl ?_ ?_)):p:=h
theorem _root_.Go.AM.au12 {p:Prop} (h:p:=by repeat (first|exact RT.nil|(refine RT.cons ?_ ?_; · (first|exact Rn.any|exact Rn.x1 rfl rfl|exact Rn.x2 rfl rfl|exact Rn.x3 rfl rfl|exact Rn.x4 rfl rfl|exact Rn.x5 rfl|exact Rn.x6 rfl|exact Rn.x7 rfl|(refine Rn.slot ?_ ?_;(first|rfl|(rw[Int.natCast_add];rfl));(first|rfl|(simp only[noRef,noRefs,Qai,Bool.and_self,Bool.and_true,Bool.true_and,Qae,Qau,Qab,QaG];done)))|(refine Rn.fn ?_ ?_<;>(repeat' (first|exact RnL.nil|refine RnL.cons ?_ ?_|exact Rn.same rfl|exact Rn.x6 rfl|exact Rn.x2 rfl rfl|exact Rn.x5 rfl|exact Rn.x1 rfl rfl))))))):p:=h
theorem index186 (l : List (Nat × Int)) (hl : l.length <= 1000000) : PSpec Tryz.prog 186 [tes l, .fn 94 [] []] (.int .i64 (fst0 l)) := by
  refine PSpec.Qal 64 ok186 rfl (by simp only[noRefs,noRef,QaG];rfl) rfl ?_
  have hln:=Qcr l
  simp(disch:=first|omega|(simp only[lenW]<;>omega)) only[s186,Bool.not_eq_true,wW,wV,simprocAttr]
  refine QaK 100 (fun i:Nat=>[(0,tes l),(1,.fn 94 [] []),(7,.int .i64 l.length),(8,.int .i64 i)]) (fun _=>[]) (fun i=>i<=l.length/\∀(j:Nat) y,j<i->l[j]?=some y->y.2≠0) (fun i=>l.length-i) 0 ⟨[],rfl,au0,au11,au12⟩ ⟨Nat.zero_le _,fun j y hj=>absurd hj (Nat.not_lt_zero _)⟩ ?_
  rintro i ⟨hi,hb⟩
  by_cases hlt:i<l.length
  · obtain ⟨x, hx⟩ := Qag hlt
    have hn:=zero94 x
    by_cases h0:x.2=0
    · have e : decide (x.2 = 0) = true := by simp [h0]
      rw[e]at hn
      simp(disch:=first|omega|(simp only[lenW]<;>omega)) only[hlt,QcH hx,Bool.not_eq_true,wW,wV,simprocAttr]
      refine cpc hn ?_
      simp(disch:=first|omega|(simp only[lenW]<;>omega)) only[Bool.not_eq_true,wW,wV,simprocAttr]
      refine⟨.inr trivial,_,rfl,?_⟩
      have h1:¬l.all (fun x=> !decide (x.2=0))=true:=by
        intro h;have:=List.all_eq_true.1 h x (List.mem_of_getElem? hx);simp[h0]at this
      have h2:l.findIdx (fun x=>decide (x.2=0))=i:=by
        rw[List.findIdx_eq hlt]
        refine⟨by rw[List.getElem?_eq_getElem hlt]at hx;cases hx;simp[h0],fun j hj=>?_⟩
        have:=hb j l[j] hj (List.getElem?_eq_getElem (by omega))
        simpa using this
      unfold fst0
      rw[if_neg h1,h2];rfl
    · have e : decide (x.2 = 0) = false := by simp [h0]
      rw[e]at hn
      simp(disch:=first|omega|(simp only[lenW]<;>omega)) only[hlt,QcH hx,Bool.not_eq_true,wW,wV,simprocAttr]
      refine cpc hn ?_
      simp(disch:=first|omega|(simp only[lenW]<;>omega)) only[Bool.not_eq_true,wW,wV,simprocAttr]
      refine⟨i+1,by omega,⟨by omega,fun j y hj hy=>?_⟩,⟨[],rfl,au0,au11,au12⟩⟩
      by_cases e:j=i
      · subst e;rw[hx]at hy;cases hy;exact h0
      · exact hb j y (by omega) hy
  · have h1 : l.all (fun x => !decide (x.2 = 0)) = true := by
      rw[List.all_eq_true]
      intro x hx
      obtain⟨j,hj,hjl⟩:=List.getElem_of_mem hx
      simpa using hb j x (by omega) (by rw[List.getElem?_eq_getElem hj,hjl])
    simp(disch:=first|omega|(simp only[lenW]<;>omega)) only[hlt,Bool.not_eq_true,wW,wV,simprocAttr]
    refine⟨.inr trivial,_,rfl,?_⟩
    unfold fst0
    rw[if_pos h1];rfl
def flt0 (l:List (Nat×Int)):List (Nat×Int):=l.filter fun t=> !(decide (t.2=0))
theorem Qjj {l:List (Nat×Int)} {j:Nat} {v:Nat×Int} (h:l[j]?=some v):flt0 (l.take (j+1))=if v.2=0 then flt0 (l.take j)else flt0 (l.take j)++[v]:=by
 unfold flt0
 rw[List.take_add_one,h,Option.toList,List.filter_append]
 by_cases hv:v.2=0<;>simp[hv]
def delT (l:List (Nat×Int)):List (Nat×Int):=flt0 l++List.replicate (l.length-(flt0 l).length) (0,0)
theorem QpJ {l:List (Nat×Int)} (h:l.all (fun x=> !decide (x.2=0))=true):flt0 l=l:=by
 unfold flt0
 exact List.filter_eq_self.2 fun x hx=>List.all_eq_true.1 h x hx
theorem QoG {k:Nat}:(List.replicate k [AV.int .i64 0,AV.int .i64 0]).flatten=(List.replicate k ((0,0):Nat×Int)).flatMap teC:=by
 induction k with
 |zero=>rfl
 |succ k ih=>rw[List.replicate_succ,List.flatten_cons,ih];rfl
theorem Qii:∀{l:List (Nat×Int)} {i:Nat},(l.flatMap teC).take (i*2)=(l.take i).flatMap teC
 |[],i=>by simp
 |a::l,0=>by simp
 |a::l,i+1=>by
  rw[List.flatMap_cons,List.take_succ_cons,List.flatMap_cons,<-Qii,Nat.succ_mul]
  simp[teC]
theorem del93 (l : List (Nat × Int)) (hl : l.length <= 1000000) :
    HSpec Tryz.prog 93 [.sl 97 0 0 l.length 2,.fn 94 [] []] (hp [(97,.cells 0 (l.flatMap teC))]) (.sl 97 0 0 (flt0 l).length 2) (hp [(97,.cells 0 ((delT l).flatMap teC))]):=by
  refine HSpec.Qmt (m:=98) 100 ok93 rfl rfl ?_
  have hn:=Qcr l
  simp(disch:=first|omega|(simp only[lenW]<;>omega)) only[s93,Bool.not_eq_true,wW,wV,simprocAttr]
  refine chc (HSpec.lend (FrzL.cons (FrzTo.all gg hn) (FrzL.cons (FrzTo.same _) FrzL.nil)) (index186 l hl) rfl) ?_
  by_cases hall:l.all (fun x=> !decide (x.2=0))=true
  · have e1 : fst0 l = -1 := if_pos hall
    simp(disch:=first|omega|(simp only[lenW]<;>omega)) only[e1,Bool.not_eq_true,wW,wV,simprocAttr]
    refine⟨.inr trivial,_,rfl,?_⟩
    unfold delT;rw[QpJ hall,Nat.sub_self,List.replicate_zero,List.append_nil]
    exact⟨[(97,.nil)],rfl,au0,au11,au12⟩
  have e1:fst0 l=(l.findIdx (fun x=>decide (x.2=0)):Int):=if_neg hall
  have hex:∃x∈l,decide (x.2=0)=true:=by
    have:¬∀x∈l,(!decide (x.2=0))=true:=fun h=>hall (List.all_eq_true.2 h)
    obtain⟨x,hx⟩:=Classical.not_forall.1 this
    obtain⟨hx,hy⟩:=Classical.not_imp.1 hx
    exact⟨x,hx,by simpa using hy⟩
  have hi0:l.findIdx (fun x=>decide (x.2=0))<l.length:=List.findIdx_lt_length_of_exists hex
  obtain⟨i0,hI⟩:∃i0,i0=l.findIdx (fun x=>decide (x.2=0)):=⟨_,rfl⟩
  rw[<-hI]at e1 hi0
  have hv0:(l[i0]).2=0:=by
    have:=List.findIdx_getElem (w:=by rw[<-hI];exact hi0) (xs:=l) (p:=fun x=>decide (x.2=0))
    simp only[<-hI]at this
    simpa using this
  have hlow:flt0 (l.take i0)=l.take i0:=by
    unfold flt0
    refine List.filter_eq_self.2 fun x hx=>?_
    obtain⟨j,hj,rfl⟩:=List.getElem_of_mem hx
    rw[List.length_take]at hj
    have:=List.not_of_lt_findIdx (xs:=l) (p:=fun x=>decide (x.2=0)) (i:=j) (by rw[<-hI];omega)
    rw[List.getElem_take]
    simpa using this
  have hst:flt0 (l.take (i0+1))=l.take i0:=by
    rw[Qjj (List.getElem?_eq_getElem hi0),if_pos hv0,hlow]
  have hne:¬(i0:Int)= -1:=by omega
  simp(disch:=first|omega|(simp only[lenW]<;>omega)) only[e1,hne,Bool.not_eq_true,wW,wV,simprocAttr]
  refine QaK 110 (fun t:Nat×Nat×List (Nat×Int)=>[(0,.sl 97 0 0 l.length 2),(1,.fn 94 [] []),(5,.int .i64 t.2.1),(6,.int .i64 t.1)])
    (fun t=>[(97,.cells 0 (t.2.2.flatMap teC))]) (fun t=>t.1<=l.length/\t.2.1<t.1/\t.2.2.length=l.length/\t.2.2.take t.2.1=flt0 (l.take t.1)/\t.2.2.drop t.1=l.drop t.1) (fun t=>l.length-t.1)
    (i0+1,i0,l) ⟨[(97,.nil)],rfl,au0,au11,au12⟩ ⟨by dsimp only;omega,by dsimp only;omega,rfl,hst.symm,rfl⟩ ?_
  rintro⟨j,i,C⟩ ⟨hj,hij,hC,hT,hD⟩
  dsimp only at hj hij hC hT hD⊢
  have hCl:=Qcr C
  by_cases hlt:j<l.length
  · obtain ⟨v, hv⟩ := Qag hlt
    have hvC:C[j]?=some v:=by
      have:(C.drop j)[0]?=(l.drop j)[0]?:=by rw[hD]
      simpa[hv]using this
    have hs:=Qjj hv
    have hn2:=zero94 v
    have g1:j*2+2<=l.length*2:=by omega
    have g2:i*2+2<=l.length*2:=by omega
    by_cases hm:v.2=0
    · have e2 : decide (v.2 = 0) = true := by simp [hm]
      rw[e2]at hn2
      rw[if_pos hm]at hs
      simp(disch:=first|omega|(simp only[lenW]<;>omega)) only[hlt,hC,hCl,g1,QcH hvC,Bool.not_eq_true,wW,wV,simprocAttr]
      refine chc (hn2.toH _) ?_
      simp(disch:=first|omega|(simp only[lenW]<;>omega)) only[Bool.not_eq_true,wW,wV,simprocAttr]
      refine⟨(j+1,i,C),by dsimp only;omega,⟨by dsimp only;omega,by dsimp only;omega,hC,by rw[hs];exact hT,?_⟩,?_⟩
      · dsimp only
        have:=congrArg (List.drop 1) hD
        simpa[List.drop_drop]using this
      · exact⟨[(97,.nil)],rfl,au0,au11,au12⟩
    · have e2 : decide (v.2 = 0) = false := by simp [hm]
      rw[e2]at hn2
      rw[if_neg hm]at hs
      simp(disch:=first|omega|(simp only[lenW]<;>omega)) only[hlt,hC,hCl,g1,QcH hvC,Bool.not_eq_true,wW,wV,simprocAttr]
      refine chc (hn2.toH _) ?_
      have hil:i<l.length:=by omega
      simp(disch:=first|omega|(simp only[lenW]<;>omega)) only[hil,hC,hCl,g2,QoF (l:=C) (i:=i) (x:=v) (by omega),Bool.not_eq_true,wW,wV,simprocAttr]
      refine⟨(j+1,i+1,C.set i v),by dsimp only;omega,⟨by dsimp only;omega,by dsimp only;omega,by simp[hC],?_,?_⟩,?_⟩
      · dsimp only
        rw[hs,<-hT,List.take_add_one,List.getElem?_set_self (by omega),List.take_set,List.set_eq_of_length_le (by rw[List.length_take];omega)];rfl
      · dsimp only
        rw[List.drop_set_of_lt (by omega)]
        have:=congrArg (List.drop 1) hD
        simpa[List.drop_drop]using this
      · exact⟨[(97,.nil)],rfl,au0,au11,au12⟩
  · have ej : j = l.length := by omega
    subst ej
    rw[List.take_length]at hT
    have hil:(i:Int)<=(l.length:Int):=by omega
    simp(disch:=first|omega|(simp only[lenW]<;>omega)) only[hlt,hil,Bool.not_eq_true,wW,wV,simprocAttr]
    refine QkZ gg (by omega) (by rw[hCl,hC];omega) rfl (by decide) (by decide) ?_
    simp(disch:=first|omega|(simp only[lenW]<;>omega)) only[hil,Bool.not_eq_true,wW,wV,simprocAttr]
    refine⟨.inr trivial,_,rfl,?_⟩
    have hfl:(flt0 l).length=i:=by rw[<-hT,List.length_take];omega
    have hput:putR (C.flatMap teC) (i*2) (List.replicate (l.length-i) [AV.int .i64 0,AV.int .i64 0]).flatten=(delT l).flatMap teC:=by
      rw[Qel (by rw[hCl,hC];omega),QoG,Qii,hT]
      unfold delT
      rw[hfl,List.flatMap_append,List.drop_of_length_le (by rw[hCl,hC,Qcr,List.length_replicate];omega),List.append_nil]
    rw[hfl,hput]
    exact⟨[(97,.nil)],rfl,au0,au11,au12⟩
end Go.AM.SU
namespace Go.AM.SO
open Go.Proofs Go.AM.SD Go.AM.SE
theorem convB1 {P:Program} {N:NM} {d:Option Nat} {r:List SOper} {dead:List Nat} {fs:List Fr} {n:Nat} {T:Tmps} {h:Heap} {Q:QC} {b g x:Nat} (hb:h.get b=some (.cells g [.int .u8 (x:Int)]))
  (hk:wR P N r dead fs (n+1) (putD T d (.str [UInt8.ofNat x])) h Q):wM P N (aConvB (.sl b g 0 1 1)) d r dead fs n T h Q:=by
 refine⟨_,h,?_,hk⟩
 have hg:Nat.beq g g=true:=by simp
 simp[aConvB,aSrc,HM.cells,HM.run,hb,hg,bytesOf]
theorem QcS (F:List Nat) (i:Nat):noRefs (evP F i)=true:=by
 unfold evP
 exact QaV (fun j=>rfl) _
theorem _root_.Go.AM.au13 {p:Prop} (h:p:=by repeat (first|exact RT.nil|(refine RT.cons ?_ ?_; · (first|exact Rn.any|exact Rn.x1 rfl rfl|exact Rn.x2 rfl rfl|exact Rn.x3 rfl rfl|exact Rn.x4 rfl rfl|exact Rn.x5 rfl|exact Rn.x6 rfl|exact Rn.x7 rfl|(refine Rn.slot ?_ ?_;(first|rfl|(rw[Int.natCast_add];rfl));(first|rfl|(simp only[noRef,noRefs,Qai,Bool.and_self,Bool.and_true,Bool.true_and,Qae,Qau,Qab,QaA];done)))|(refine Rn.fn ?_ ?_<;>(repeat' (first|exact RnL.nil|refine RnL.cons ?_ ?_|exact Rn.same rfl|exact Rn.x6 rfl|exact Rn.x2 rfl rfl|exact Rn.x5 rfl|exact Rn.x1 rfl rfl))))))):p:=h
theorem events88 (F : List Nat) (hF : F.length = 5) (h256 : ∀ i, F.getD i 0 < 256) : PSpec Tryz.prog 88 [.agg (u8s F)] (.fsl (evP F 5) 5 5) := by
  refine PSpec.of_rn 64 ok88 rfl (by simp only[noRefs,noRef,QaA];rfl) (by simp only[noRef];exact QcS _ _) ?_
  simp(disch:=first|omega|exact PairsOK.mk rfl|(simp only[lenW]<;>omega)) only[s88,wW,wV,simprocAttr]
  refine QaK 100 (fun i:Nat=>[(1,.ptr 64 0 0),(3,.sl 50 0 0 i 5),(4,.int .i64 i)]) (fun i=>[(50,.cells 0 (evP F i)),(64,.cells 0 (u8s F))]) (fun i=>i<=5) (fun i=>5-i) 0 ⟨[(50,.nil),(64,.blk 64 0)],rfl,au0,?_,au13⟩ (Nat.zero_le _) ?_
  · exact RB.newnil rfl rfl (RB.cells rfl rfl rfl (RnL.same (QaA _)) RB.nil)
  rintro i hi
  by_cases hlt:i<5
  · have hlt2 : (i : Int) < 5 := by omega
    have hu:(u8s F)[i]?=some (.int .u8 ((F.getD i 0:Nat):Int)):=QhM (by rw[List.getElem?_eq_getElem (by omega)];simp[List.getD,List.getElem?_eq_getElem (show i<F.length by omega)])
    have hb:=h256 i
    have hs:=@QkS F i
    have hl:=@Qif F i
    generalize F.getD i 0=b at hu hb hs
    have e97:wr .u8 ((97:Int)+(i:Int))=((97+i:Nat):Int):=by rw[wr_u8 (by omega) (by omega)];omega
    simp(disch:=first|omega|exact PairsOK.mk rfl|(simp only[lenW]<;>omega)) only[hlt2,hu,hl,e97,Qpm,wW,wV,simprocAttr]
    refine convB1 gg ?_
    have k1:((97+i:Nat):Int)=((97+i:Nat):Int):=rfl
    by_cases h48:48<=b/\b<52
    · have k2 : (48 : Int) <= (b : Int) := by omega
      have k3:(b:Int)<52:=by omega
      have k4:(b:Int)-47=((b-47:Nat):Int):=by omega
      have ev:evP F i++[.str [UInt8.ofNat (97+i)],.bool false,.bool false,.bool false,.int .i64 ((b-47:Nat):Int)]=evP F (i+1):=by
        rw[hs];simp[evC,evOf,h48]
      simp(disch:=first|omega|exact PairsOK.mk rfl|(simp only[lenW]<;>omega)) only[hlt2,hu,hl,k2,k3,k4,wW,wV,simprocAttr]
      refine⟨i+1,by omega,by omega,?_⟩
      rw[ev]
      refine⟨[(50,.blk 50 1),(64,.blk 64 0)],rfl,au0,?_,au13⟩
      exact RB.cells rfl rfl gg (RnL.same (QcS _ _)) (RB.cells rfl rfl gg (RnL.same (QaA _)) RB.nil)
    · have ev : evP F i ++ [.str [UInt8.ofNat (97 + i)], .bool (decide (b &&& 1 = 1)), .bool (decide (b &&& 2 = 2)), .bool (decide (b &&& 4 = 4)), .int .i64 0] = evP F (i + 1) := by
        rw[hs];simp[evC,evOf,h48]
      have d1:decide (((b&&&1:Nat):Int)=1)=decide (b&&&1=1):=decide_eq_decide.2 (by omega)
      have d2:decide (((b&&&2:Nat):Int)=2)=decide (b&&&2=2):=decide_eq_decide.2 (by omega)
      have d4:decide (((b&&&4:Nat):Int)=4)=decide (b&&&4=4):=decide_eq_decide.2 (by omega)
      have a1:=Qox hb
      have a2:=Qoy hb
      have a4:=Qoz hb
      by_cases h5:48<=b
      · have k3 : (48 : Int) <= (b : Int) := by omega
        have k4:¬(b:Int)<52:=by omega
        simp(disch:=first|omega|exact PairsOK.mk rfl|(simp only[lenW]<;>omega)) only[hlt2,hu,hl,k3,k4,a1,a2,a4,d1,d2,d4,wW,wV,simprocAttr]
        refine⟨i+1,by omega,by omega,?_⟩
        rw[ev]
        refine⟨[(50,.blk 50 1),(64,.blk 64 0)],rfl,au0,?_,au13⟩
        exact RB.cells rfl rfl gg (RnL.same (QcS _ _)) (RB.cells rfl rfl gg (RnL.same (QaA _)) RB.nil)
      · have k3 : ¬ (48 : Int) <= (b : Int) := by omega
        simp(disch:=first|omega|exact PairsOK.mk rfl|(simp only[lenW]<;>omega)) only[hlt2,hu,hl,k3,a1,a2,a4,d1,d2,d4,wW,wV,simprocAttr]
        refine⟨i+1,by omega,by omega,?_⟩
        rw[ev]
        refine⟨[(50,.blk 50 1),(64,.blk 64 0)],rfl,au0,?_,au13⟩
        exact RB.cells rfl rfl gg (RnL.same (QcS _ _)) (RB.cells rfl rfl gg (RnL.same (QaA _)) RB.nil)
  · have hlt2 : ¬ (i : Int) < 5 := by omega
    have e:i=5:=by omega
    subst e
    simp(disch:=first|omega|exact PairsOK.mk rfl|(simp only[lenW]<;>omega)) only[hlt2,wW,wV,simprocAttr]
    refine⟨.inr trivial,_,rfl,?_⟩
    exact Rn.fz0 rfl Qif (RnL.same (QcS _ _))
end Go.AM.SO
namespace Go.AM.ST
open Go.Proofs Go.AM.SD
noncomputable section
def bitsL (s:Nat):List Nat:=(List.range 5).filter fun i=>s.testBit i
def isV (v:AV) (u:AV):Bool:=eqAV u v
theorem QoH {v:AV}:∀u,isV v u=true->u=v:=fun u h=>Qc2 _ _ h
def unionB (a b:Nat):Bool:=callR ansB noOrc SK.ft.get (exR ansB noOrc SK.ft.get 1000) (.c .pure) 90 [sliN (bitsL a),sliN (bitsL b)] .e 64 (fun u _ _=>isV (sliN (bitsL (a|||b))) u)
theorem QpK {a b:Nat} (h:unionB a b=true):PSpec Tryz.prog 90 [sliN (bitsL a),sliN (bitsL b)] (sliN (bitsL (a|||b))):=
 QbE (t:=SK.ft) SK.ft_ok Qc4 (d:=1000) (isV _) QoH h
end
end Go.AM.ST
namespace Go.AM.ST
open Go.Proofs Go.AM.SD
noncomputable section
def rowB (a n:Nat):Bool:=@Nat.rec (fun _=>Bool) true (fun b ih=>ifB (unionB a b) ih false) n
theorem row_1:rowB 1 32=true:=by kernel_rfl
theorem row_2:rowB 2 32=true:=by kernel_rfl
theorem row_3:rowB 3 32=true:=by kernel_rfl
theorem row_4:rowB 4 32=true:=by kernel_rfl
theorem row_5:rowB 5 32=true:=by kernel_rfl
theorem row_6:rowB 6 32=true:=by kernel_rfl
theorem row_7:rowB 7 32=true:=by kernel_rfl
theorem row_8:rowB 8 32=true:=by kernel_rfl
theorem row_9:rowB 9 32=true:=by kernel_rfl
theorem Qrp:rowB 10 32=true:=by kernel_rfl
theorem Qrq:rowB 11 32=true:=by kernel_rfl
theorem Qrr:rowB 12 32=true:=by kernel_rfl
theorem Qrs:rowB 13 32=true:=by kernel_rfl
theorem Qrt:rowB 14 32=true:=by kernel_rfl
theorem Qru:rowB 15 32=true:=by kernel_rfl
theorem Qrv:rowB 16 32=true:=by kernel_rfl
theorem Qrw:rowB 17 32=true:=by kernel_rfl
theorem Qrx:rowB 18 32=true:=by kernel_rfl
theorem Qry:rowB 19 32=true:=by kernel_rfl
theorem Qrz:rowB 20 32=true:=by kernel_rfl
theorem QrA:rowB 21 32=true:=by kernel_rfl
theorem QrB:rowB 22 32=true:=by kernel_rfl
theorem QrC:rowB 23 32=true:=by kernel_rfl
theorem QrD:rowB 24 32=true:=by kernel_rfl
theorem QrE:rowB 25 32=true:=by kernel_rfl
theorem QrF:rowB 26 32=true:=by kernel_rfl
theorem QrG:rowB 27 32=true:=by kernel_rfl
theorem QrH:rowB 28 32=true:=by kernel_rfl
theorem QrI:rowB 29 32=true:=by kernel_rfl
theorem QrJ:rowB 30 32=true:=by kernel_rfl
theorem QrK:rowB 31 32=true:=by kernel_rfl
theorem QoI {a:Nat}:∀{n b:Nat},rowB a n=true->b<n->unionB a b=true
 |0,_,_,h=>absurd h (Nat.not_lt_zero _)
 | n + 1, b, hr, hb => by
  have e:rowB a (n+1)=ifB (unionB a n) (rowB a n) false:=rfl
  rw[e,Qaw]at hr
  split at hr
  ·rename_i h
   rcases Nat.lt_succ_iff_lt_or_eq.1 hb with h1|rfl
   ·exact QoI hr h1
   ·exact h
  ·cases hr
theorem Qnk {a b:Nat} (ha:0<a) (ha2:a<32) (hb:b<32):PSpec Tryz.prog 90 [sliN (bitsL a),sliN (bitsL b)] (sliN (bitsL (a|||b))):=by
 have h:rowB a 32=true:=by
  have:a=1\/a=2\/a=3\/a=4\/a=5\/a=6\/a=7\/a=8\/a=9\/a=10\/a=11\/a=12\/a=13\/a=14\/a=15\/a=16\/a=17\/a=18\/a=19\/a=20\/a=21\/a=22\/a=23\/a=24\/a=25\/a=26\/a=27\/a=28\/a=29\/a=30\/a=31:=by omega
  rcases this with rfl|rfl|rfl|rfl|rfl|rfl|rfl|rfl|rfl|rfl|rfl|rfl|rfl|rfl|rfl|rfl|rfl|rfl|rfl|rfl|rfl|rfl|rfl|rfl|rfl|rfl|rfl|rfl|rfl|rfl|rfl
  ·exact row_1
  ·exact row_2
  ·exact row_3
  ·exact row_4
  ·exact row_5
  ·exact row_6
  ·exact row_7
  ·exact row_8
  ·exact row_9
  ·exact Qrp
  ·exact Qrq
  ·exact Qrr
  ·exact Qrs
  ·exact Qrt
  ·exact Qru
  ·exact Qrv
  ·exact Qrw
  ·exact Qrx
  ·exact Qry
  ·exact Qrz
  ·exact QrA
  ·exact QrB
  ·exact QrC
  ·exact QrD
  ·exact QrE
  ·exact QrF
  ·exact QrG
  ·exact QrH
  ·exact QrI
  ·exact QrJ
  ·exact QrK
 exact QpK (QoI h hb)
end
end Go.AM.ST
namespace Go.AM.ST
open Go.Proofs Go.AM.SD Go.AM.SE
noncomputable section
def allV (a:Nat):AV:=if a=0 then .nilsl else sliN (bitsL a)
def unionN (b:Nat):Bool:=callR ansB noOrc SK.ft.get (exR ansB noOrc SK.ft.get 1000) (.c .pure) 90 [.nilsl,sliN (bitsL b)] .e 64 (fun u _ _=>isV (allV b) u)
theorem QoJ {b:Nat} (h:unionN b=true):PSpec Tryz.prog 90 [.nilsl,sliN (bitsL b)] (allV b):=
 QbE (t:=SK.ft) SK.ft_ok Qc4 (d:=1000) (isV _) QoH h
def rowN (n:Nat):Bool:=@Nat.rec (fun _=>Bool) true (fun b ih=>ifB (unionN b) ih false) n
theorem QpL:rowN 32=true:=by kernel_rfl
theorem QmB:∀{n b:Nat},rowN n=true->b<n->unionN b=true
 |0,_,_,h=>absurd h (Nat.not_lt_zero _)
 | n + 1, b, hr, hb => by
  have e:rowN (n+1)=ifB (unionN n) (rowN n) false:=rfl
  rw[e,Qaw]at hr
  split at hr
  ·rename_i h
   rcases Nat.lt_succ_iff_lt_or_eq.1 hb with h1|rfl
   ·exact QmB hr h1
   ·exact h
  ·cases hr
theorem QoK (b:Nat):SD.part 5 b=bitsL (b % 32):=by
 unfold bitsL SD.part
 apply List.filter_congr
 intro x hx
 have:=List.mem_range.1 hx
 rw[show 32=2^5 from rfl,Nat.testBit_mod_two_pow]
 simp[this]
theorem union90 {a b:Nat} (ha:a<32):PSpec Tryz.prog 90 [allV a,sliN (SD.part 5 b)] (allV (a|||b % 32)):=by
 rw[QoK]
 have hb:b % 32<32:=Nat.mod_lt _ (by decide)
 by_cases h0:a=0
 ·subst h0
  rw[Nat.zero_or]
  exact QoJ (QmB QpL hb)
 ·have h1 : ¬ (a ||| b % 32) = 0 := fun e => h0 (Nat.or_eq_zero_iff.1 e).1
  unfold allV
  rw[if_neg h0,if_neg h1]
  exact Qnk (by omega) ha hb
end
end Go.AM.ST
namespace Go.AM.SU
open Go.Proofs Go.AM.SD Go.AM.SE Go.AM.SO
theorem QcI (l:List Nat):(u8s l).length=l.length:=by simp[u8s]
theorem graph91 (al:List Nat) (st mk:Nat) (T:List Nat) (hs:al.Pairwise (· < ·)) (h5:∀x∈al,x<5) (hst:st<256) (hmk:mk<256) (hT:T.length=25) (hT8:∀x∈T,x<256):
  PSpec Tryz.prog 91 [sliN al,grV st mk T,.int .i64 3] (aV (mkA al (st % 3) mk T)):=by
 refine PSpec.of_rn 40 ok91 rfl (by(try simp only[noRefs,Qae,QaA,noRef,noRefs,Qab,QaG,Bool.and_self,Bool.and_true])<;>rfl) (Qc7 _) ?_
 have hM:=Make32 al (st % 3) mk T hs h5 (by omega) hmk hT hT8
 have hlu:(u8s T).length=25:=by rw[QcI,hT]
 have htk:(u8s T).take 25=u8s T:=by rw[<-hlu,List.take_length]
 have htm:(st:Int).tmod 3=((st % 3:Nat):Int):=by rw[Int.tmod_eq_emod_of_nonneg (Int.natCast_nonneg _)];norm_cast
 have hone:(u8s T).all AV.one=true:=by
  have:∀l:List Nat,(u8s l).all AV.one=true:=fun l=>by
   induction l with
   |nil=>rfl
   |cons x l ih=>show(AV.one _&&(u8s l).all AV.one)=true;rw[ih];rfl
  exact this T
 simp(disch:=first|omega|(simp only[lenW]<;>omega)) only[s91,hlu,htk,htm,hone,Bool.not_eq_true,wW,wV,simprocAttr]
 refine cp hM ?_
 generalize mkA al (st % 3) mk T=A at*
 simp(disch:=first|omega|(simp only[lenW]<;>omega)) only[hone,hlu,Bool.not_eq_true,wW,wV,simprocAttr]
 refine⟨.inr trivial,_,rfl,?_⟩
 exact Rn.same (Qc7 _)
theorem Qe3 {i:Nat} (hi:i<10):aConvS (.int .i32 (48+(i:Int)))=some (.str [UInt8.ofNat (48+i)]):=by
 have:i=0\/i=1\/i=2\/i=3\/i=4\/i=5\/i=6\/i=7\/i=8\/i=9:=by omega
 rcases this with rfl|rfl|rfl|rfl|rfl|rfl|rfl|rfl|rfl|rfl<;>rfl
theorem _root_.Go.AM.au14 {p:Prop} (h:p:=by repeat' (first|exact RB.nil|(refine RnL.same ?_;first|rfl|(simp only[noRef,noRefs,Qai,Bool.and_self,Bool.and_true,Bool.true_and,Qae,QaA,Qau,Qab,QaG];done))|exact RnM.keyM rfl|exact RnL.nil|exact(True.intro:RnM _ _ _ [] [])|refine RnL.cons ?_ ?_|(refine Rn.same ?_;first|rfl|(simp only[noRef,noRefs,Qai,Bool.and_self,Bool.and_true,Bool.true_and,Qae,QaA,Qau,Qab,QaG];done))|exact Rn.x1 rfl rfl|exact Rn.x2 rfl rfl|exact Rn.x3 rfl rfl|exact Rn.x4 rfl rfl|exact Rn.x5 rfl|exact Rn.x6 rfl|exact Rn.x7 rfl|refine RB.newnil rfl rfl ?_|refine RB.cells rfl rfl rfl ?_ ?_|refine RB.map rfl rfl rfl ?_ ?_|refine RB.cellsB rfl rfl ?_ ?_|refine RB.mapB rfl rfl ?_ ?_)):p:=h
theorem _root_.Go.AM.au15 {p:Prop} (h:p:=by repeat (first|exact RT.nil|(refine RT.cons ?_ ?_; · (first|exact Rn.any|exact Rn.x1 rfl rfl|exact Rn.x2 rfl rfl|exact Rn.x3 rfl rfl|exact Rn.x4 rfl rfl|exact Rn.x5 rfl|exact Rn.x6 rfl|exact Rn.x7 rfl|(refine Rn.slot ?_ ?_;(first|rfl|(rw[Int.natCast_add];rfl));(first|rfl|(simp only[noRef,noRefs,Qai,Bool.and_self,Bool.and_true,Bool.true_and,Qae,QaA,Qau,Qab,QaG];done)))|(refine Rn.fn ?_ ?_<;>(repeat' (first|exact RnL.nil|refine RnL.cons ?_ ?_|exact Rn.same rfl|exact Rn.x6 rfl|exact Rn.x2 rfl rfl|exact Rn.x5 rfl|exact Rn.x1 rfl rfl))))))):p:=h
theorem events89 (s:Nat) (hs:s<256):HSpec Tryz.prog 89 [.int .u8 s] .e (.sl 98 0 0 (SD.part 5 s).length 1) (hp [(98,.cells 0 (ints (nz (SD.part 5 s))))]):=by
  refine HSpec.QcQ 64 ok89 rfl ?_
  simp(disch:=first|omega|(simp only[lenW]<;>omega)) only[s89,Bool.not_eq_true,wW,wV,simprocAttr]
  refine QaK 100 (fun i:Nat=>[(0,.int .u8 s),(3,.sl 50 0 0 (SD.part i s).length 1),(4,.int .i64 i)]) (fun i=>[(50,.cells 0 (ints (nz (SD.part i s))))]) (fun i=>i<=5) (fun i=>5-i) 0 ⟨[(50,.nil)],rfl,au0,au14,au15⟩ (Nat.zero_le _) ?_
  rintro i hi
  have hpl:=@Qc8 i s
  by_cases hlt:i<5
  · have hlt2 : (i : Int) < 5 := by omega
    by_cases h0:s.testBit i=true
    · have hb := QdC.2 h0
      have hp:=Qdo (n:=5) (b:=s) (i:=i)
      rw[if_pos h0]at hp
      simp(disch:=first|omega|(simp only[lenW]<;>omega)) only[hlt2,QcE (k:= .u8) (show i<=8 by omega),QcF,hb,Bool.not_eq_true,wW,wV,simprocAttr]
      refine⟨i+1,by omega,by omega,?_⟩
      rw[hp,QaI,QaB,List.length_append]
      exact⟨[(50,.blk 50 1)],rfl,au0,au14,au15⟩
    · have hb : ¬ ((s / 2 ^ i % 2 : Nat) : Int) = 1 := fun e => h0 (QdC.1 e)
      have hp:=Qdo (n:=5) (b:=s) (i:=i)
      rw[if_neg h0,List.append_nil]at hp
      simp(disch:=first|omega|(simp only[lenW]<;>omega)) only[hlt2,QcE (k:= .u8) (show i<=8 by omega),QcF,hb,Bool.not_eq_true,wW,wV,simprocAttr]
      refine⟨i+1,by omega,by omega,?_⟩
      rw[hp]
      exact⟨[(50,.blk 50 0)],rfl,au0,au14,au15⟩
  · have hlt2 : ¬ (i : Int) < 5 := by omega
    have e:i=5:=by omega
    subst e
    simp(disch:=first|omega|(simp only[lenW]<;>omega)) only[hlt2,Bool.not_eq_true,wW,wV,simprocAttr]
    refine⟨.inr trivial,_,rfl,?_⟩
    exact⟨[(98,.blk 50 0)],rfl,au0,au14,au15⟩
theorem del40F {A l:List Nat} {h:Heap} (hA:A.length<=1000000) (hl:l.length<=1000000) (h75:h.get 75=some (.cells 0 [sliN A])) (h98:h.get 98=some (.cells 0 (ints (nz l)))):
  HSpec Tryz.prog 40 [.sl 98 0 0 l.length 1,.fn 92 [] [.ptr 75 0 0]] h (sliN (fltN A l)) ((h.set 98 (.cells 0 (ints (nz (delL A l))))).set 98 (.dead 0)):=by
 have h1:=HSpec.frameB (del40 A l hA hl) (OnlyD.cons (OnlyD.sl (.inr rfl)) (OnlyD.cons (OnlyD.fn OnlyD.nil (OnlyD.cons (OnlyD.ptr (.inl rfl)) OnlyD.nil)) OnlyD.nil)) (OnlyD.sl (.inr rfl))
  (by simp only[noRefs,noRef,Qae];rfl) (Qae _) (Qae _) h75 h98 (by decide) rfl rfl
 have hle:(fltN A l).length*1<=(ints (nz (delL A l))).length:=by simp[ints,delL]
 have h2:=HSpec.freeze (ds:=ints (nz (delL A l))) h1 (by rw[QaC (by decide)]) (Qon _) hle rfl
 have e:(ints (nz (delL A l))).take ((fltN A l).length*1)=ints (nz (fltN A l)):=by
  rw[Nat.mul_one]
  unfold delL
  rw[QaI,QaB,List.take_append_of_le_length (by simp[ints]),List.take_of_length_le (by simp[ints])]
 rw[e]at h2
 exact h2
theorem QqA (l:List (Nat×Int)):flatVs (l.flatMap teC)=true:=by
 induction l with
 |nil=>rfl
 |cons x l ih=>rw[List.flatMap_cons];exact ih
theorem del93F {l:List (Nat×Int)} {h:Heap} (hl:l.length<=1000000) (h97:h.get 97=some (.cells 0 (l.flatMap teC))):
  HSpec Tryz.prog 93 [.sl 97 0 0 l.length 2,.fn 94 [] []] h (tes (flt0 l)) ((h.set 97 (.cells 0 ((delT l).flatMap teC))).set 97 (.dead 0)):=by
 have h1:=HSpec.frameA (del93 l hl) (OnlyD.cons (OnlyD.sl rfl) (OnlyD.cons (OnlyD.same rfl) OnlyD.nil)) (OnlyD.sl rfl) (QaG _) (QaG _) h97 rfl
 have hle:(flt0 l).length*2<=((delT l).flatMap teC).length:=by rw[Qcr];simp[delT];omega
 have h2:=HSpec.freeze (ds:=(delT l).flatMap teC) h1 (by rw[QaC (by decide)]) (QqA _) hle rfl
 have e:((delT l).flatMap teC).take ((flt0 l).length*2)=(flt0 l).flatMap teC:=by
  rw[Qii]
  unfold delT
  rw[List.take_left]
 rw[e]at h2
 exact h2
end Go.AM.SU
namespace Go.AM.SU
open Go.Proofs Go.AM.SD Go.AM.SE Go.AM.SO
theorem QmC:∀l:List Nat,(u8s l).all AV.one=true
 |[]=>rfl
 |x::l=>by show(AV.one _&&(u8s l).all AV.one)=true;rw[QmC l];rfl
section
variable {p:Pln}
theorem QoL {l:List Nat} {k:Nat} (h:k<l.length):(u8s l)[k]?=some (.int .u8 ((l.getD k 0:Nat):Int)):=by
 refine QhM ?_
 rw[List.getElem?_eq_getElem h,List.getD_eq_getElem?_getD,List.getElem?_eq_getElem h];rfl
theorem Qij (h:POk p):(plnC p).length=152:=by
 show(u8s p.L++_).length=152
 rw[List.length_append,QcI,h.L];rfl
theorem QrL (h:POk p) {k:Nat} (hk:k<147):(plnC p)[k]?=some (.int .u8 ((p.L.getD k 0:Nat):Int)):=by
 show(u8s p.L++_)[k]?=_
 rw[List.getElem?_append_left (by rw[QcI,h.L];exact hk),QoL (by rw[h.L];exact hk)]
theorem Qew (h:POk p) {k:Nat}:(plnC p)[147+k]?=([.fsl (u8s p.X) p.xn 4,.int .i8 p.f0,.int .i8 p.f1,.int .i8 p.f2,.int .i8 p.bd]:List AV)[k]?:=by
 show(u8s p.L++_)[147+k]?=_
 rw[List.getElem?_append_right (by rw[QcI,h.L];omega),QcI,h.L]
 congr 1;omega
theorem Qk1 (h:POk p) {k m:Nat} (hk:k+m<=147):((plnC p).drop k).take m=u8s ((p.L.drop k).take m):=by
 show((u8s p.L++_).drop k).take m=_
 rw[List.drop_append_of_le_length (by rw[QcI,h.L];omega),List.take_append_of_le_length (by rw[List.length_drop,QcI,h.L];omega)]
 simp[u8s,List.map_drop,List.map_take]
theorem QrM (h:POk p) {k:Nat} (hk:k+27<=147):((plnC p).drop k).take 27= .int .u8 ((p.L.getD k 0:Nat):Int):: .int .u8 ((p.L.getD (k+1) 0:Nat):Int)::u8s ((p.L.drop (k+2)).take 25):=by
 have hl:=h.L
 rw[Qk1 h hk]
 have e:(p.L.drop k).take 27=p.L.getD k 0::p.L.getD (k+1) 0::(p.L.drop (k+2)).take 25:=by
  rw[List.getD_eq_getElem?_getD,List.getD_eq_getElem?_getD,List.getElem?_eq_getElem (show k<p.L.length by omega),List.getElem?_eq_getElem (show k+1<p.L.length by omega)]
  rw[List.drop_eq_getElem_cons (show k<p.L.length by omega),List.take_succ_cons,List.drop_eq_getElem_cons (show k+1<p.L.length by omega),List.take_succ_cons];rfl
 rw[e];rfl
theorem L_lt (h:POk p) (k:Nat):p.L.getD k 0<256:=by
 rw[List.getD_eq_getElem?_getD]
 cases e:p.L[k]? with
 |none=>decide
 |some x=>exact h.L8 x (List.mem_of_getElem? e)
theorem X_lt (h:POk p) (k:Nat):p.X.getD k 0<256:=by
 rw[List.getD_eq_getElem?_getD]
 cases e:p.X[k]? with
 |none=>decide
 |some x=>exact h.X8 x (List.mem_of_getElem? e)
theorem pF_lt (h:POk p) (i:Nat): -128<=pF p i/\pF p i<128:=by
 unfold pF
 split
 ·exact h.f0
 ·split
  ·exact h.f1
  ·exact h.f2
theorem Qik (h:POk p):(plnC p).all AV.one=true:=by
 show(u8s p.L++_).all AV.one=true
 rw[List.all_append,QmC];rfl
theorem Qdv:noRefs (plnC p)=true:=by
 show noRefs (u8s p.L++_)=true
 rw[Qai,QaA]
 simp only[noRefs,noRef,QaA];rfl
theorem QqB (F:List Nat):AV.fsl (evP F 5) 5 5=evsV (fun i=>evOf (F.getD i 0)):=by
 congr 1
theorem QoM (e:Nat->Evt):noRef (evsV e)=true:=rfl
theorem Qbe {ch:UInt8} (l:List (Nat×Aut)):noRefs (l.flatMap (itC ch))=true:=QaV (fun x=>by simp only[itC,noRefs,noRef,Qae,Qaf];rfl) l
theorem Qaq {ch:UInt8} (l:List (Nat×Aut)):noRef (its ch l)=true:=by simp only[noRef];exact Qbe l
theorem QqC {p:Pln} {i:Nat}:fltN (ST.bitsL (pAll p (pN p))) (SD.part 5 (p.L.getD (91+i) 0))=pW p i:=by
 unfold fltN pW
 apply List.filter_congr
 intro x hx
 have:=partLt x hx
 show decide (x∈(List.range 5).filter _)=_
 simp[this]
theorem Qa0 (l:List (Nat×Nat)):noRefs (l.flatMap loC)=true:=QaV (fun _=>rfl) l
theorem QbT (l:List (Nat×Nat)):noRef (los l)=true:=by simp only[noRef];exact Qa0 l
theorem QfM (l:List (Nat×Nat)):(l.flatMap loC).length=l.length*2:=Qbi (k:=2) (fun _=>rfl) l
theorem QaY (l:List (Nat×List (Nat×Nat))):noRefs (l.flatMap exC)=true:=QaV (fun x=>by simp only[exC,noRefs,noRef,Qa0];rfl) l
theorem Qbr (l:List (Nat×List (Nat×Nat))):noRef (exs l)=true:=by simp only[noRef];exact QaY l
theorem Qdp (l:List (Nat×List (Nat×Nat))):(l.flatMap exC).length=l.length*2:=Qbi (k:=2) (fun _=>rfl) l
theorem Qcf (l:List (Nat×Int)):noRef (tes l)=true:=by simp only[noRef];exact QaG l
theorem QbU (l:List (List (Nat×Int)×Int)):noRefs (l.flatMap coC)=true:=QaV (fun x=>by simp only[coC,noRefs,noRef,QaG];rfl) l
theorem Qjk (l:List (List (Nat×Int)×Int)):noRef (cos l)=true:=by simp only[noRef];exact QbU l
theorem QcJ {ch:UInt8} {l:List (Nat×Aut)} {i:Nat} {x:Nat×Aut} (h:l[i]?=some x):(l.flatMap (itC ch)).drop (i*5)= .str [ch,UInt8.ofNat (48+x.1)]::sliN x.2.al:: .int .i64 (x.2.n:Int)::sliN x.2.ms::egsN x.2.es::(l.drop (i+1)).flatMap (itC ch):=QbB (f:=itC ch) (k:=5) (fun _=>rfl) h
theorem QqD {X:List Nat} {i:Nat} (h:i*4+4<=X.length):((u8s X).drop (i*4)).take 4=[.int .u8 ((X.getD (i*4) 0:Nat):Int),.int .u8 ((X.getD (i*4+1) 0:Nat):Int),.int .u8 ((X.getD (i*4+2) 0:Nat):Int),.int .u8 ((X.getD (i*4+3) 0:Nat):Int)]:=by
  have g:∀k,k<4->X.getD (i*4+k) 0=X[i*4+k]!:=fun k hk=>by
    rw[List.getD_eq_getElem?_getD,List.getElem!_eq_getElem?_getD];rfl
  apply List.ext_getElem?
  intro j
  by_cases hj:j<4
  · rw [List.getElem?_take_of_lt hj, List.getElem?_drop, QoL (by omega)]
    have:j=0\/j=1\/j=2\/j=3:=by omega
    rcases this with rfl|rfl|rfl|rfl<;>rfl
  · rw[List.getElem?_eq_none (by rw[List.length_take];omega),List.getElem?_eq_none (by simp;omega)]
theorem Qa8 (c:Cel):noRef (celV c)=true:=by
 rw[celV,noRef,noRefs,noRefs,noRefs,noRefs,noRefs,QoM,Qaq,Qaq,Qbr,Qjk];rfl
theorem Qdw {s:List UInt8} {a:Aut}:noRefs [.str s,sliN a.al,.int .i64 (a.n:Int),sliN a.ms,egsN a.es]=true:=by simp only[noRefs,noRef,Qae,Qaf];rfl
theorem Qas {x y:List AV} (hx:noRefs x=true) (hy:noRefs y=true):noRefs (x++y)=true:=by rw[Qai,hx,hy];rfl
theorem QoN {ch:UInt8} {i:Nat} {a:Aut}:List.flatMap (itC ch) [(i,a)]=[.str [ch,UInt8.ofNat (48+i)],sliN a.al,.int .i64 (a.n:Int),sliN a.ms,egsN a.es]:=rfl
theorem Qdq {ch:UInt8} (l:List (Nat×Aut)):(l.flatMap (itC ch)).length=l.length*5:=Qbi (k:=5) (fun _=>rfl) l
theorem QpM {i:Nat}:pCs p (i+1)=pCs p i++[(i,pA p i)]:=by
 unfold pCs;rw[List.range_succ,List.map_append];rfl
theorem QpN {i:Nat}:pRs p (i+1)=pRs p i++[(i,pR p i)]:=by
 unfold pRs;rw[List.range_succ,List.map_append];rfl
theorem Qil {i:Nat}:(pCs p i).length=i:=by simp[pCs]
theorem QmD {i:Nat}:(pRs p i).length=i:=by simp[pRs]
theorem QmE:∀{i:Nat},pAll p i<32
 |0=>by show 0<32;decide
 |i+1=>Nat.or_lt_two_pow (n:=5) QmE (Nat.mod_lt _ (by decide))
end
theorem Qnl (a:Nat):(ST.allV a).cells=[ST.allV a]:=by unfold ST.allV;split<;>rfl
theorem QpO (a:Nat):(ST.allV a).one=true:=by unfold ST.allV;split<;>rfl
theorem QlM (a:Nat):noRefs [ST.allV a]=true:=by
 unfold ST.allV
 split
 ·rfl
 ·simp only[noRefs,noRef,Qae];rfl
theorem Make26 (p : Pln) (h : POk p) : PSpec Tryz.prog 26 [plnV p] (celV (mkC p)) := by
  refine PSpec.of_rn 40 ok26 rfl (by simp only[noRefs,noRef,Qdv];rfl) (Qa8 _) ?_
  have hlen:=Qij h
  have hone:=Qik h
  have hnr:=@Qdv p
  have h5:(plnC p).take 5=u8s (p.L.take 5):=by simpa using Qk1 h (k:=0) (m:=5) (by omega)
  have hev:=events88 (p.L.take 5) (by rw[List.length_take,h.L];rfl) (fun i=>by
    rw[List.getD_eq_getElem?_getD]
    cases e:(p.L.take 5)[i]? with
    |none=>decide
    |some x=>exact h.L8 x (List.mem_of_mem_take (List.mem_of_getElem? e)))
  rw[QqB]at hev
  have hat:∀{k},k<147->(plnC p)[k]?=some (.int .u8 ((p.L.getD k 0:Nat):Int)):=fun hk=>QrL h hk
  have a5:=hat (k:=5) (by omega)
  have a90:=hat (k:=90) (by omega)
  have a147:(plnC p)[147]?=some (.fsl (u8s p.X) p.xn 4):=Qew h (k:=0)
  have aF:∀i,i<3->(plnC p)[148+i]?=some (.int .i8 (pF p i)):=by
    intro i hi
    have:i=0\/i=1\/i=2:=by omega
    rcases this with rfl|rfl|rfl
    · exact Qew h (k:=1)
    · exact Qew h (k:=2)
    · exact Qew h (k:=3)
  have a151:(plnC p)[151]?=some (.int .i8 p.bd):=Qew h (k:=4)
  have hgr:∀{k},k+27<=147->((plnC p).drop k).take 27=_:=fun hk=>QrM h hk
  show wS _ _ _ _ _ (argT 0 [.agg (plnC p)]) _ _
  generalize plnC p=C at*
  have htm:((p.L.getD 5 0:Nat):Int).tmod 3=((p.L.getD 5 0 % 3:Nat):Int):=by rw[Int.tmod_eq_emod_of_nonneg (Int.natCast_nonneg _)];norm_cast
  have hn:(1:Int)+((p.L.getD 5 0 % 3:Nat):Int)=(pN p:Int):=by unfold pN;omega
  have hn3:=@pN_le p
  simp(disch:=first|omega|(simp only[lenW]<;>omega)) only[s26,hlen,hone,h5,Bool.not_eq_true,wW,wV,simprocAttr]
  refine cp hev ?_
  simp(disch:=first|omega|(simp only[lenW]<;>omega)) only[a5,htm,hn,Bool.not_eq_true,wW,wV,simprocAttr]
  refine Qaj 100 (fun i:Nat=>[(1,.ptr 50 0 0),(2,.ptr 51 0 0),(3,.ptr 52 0 0),(4,.ptr 75 0 0),(5,.int .i64 (pN p:Int)),(26,.int .i64 (pN p:Int)),(27,.int .i64 i)])
    (fun i=>[(50,.cells 0 C),(51,.cells 0 [.nilsl,.nilsl,.nilsl,.nilsl,.nilsl]),(52,.cells 0 [evsV (fun i=>evOf ((p.L.take 5).getD i 0)),.sl 76 0 0 (pCs p i).length 5,.nilsl,.nilsl,.nilsl]),(75,.cells 0 [ST.allV (pAll p i)]),(76,.cells 0 ((pCs p i).flatMap (itC 99)))])
    (fun i=>i<=pN p) (fun i=>pN p-i) 0 0 200
    (fun _:Unit=>[(1,.ptr 50 0 0),(2,.ptr 51 0 0),(3,.ptr 52 0 0),(4,.ptr 75 0 0),(5,.int .i64 (pN p:Int))])
    (fun _=>[(50,.cells 0 C),(51,.cells 0 [.nilsl,.nilsl,.nilsl,.nilsl,.nilsl]),(52,.cells 0 [evsV (fun i=>evOf ((p.L.take 5).getD i 0)),its 99 (pCs p (pN p)),.nilsl,.nilsl,.nilsl]),(75,.cells 0 [sliN (ST.bitsL (pAll p (pN p)))])]) (fun _=>True) ?_ (Nat.zero_le _) ?_ ?_
  · refine ⟨[(50, .blk 40 0), (51, .blk 41 0), (52, .blk 46 0), (75, .blk 48 0), (76, .nil)], rfl, au0, ?_, au15⟩
    exact RB.cells rfl rfl gg (RnL.same hnr) (RB.cells rfl rfl gg (RnL.same rfl) (RB.cells rfl rfl gg (RnL.cons (Rn.same rfl) (RnL.cons (Rn.x4 rfl rfl) (RnL.same rfl))) (RB.cells rfl rfl gg (RnL.same rfl) (RB.newnil rfl rfl RB.nil))))
  · rintro i hi
    by_cases hlt:i<pN p
    · have hi3 : (i : Int) < 3 := by omega
      have a6:=hat (k:=6+i) (by omega)
      have hE:=events16 (p.L.getD (6+i) 0) (L_lt h _)
      have hU:=ST.union90 (a:=pAll p i) (b:=p.L.getD (6+i) 0) QmE
      have hg:=hgr (k:=9+i*27) (by omega)
      have hG:=graph91 (SD.part 5 (p.L.getD (6+i) 0)) (p.L.getD (9+i*27) 0) (p.L.getD (9+i*27+1) 0) ((p.L.drop (9+i*27+2)).take 25) (Qdg _ _) partLt (L_lt h _) (L_lt h _) (by rw[List.length_take,List.length_drop,h.L];omega) (fun x hx=>h.L8 x (List.mem_of_mem_drop (List.mem_of_mem_take hx)))
      have hA:mkA (SD.part 5 (p.L.getD (6+i) 0)) (p.L.getD (9+i*27) 0 % 3) (p.L.getD (9+i*27+1) 0) ((p.L.drop (9+i*27+2)).take 25)=pA p i:=rfl
      rw[hA]at hG
      have hB:pAll p i|||p.L.getD (6+i) 0 % 32=pAll p (i+1):=rfl
      rw[hB]at hU
      have hsuc:=@QpM p i
      have hil:=@Qdq 99 (pCs p i)
      have hpl:=@Qil p i
      simp(disch:=first|omega|(simp only[lenW]<;>omega)) only[hlt,hi3,a6,hlen,Bool.not_eq_true,wW,wV,simprocAttr]
      refine cp hE ?_
      simp(disch:=first|omega|(simp only[lenW]<;>omega)) only[Bool.not_eq_true,wW,wV,simprocAttr]
      refine cp hU ?_
      have hs:=Qe3 (i:=i) (by omega)
      have hg27:9+i*27+27<=152:=by omega
      simp(disch:=first|omega|(simp only[lenW]<;>omega)) only[hlt,hi3,hlen,hs,QdP,Qnl,QpO,hg27,hg,Bool.not_eq_true,wW,wV,simprocAttr]
      refine cp hG ?_
      simp(disch:=first|omega|(simp only[lenW]<;>omega)) only[hil,hpl,Bool.not_eq_true,wW,wV,simprocAttr]
      refine⟨i+1,by omega,by omega,?_⟩
      rw[hsuc,List.flatMap_append,List.length_append,hpl,QoN]
      refine⟨[(50,.blk 50 0),(51,.blk 51 0),(52,.blk 52 0),(75,.blk 75 0),(76,.blk 76 1)],rfl,au0,?_,au15⟩
      exact RB.cells rfl rfl gg (RnL.same hnr) (RB.cells rfl rfl gg (RnL.same rfl) (RB.cells rfl rfl gg (RnL.cons (Rn.same rfl) (RnL.cons (Rn.x1 rfl rfl) (RnL.same rfl))) (RB.cells rfl rfl gg (RnL.same (QlM _)) (RB.cells rfl rfl gg (RnL.same (Qas (Qbe _) Qdw)) RB.nil))))
    · have e : i = pN p := by omega
      subst e
      have hil:=@Qdq 99 (pCs p (pN p))
      have hpl:=@Qil p (pN p)
      simp(disch:=first|omega|(simp only[lenW]<;>omega)) only[hlt,Bool.not_eq_true,wW,wV,simprocAttr]
      refine⟨(),?_⟩
      refine⟨[(50,.blk 50 0),(51,.blk 51 0),(52,.blk 52 0),(75,.blk 75 0)],rfl,au0,?_,au15⟩
      refine RB.cells rfl rfl gg (RnL.same hnr) (RB.cells rfl rfl gg (RnL.same rfl) (RB.cells rfl rfl gg (RnL.cons (Rn.same rfl) (RnL.cons (Rn.fzm rfl rfl rfl rfl (Qdq _) (RnL.same (Qbe _))) (RnL.same rfl))) (RB.cells rfl rfl gg (RnL.cons ?_ RnL.nil) RB.nil)))
      unfold ST.allV
      split
      · rename_i h0;rw[h0];exact Rn.nilK
      · exact Rn.same (Qab _)
  rintro _ _
  have htm90:((p.L.getD 90 0:Nat):Int).tmod 3=(pM p:Int):=by rw[Int.tmod_eq_emod_of_nonneg (Int.natCast_nonneg _)];unfold pM;norm_cast
  have hm2:=@pM_le p
  simp(disch:=first|omega|(simp only[lenW]<;>omega)) only[a90,htm90,Bool.not_eq_true,wW,wV,simprocAttr]
  refine Qaj 100 (fun i:Nat=>[(1,.ptr 50 0 0),(2,.ptr 51 0 0),(3,.ptr 52 0 0),(4,.ptr 75 0 0),(5,.int .i64 (pN p:Int)),(59,.int .i64 (pM p:Int)),(60,.int .i64 i)])
    (fun i=>[(50,.cells 0 C),(51,.cells 0 [.nilsl,.nilsl,.nilsl,.nilsl,.nilsl]),(52,.cells 0 [evsV (fun i=>evOf ((p.L.take 5).getD i 0)),its 99 (pCs p (pN p)),.sl 77 0 0 (pRs p i).length 5,.nilsl,.nilsl]),(75,.cells 0 [sliN (ST.bitsL (pAll p (pN p)))]),(77,.cells 0 ((pRs p i).flatMap (itC 114)))])
    (fun i=>i<=pM p) (fun i=>pM p-i) 0 2 200
    (fun _:Unit=>[(1,.ptr 50 0 0),(2,.ptr 51 0 0),(3,.ptr 52 0 0),(5,.int .i64 (pN p:Int))])
    (fun _=>[(50,.cells 0 C),(51,.cells 0 [.nilsl,.nilsl,.nilsl,.nilsl,.nilsl]),(52,.cells 0 [evsV (fun i=>evOf ((p.L.take 5).getD i 0)),its 99 (pCs p (pN p)),its 114 (pRs p (pM p)),.nilsl,.nilsl])]) (fun _=>True) ?_ (Nat.zero_le _) ?_ ?_
  · refine ⟨[(50, .blk 50 0), (51, .blk 51 0), (52, .blk 52 0), (75, .blk 75 0), (77, .nil)], rfl, au0, ?_, au15⟩
    exact RB.cells rfl rfl gg (RnL.same hnr) (RB.cells rfl rfl gg (RnL.same rfl) (RB.cells rfl rfl gg (RnL.cons (Rn.same rfl) (RnL.cons (Rn.same (Qaq _)) (RnL.cons (Rn.x4 rfl rfl) (RnL.same rfl)))) (RB.cells rfl rfl gg (RnL.cons (Rn.same (Qab _)) RnL.nil) (RB.newnil rfl rfl RB.nil))))
  · rintro i hi
    by_cases hlt:i<pM p
    · have hi3 : (i : Int) < 2 := by omega
      have a6:=hat (k:=91+i) (by omega)
      have hE:=events89 (p.L.getD (91+i) 0) (L_lt h _)
      have hg:=hgr (k:=93+i*27) (by omega)
      have hG:=graph91 (pW p i) (p.L.getD (93+i*27) 0) (p.L.getD (93+i*27+1) 0) ((p.L.drop (93+i*27+2)).take 25) (Qjh _) (pW_lt _) (L_lt h _) (L_lt h _) (by rw[List.length_take,List.length_drop,h.L];omega) (fun x hx=>h.L8 x (List.mem_of_mem_drop (List.mem_of_mem_take hx)))
      have hA:mkA (pW p i) (p.L.getD (93+i*27) 0 % 3) (p.L.getD (93+i*27+1) 0) ((p.L.drop (93+i*27+2)).take 25)=pR p i:=rfl
      rw[hA]at hG
      have hsuc:=@QpN p i
      have hil:=@Qdq 114 (pRs p i)
      have hpl:=@QmD p i
      have hs:=Qe3 (i:=i) (by omega)
      have hg27:93+i*27+27<=152:=by omega
      have hW:fltN (ST.bitsL (pAll p (pN p))) (SD.part 5 (p.L.getD (91+i) 0))=pW p i:=QqC
      have hbl:(ST.bitsL (pAll p (pN p))).length<=1000000:=Nat.le_trans (Qc8 (i:=5)) (by decide)
      have hpl5:(SD.part 5 (p.L.getD (91+i) 0)).length<=1000000:=Nat.le_trans (Qc8 (i:=5)) (by decide)
      generalize ST.bitsL (pAll p (pN p))=A at*
      simp(disch:=first|omega|(simp only[lenW]<;>omega)) only[hlt,hi3,a6,hlen,Bool.not_eq_true,wW,wV,simprocAttr]
      refine ch (HSpec.of_O (b:=98) (by(try simp only[noRefs,Qae,QaA,noRef,noRefs,Qab,QaG,Bool.and_self,Bool.and_true])<;>rfl) hE (by repeat (first|exact Fresh.e|exact Fresh.le (by assumption) (by omega)|refine Fresh.set ?_ (by omega) (by omega))) rfl) ?_
      simp(disch:=first|omega|(simp only[lenW]<;>omega)) only[Bool.not_eq_true,wW,wV,simprocAttr]
      refine chc (del40F hbl hpl5 gg gg) ?_
      rw[hW]
      simp(disch:=first|omega|(simp only[lenW]<;>omega)) only[hlt,hi3,hlen,hs,hg27,hg,Bool.not_eq_true,wW,wV,simprocAttr]
      refine cp hG ?_
      simp(disch:=first|omega|(simp only[lenW]<;>omega)) only[hil,hpl,Bool.not_eq_true,wW,wV,simprocAttr]
      refine⟨i+1,by omega,by omega,?_⟩
      rw[hsuc,List.flatMap_append,List.length_append,hpl,QoN]
      refine⟨[(50,.blk 50 0),(51,.blk 51 0),(52,.blk 52 0),(75,.blk 75 0),(77,.blk 77 1)],rfl,au0,?_,au15⟩
      exact RB.cells rfl rfl gg (RnL.same hnr) (RB.cells rfl rfl gg (RnL.same rfl) (RB.cells rfl rfl gg (RnL.cons (Rn.same rfl) (RnL.cons (Rn.same (Qaq _)) (RnL.cons (Rn.x1 rfl rfl) (RnL.same rfl)))) (RB.cells rfl rfl gg (RnL.cons (Rn.same (Qab _)) RnL.nil) (RB.cells rfl rfl gg (RnL.same (Qas (Qbe _) Qdw)) RB.nil))))
    · have e : i = pM p := by omega
      subst e
      have hil:=@Qdq 114 (pRs p (pM p))
      have hpl:=@QmD p (pM p)
      simp(disch:=first|omega|(simp only[lenW]<;>omega)) only[hlt,Bool.not_eq_true,wW,wV,simprocAttr]
      refine⟨(),?_⟩
      refine⟨[(50,.blk 50 0),(51,.blk 51 0),(52,.blk 52 0)],rfl,au0,?_,au15⟩
      exact RB.cells rfl rfl gg (RnL.same hnr) (RB.cells rfl rfl gg (RnL.same rfl) (RB.cells rfl rfl gg (RnL.cons (Rn.same rfl) (RnL.cons (Rn.same (Qaq _)) (RnL.cons (Rn.fzm rfl rfl rfl rfl (Qdq _) (RnL.same (Qbe _))) (RnL.same rfl)))) RB.nil))
  rintro _ _
  simp(disch:=first|omega|(simp only[lenW]<;>omega)) only[a147,Bool.not_eq_true,wW,wV,simprocAttr]
  refine Qaj 100 (fun i:Nat=>[(1,.ptr 50 0 0),(2,.ptr 51 0 0),(3,.ptr 52 0 0),(5,.int .i64 (pN p:Int)),(89,.fsl (u8s p.X) p.xn 4),(90,.int .i64 (p.xn:Int)),(91,.int .i64 i)])
    (fun i=>[(50,.cells 0 C),(51,.cells 0 [.nilsl,.nilsl,.nilsl,.nilsl,.nilsl]),(52,.cells 0 [evsV (fun i=>evOf ((p.L.take 5).getD i 0)),its 99 (pCs p (pN p)),its 114 (pRs p (pM p)),.sl 78 0 0 (pXs p i).length 2,.nilsl]),(78,.cells 0 ((pXs p i).flatMap exC))])
    (fun i=>i<=p.xn/\i<=2) (fun i=>p.xn-i) 0 4 200
    (fun _:Unit=>[(1,.ptr 50 0 0),(2,.ptr 51 0 0),(3,.ptr 52 0 0),(5,.int .i64 (pN p:Int))])
    (fun _=>[(50,.cells 0 C),(51,.cells 0 [.nilsl,.nilsl,.nilsl,.nilsl,.nilsl]),(52,.cells 0 [evsV (fun i=>evOf ((p.L.take 5).getD i 0)),its 99 (pCs p (pN p)),its 114 (pRs p (pM p)),exs (pXs p (min p.xn 2)),.nilsl])]) (fun _=>True) ?_ ⟨Nat.zero_le _,Nat.zero_le _⟩ ?_ ?_
  · refine ⟨[(50, .blk 50 0), (51, .blk 51 0), (52, .blk 52 0), (78, .nil)], rfl, au0, ?_, au15⟩
    exact RB.cells rfl rfl gg (RnL.same hnr) (RB.cells rfl rfl gg (RnL.same rfl) (RB.cells rfl rfl gg (RnL.cons (Rn.same rfl) (RnL.cons (Rn.same (Qaq _)) (RnL.cons (Rn.same (Qaq _)) (RnL.cons (Rn.x4 rfl rfl) (RnL.same rfl))))) (RB.newnil rfl rfl RB.nil)))
  · rintro i ⟨hi, hi2⟩
    have hxl:=@Qdp (pXs p i)
    have hxx:=@Qig p i
    by_cases hlt:i<p.xn
    · have hX := h.X
      have h4:=QqD (X:=p.X) (i:=i) (by omega)
      have hul:i*4+4<=(u8s p.X).length:=by rw[QcI,hX];omega
      have hdl:4<=((u8s p.X).drop (i*4)).length:=by rw[List.length_drop];omega
      by_cases h2:i=2
      · subst h2
        have hi2':(2:Int)<(p.xn:Int):=by omega
        simp(disch:=first|omega|(simp only[lenW]<;>omega)) only[hlt,h4,hdl,hi2',Bool.not_eq_true,wW,wV,simprocAttr]
        refine⟨(),?_⟩
        rw[show min p.xn 2=2 by omega]
        refine⟨[(50,.blk 50 0),(51,.blk 51 0),(52,.blk 52 0)],rfl,au0,?_,au15⟩
        exact RB.cells rfl rfl gg (RnL.same hnr) (RB.cells rfl rfl gg (RnL.same rfl) (RB.cells rfl rfl gg (RnL.cons (Rn.same rfl) (RnL.cons (Rn.same (Qaq _)) (RnL.cons (Rn.same (Qaq _)) (RnL.cons (Rn.fzm rfl rfl rfl rfl (Qdp _) (RnL.same (QaY _))) (RnL.same rfl))))) RB.nil))
      have h2':¬(i:Int)=2:=by omega
      have hs:=Qe3 (i:=i) (by omega)
      simp(disch:=first|omega|(simp only[lenW]<;>omega)) only[hlt,h4,hdl,h2',hs,Bool.not_eq_true,wW,wV,simprocAttr]
      obtain⟨Y,hYe⟩:∃Y,Y=[AV.int .u8 ((p.X.getD (i*4) 0:Nat):Int),.int .u8 ((p.X.getD (i*4+1) 0:Nat):Int),.int .u8 ((p.X.getD (i*4+2) 0:Nat):Int),.int .u8 ((p.X.getD (i*4+3) 0:Nat):Int)]:=⟨_,rfl⟩
      have hYn:noRefs Y=true:=by rw[hYe];rfl
      have hYk:∀k,k<3->Y[k]?=some (.int .u8 ((p.X.getD (i*4+k) 0:Nat):Int)):=by
        intro k hk
        have:k=0\/k=1\/k=2:=by omega
        rcases this with rfl|rfl|rfl<;>rw[hYe]<;>rfl
      have hpl:=@Qil p (pN p)
      have hilC:=@Qdq 99 (pCs p (pN p))
      rw[<-hYe,hpl]
      refine Qaj 220 (fun k:Nat=>[(1,.ptr 50 0 0),(2,.ptr 51 0 0),(3,.ptr 52 0 0),(5,.int .i64 (pN p:Int)),(11,.ptr 60 0 0),(12,.ptr 61 0 0),(89,.fsl (u8s p.X) p.xn 4),(90,.int .i64 (p.xn:Int)),(91,.int .i64 i),(106,.int .i64 (pN p:Int)),(107,.int .i64 k)])
        (fun k=>[(50,.cells 0 C),(51,.cells 0 [.nilsl,.nilsl,.nilsl,.nilsl,.nilsl]),(52,.cells 0 [evsV (fun i=>evOf ((p.L.take 5).getD i 0)),its 99 (pCs p (pN p)),its 114 (pRs p (pM p)),.sl 78 0 0 (pXs p i).length 2,.nilsl]),(60,.cells 0 Y),(61,.cells 0 [.str [101,UInt8.ofNat (48+i)],.sl 79 0 0 (pLo p i k).length 2]),(78,.cells 0 ((pXs p i).flatMap exC)),(79,.cells 0 ((pLo p i k).flatMap loC))])
        (fun k=>k<=pN p) (fun k=>pN p-k) 0 6 300
        (fun _:Unit=>[(1,.ptr 50 0 0),(2,.ptr 51 0 0),(3,.ptr 52 0 0),(5,.int .i64 (pN p:Int)),(12,.ptr 61 0 0),(89,.fsl (u8s p.X) p.xn 4),(90,.int .i64 (p.xn:Int)),(91,.int .i64 i)])
        (fun _=>[(50,.cells 0 C),(51,.cells 0 [.nilsl,.nilsl,.nilsl,.nilsl,.nilsl]),(52,.cells 0 [evsV (fun i=>evOf ((p.L.take 5).getD i 0)),its 99 (pCs p (pN p)),its 114 (pRs p (pM p)),.sl 78 0 0 (pXs p i).length 2,.nilsl]),(61,.cells 0 [.str [101,UInt8.ofNat (48+i)],los (pLo p i (pN p))]),(78,.cells 0 ((pXs p i).flatMap exC))]) (fun _=>True) ?_ (Nat.zero_le _) ?_ ?_
      · refine ⟨[(50, .blk 50 0), (51, .blk 51 0), (52, .blk 52 0), (60, .blk 104 0), (61, .blk 115 0), (78, .blk 78 0), (79, .nil)], rfl, au0, ?_, au15⟩
        exact RB.cells rfl rfl gg (RnL.same hnr) (RB.cells rfl rfl gg (RnL.same rfl) (RB.cells rfl rfl gg (RnL.cons (Rn.same rfl) (RnL.cons (Rn.same (Qaq _)) (RnL.cons (Rn.same (Qaq _)) (RnL.cons (Rn.x1 rfl rfl) (RnL.same rfl))))) (RB.cells rfl rfl gg (RnL.same hYn) (RB.cells rfl rfl gg (RnL.cons (Rn.same rfl) (RnL.cons (Rn.x4 rfl rfl) RnL.nil)) (RB.cells rfl rfl gg (RnL.same (QaY _)) (RB.newnil rfl rfl RB.nil))))))
      · rintro k hk
        have hll:=@QfM (pLo p i k)
        have hlx:=@Qih p i k
        by_cases hkl:k<pN p
        · have hk3 : (k : Int) < 4 := by omega
          have hck:=QoC (p:=p) hkl
          have hdr:=QcJ (ch:=99) hck
          have hdl2:5<=(((pCs p (pN p)).flatMap (itC 99)).drop (k*5)).length:=by rw[hdr];simp
          have hy:=hYk k (by omega)
          have hx8:=X_lt h (i*4+k)
          have hn5:(pA p k).n<=3:=(pA_wf k).n3
          have hrm:((p.X.getD (i*4+k) 0:Nat):Int).tmod (((pA p k).n:Int)+2)=((p.X.getD (i*4+k) 0 % ((pA p k).n+2):Nat):Int):=by
            rw[Int.tmod_eq_emod_of_nonneg (Int.natCast_nonneg _)];norm_cast
          have hn0:¬((pA p k).n:Int)+2=0:=by omega
          have hxm:p.X.getD (i*4+k) 0 % ((pA p k).n+2)<=10:=by have:=Nat.mod_lt (p.X.getD (i*4+k) 0) (show 0<(pA p k).n+2 by omega);omega
          have hsuc:pLo p i (k+1)=if p.X.getD (i*4+k) 0 % ((pA p k).n+2)<(pA p k).n then pLo p i k++[(k,p.X.getD (i*4+k) 0 % ((pA p k).n+2))]else pLo p i k:=rfl
          by_cases ht:p.X.getD (i*4+k) 0 % ((pA p k).n+2)<(pA p k).n
          · rw [if_pos ht] at hsuc
            have hlo1:List.flatMap loC [(k,p.X.getD (i*4+k) 0 % ((pA p k).n+2))]=[.int .i64 (k:Int),.int .i64 ((p.X.getD (i*4+k) 0 % ((pA p k).n+2):Nat):Int)]:=rfl
            simp(disch:=first|omega|(simp only[lenW]<;>omega)) only[hkl,hk3,hdr,hdl2,hy,hrm,hn0,ht,hll,Bool.not_eq_true,wW,wV,simprocAttr]
            refine⟨k+1,by omega,by omega,?_⟩
            rw[hsuc,List.flatMap_append,List.length_append,hlo1]
            refine⟨[(50,.blk 50 0),(51,.blk 51 0),(52,.blk 52 0),(60,.blk 60 0),(61,.blk 61 0),(78,.blk 78 0),(79,.blk 79 1)],rfl,au0,?_,au15⟩
            exact RB.cells rfl rfl gg (RnL.same hnr) (RB.cells rfl rfl gg (RnL.same rfl) (RB.cells rfl rfl gg (RnL.cons (Rn.same rfl) (RnL.cons (Rn.same (Qaq _)) (RnL.cons (Rn.same (Qaq _)) (RnL.cons (Rn.x1 rfl rfl) (RnL.same rfl))))) (RB.cells rfl rfl gg (RnL.same hYn) (RB.cells rfl rfl gg (RnL.cons (Rn.same rfl) (RnL.cons (Rn.x1 rfl rfl) RnL.nil)) (RB.cells rfl rfl gg (RnL.same (QaY _)) (RB.cells rfl rfl gg (RnL.same (Qas (Qa0 _) rfl)) RB.nil))))))
          · rw [if_neg ht] at hsuc
            simp(disch:=first|omega|(simp only[lenW]<;>omega)) only[hkl,hk3,hdr,hdl2,hy,hrm,hn0,ht,hll,Bool.not_eq_true,wW,wV,simprocAttr]
            refine⟨k+1,by omega,by omega,?_⟩
            rw[hsuc]
            refine⟨[(50,.blk 50 0),(51,.blk 51 0),(52,.blk 52 0),(60,.blk 60 0),(61,.blk 61 0),(78,.blk 78 0),(79,.blk 79 0)],rfl,au0,?_,au15⟩
            exact RB.cells rfl rfl gg (RnL.same hnr) (RB.cells rfl rfl gg (RnL.same rfl) (RB.cells rfl rfl gg (RnL.cons (Rn.same rfl) (RnL.cons (Rn.same (Qaq _)) (RnL.cons (Rn.same (Qaq _)) (RnL.cons (Rn.x1 rfl rfl) (RnL.same rfl))))) (RB.cells rfl rfl gg (RnL.same hYn) (RB.cells rfl rfl gg (RnL.cons (Rn.same rfl) (RnL.cons (Rn.x1 rfl rfl) RnL.nil)) (RB.cells rfl rfl gg (RnL.same (QaY _)) (RB.cells rfl rfl gg (RnL.same (Qa0 _)) RB.nil))))))
        · have e : k = pN p := by omega
          subst e
          simp(disch:=first|omega|(simp only[lenW]<;>omega)) only[hkl,Bool.not_eq_true,wW,wV,simprocAttr]
          refine⟨(),?_⟩
          refine⟨[(50,.blk 50 0),(51,.blk 51 0),(52,.blk 52 0),(61,.blk 61 0),(78,.blk 78 0)],rfl,au0,?_,au15⟩
          exact RB.cells rfl rfl gg (RnL.same hnr) (RB.cells rfl rfl gg (RnL.same rfl) (RB.cells rfl rfl gg (RnL.cons (Rn.same rfl) (RnL.cons (Rn.same (Qaq _)) (RnL.cons (Rn.same (Qaq _)) (RnL.cons (Rn.x1 rfl rfl) (RnL.same rfl))))) (RB.cells rfl rfl gg (RnL.cons (Rn.same rfl) (RnL.cons (Rn.fzm rfl rfl rfl rfl (QfM _) (RnL.same (Qa0 _))) RnL.nil)) (RB.cells rfl rfl gg (RnL.same (QaY _)) RB.nil))))
      rintro _ _
      have hsuc:pXs p (i+1)=if 0<(pLo p i (pN p)).length then pXs p i++[(i,pLo p i (pN p))]else pXs p i:=rfl
      have hlx:=@Qih p i (pN p)
      by_cases h0:0<(pLo p i (pN p)).length
      · rw [if_pos h0] at hsuc
        have hex1:List.flatMap exC [(i,pLo p i (pN p))]=[.str [101,UInt8.ofNat (48+i)],los (pLo p i (pN p))]:=rfl
        simp(disch:=first|omega|(simp only[lenW]<;>omega)) only[h0,hxl,Bool.not_eq_true,wW,wV,simprocAttr]
        refine⟨i+1,by omega,⟨by omega,by omega⟩,?_⟩
        rw[hsuc,List.flatMap_append,List.length_append,hex1]
        refine⟨[(50,.blk 50 0),(51,.blk 51 0),(52,.blk 52 0),(78,.blk 78 1)],rfl,au0,?_,au15⟩
        exact RB.cells rfl rfl gg (RnL.same hnr) (RB.cells rfl rfl gg (RnL.same rfl) (RB.cells rfl rfl gg (RnL.cons (Rn.same rfl) (RnL.cons (Rn.same (Qaq _)) (RnL.cons (Rn.same (Qaq _)) (RnL.cons (Rn.x1 rfl rfl) (RnL.same rfl))))) (RB.cells rfl rfl gg (RnL.same (Qas (QaY _) (by simp only[noRefs,noRef,Qa0];rfl))) RB.nil)))
      · rw [if_neg h0] at hsuc
        simp(disch:=first|omega|(simp only[lenW]<;>omega)) only[h0,hxl,Bool.not_eq_true,wW,wV,simprocAttr]
        refine⟨i+1,by omega,⟨by omega,by omega⟩,?_⟩
        rw[hsuc]
        refine⟨[(50,.blk 50 0),(51,.blk 51 0),(52,.blk 52 0),(78,.blk 78 0)],rfl,au0,?_,au15⟩
        exact RB.cells rfl rfl gg (RnL.same hnr) (RB.cells rfl rfl gg (RnL.same rfl) (RB.cells rfl rfl gg (RnL.cons (Rn.same rfl) (RnL.cons (Rn.same (Qaq _)) (RnL.cons (Rn.same (Qaq _)) (RnL.cons (Rn.x1 rfl rfl) (RnL.same rfl))))) (RB.cells rfl rfl gg (RnL.same (QaY _)) RB.nil)))
    · have e : i = p.xn := by omega
      subst e
      simp(disch:=first|omega|(simp only[lenW]<;>omega)) only[hlt,Bool.not_eq_true,wW,wV,simprocAttr]
      refine⟨(),?_⟩
      rw[show min p.xn 2=p.xn by omega]
      refine⟨[(50,.blk 50 0),(51,.blk 51 0),(52,.blk 52 0)],rfl,au0,?_,au15⟩
      exact RB.cells rfl rfl gg (RnL.same hnr) (RB.cells rfl rfl gg (RnL.same rfl) (RB.cells rfl rfl gg (RnL.cons (Rn.same rfl) (RnL.cons (Rn.same (Qaq _)) (RnL.cons (Rn.same (Qaq _)) (RnL.cons (Rn.fzm rfl rfl rfl rfl (Qdp _) (RnL.same (QaY _))) (RnL.same rfl))))) RB.nil))
  rintro _ _
  have hb1:=Int.lt_tmod_of_pos p.bd (show(0:Int)<8 by decide)
  have hb2:=Int.tmod_lt_of_pos p.bd (show(0:Int)<8 by decide)
  have hbd:=h.bd
  have hf0:=h.f0
  have hf1:=h.f1
  have hf2:=h.f2
  simp(disch:=first|omega|(simp only[lenW]<;>omega)) only[a151,Bool.not_eq_true,wW,wV,simprocAttr]
  refine Qaj 240 (fun i:Nat=>[(1,.ptr 50 0 0),(2,.ptr 51 0 0),(3,.ptr 52 0 0),(15,.ptr 62 0 0),(157,.int .i64 (pN p:Int)),(158,.int .i64 i)])
    (fun i=>[(50,.cells 0 C),(51,.cells 0 [.nilsl,.nilsl,.nilsl,.nilsl,.nilsl]),(52,.cells 0 [evsV (fun i=>evOf ((p.L.take 5).getD i 0)),its 99 (pCs p (pN p)),its 114 (pRs p (pM p)),exs (pXs p (min p.xn 2)),.nilsl]),(62,.cells 0 [.str [107],.sl 97 0 0 (pT p i).length 2,.int .i64 (p.bd.tmod 8)]),(97,.cells 0 ((pT p i).flatMap teC))])
    (fun i=>i<=pN p) (fun i=>pN p-i) 0 8 300
    (fun _:Unit=>[(2,.ptr 51 0 0),(3,.ptr 52 0 0),(15,.ptr 62 0 0)])
    (fun _=>[(51,.cells 0 [.nilsl,.nilsl,.nilsl,.nilsl,.nilsl]),(52,.cells 0 [evsV (fun i=>evOf ((p.L.take 5).getD i 0)),its 99 (pCs p (pN p)),its 114 (pRs p (pM p)),exs (pXs p (min p.xn 2)),.nilsl]),(62,.cells 0 [.str [107],.sl 97 0 0 (pT p (pN p)).length 2,.int .i64 (p.bd.tmod 8)]),(97,.cells 0 ((pT p (pN p)).flatMap teC))]) (fun _=>True) ?_ (Nat.zero_le _) ?_ ?_
  · refine ⟨[(50, .blk 50 0), (51, .blk 51 0), (52, .blk 52 0), (62, .blk 205 0), (97, .nil)], rfl, au0, ?_, au15⟩
    exact RB.cells rfl rfl gg (RnL.same hnr) (RB.cells rfl rfl gg (RnL.same rfl) (RB.cells rfl rfl gg (RnL.cons (Rn.same rfl) (RnL.cons (Rn.same (Qaq _)) (RnL.cons (Rn.same (Qaq _)) (RnL.cons (Rn.same (Qbr _)) (RnL.same rfl))))) (RB.cells rfl rfl gg (RnL.cons (Rn.same rfl) (RnL.cons (Rn.x4 rfl rfl) (RnL.same rfl))) (RB.newnil rfl rfl RB.nil))))
  · rintro i hi
    have htl:=@Qcr (pT p i)
    have htx:=@QkU p i
    by_cases hlt:i<pN p
    · have hi3 : (i : Int) < 3 := by omega
      have ha:=aF i (by omega)
      have hFb: -128<=pF p i/\pF p i<128:=pF_lt h i
      have hsuc:pT p (i+1)=if pF p i=0 then pT p i else pT p i++[(i,(pF p i).tmod 4)]:=rfl
      by_cases h0:pF p i=0
      · rw [if_pos h0] at hsuc
        simp(disch:=first|omega|(simp only[lenW]<;>omega)) only[hlt,hi3,hlen,ha,h0,Bool.not_eq_true,wW,wV,simprocAttr]
        refine⟨i+1,by omega,by omega,?_⟩
        rw[hsuc]
        refine⟨[(50,.blk 50 0),(51,.blk 51 0),(52,.blk 52 0),(62,.blk 62 0),(97,.blk 97 0)],rfl,au0,?_,au15⟩
        exact RB.cells rfl rfl gg (RnL.same hnr) (RB.cells rfl rfl gg (RnL.same rfl) (RB.cells rfl rfl gg (RnL.cons (Rn.same rfl) (RnL.cons (Rn.same (Qaq _)) (RnL.cons (Rn.same (Qaq _)) (RnL.cons (Rn.same (Qbr _)) (RnL.same rfl))))) (RB.cells rfl rfl gg (RnL.cons (Rn.same rfl) (RnL.cons (Rn.x1 rfl rfl) (RnL.same rfl))) (RB.cells rfl rfl gg (RnL.same (QaG _)) RB.nil))))
      · rw [if_neg h0] at hsuc
        have hte1:List.flatMap teC [(i,(pF p i).tmod 4)]=[.int .i64 (i:Int),.int .i64 ((pF p i).tmod 4)]:=rfl
        simp(disch:=first|omega|(simp only[lenW]<;>omega)) only[hlt,hi3,hlen,ha,h0,htl,Bool.not_eq_true,wW,wV,simprocAttr]
        refine⟨i+1,by omega,by omega,?_⟩
        rw[hsuc,List.flatMap_append,List.length_append,hte1]
        refine⟨[(50,.blk 50 0),(51,.blk 51 0),(52,.blk 52 0),(62,.blk 62 0),(97,.blk 97 1)],rfl,au0,?_,au15⟩
        exact RB.cells rfl rfl gg (RnL.same hnr) (RB.cells rfl rfl gg (RnL.same rfl) (RB.cells rfl rfl gg (RnL.cons (Rn.same rfl) (RnL.cons (Rn.same (Qaq _)) (RnL.cons (Rn.same (Qaq _)) (RnL.cons (Rn.same (Qbr _)) (RnL.same rfl))))) (RB.cells rfl rfl gg (RnL.cons (Rn.same rfl) (RnL.cons (Rn.x1 rfl rfl) (RnL.same rfl))) (RB.cells rfl rfl gg (RnL.same (Qas (QaG _) rfl)) RB.nil))))
    · have e : i = pN p := by omega
      subst e
      simp(disch:=first|omega|(simp only[lenW]<;>omega)) only[hlt,Bool.not_eq_true,wW,wV,simprocAttr]
      refine⟨(),?_⟩
      refine⟨[(51,.blk 51 0),(52,.blk 52 0),(62,.blk 62 0),(97,.blk 97 0)],rfl,au0,?_,au15⟩
      exact RB.cells rfl rfl gg (RnL.same rfl) (RB.cells rfl rfl gg (RnL.cons (Rn.same rfl) (RnL.cons (Rn.same (Qaq _)) (RnL.cons (Rn.same (Qaq _)) (RnL.cons (Rn.same (Qbr _)) (RnL.same rfl))))) (RB.cells rfl rfl gg (RnL.cons (Rn.same rfl) (RnL.cons (Rn.x1 rfl rfl) (RnL.same rfl))) (RB.cells rfl rfl gg (RnL.same (QaG _)) RB.nil)))
  rintro _ _
  have hT0:flt0 (pT p (pN p))=pT0 p:=rfl
  have hpt:=@QkU p (pN p)
  simp(disch:=first|omega|(simp only[lenW]<;>omega)) only[Bool.not_eq_true,wW,wV,simprocAttr]
  refine chc (del93F (l:=pT p (pN p)) (by omega) gg) ?_
  rw[hT0]
  have htl0:(pT0 p).length<=3:=Nat.le_trans (List.length_filter_le _ _) (by omega)
  by_cases h0:0<(pT0 p).length
  · have hks : pKs p = [(pT0 p, p.bd.tmod 8)] := if_pos h0
    simp(disch:=first|omega|(simp only[lenW]<;>omega)) only[h0,Bool.not_eq_true,wW,wV,simprocAttr]
    refine⟨.inr trivial,_,rfl,?_⟩
    refine Rn.agg (RnL.cons (Rn.same rfl) (RnL.cons (Rn.same (Qaq _)) (RnL.cons (Rn.same (Qaq _)) (RnL.cons (Rn.same (Qbr _)) (RnL.cons ?_ RnL.nil)))))
    show Rn 0 π0 _ (cos (pKs p)) _
    rw[hks]
    exact Rn.fz0 (b:=310) rfl rfl (RnL.cons (Rn.same rfl) (RnL.cons (Rn.same (Qcf _)) (RnL.cons (Rn.same rfl) RnL.nil)))
  · have hks : pKs p = [] := if_neg h0
    simp(disch:=first|omega|(simp only[lenW]<;>omega)) only[h0,Bool.not_eq_true,wW,wV,simprocAttr]
    refine⟨.inr trivial,_,rfl,?_⟩
    refine Rn.agg (RnL.cons (Rn.same rfl) (RnL.cons (Rn.same (Qaq _)) (RnL.cons (Rn.same (Qaq _)) (RnL.cons (Rn.same (Qbr _)) (RnL.cons ?_ RnL.nil)))))
    show Rn 0 π0 _ (cos (pKs p)) _
    rw[hks]
    exact Rn.nilK
end Go.AM.SU
