/- A part of the proof of GuardsRefusesCardSaid: lemmas on the way (AmU, AmUa, AmQa, AmQb, AmQd, AmQw, AmQe, AmTa, AmTb, AmTc, AmTd, AmTe, AmTw, AnDj, AnBx, AnBa, AnBb, AnRa, AnRb, AnCx, AmTg, AnBd, AnBe, AnBf, AnBg, AmTh, AnBi, AnBj, AmTj, AmTk, AnBl, AnBo, AnCa, AnCb, AnBFb, AnBw, AnBFd, AnBy, AnBFe, AmTi, AnCg, AnRc, AnRe, AnCt, AnCm, AnCu, AnCw, AnCyb, AnCyf, AnCyh, AnCyg, AnCyi, AnRf, AnRg, AnRh, AmTp). Conditions: none of ours. -/
import Derived.OpenShut
import Derived.Test.YtgfnbkngfedlkaaGreatDoorProg
import Derived.KernelRfl
import Derived.Test.YtgfnbkngfedlkaaGreatDoorAmZ9
set_option linter.unusedSectionVars false
set_option maxHeartbeats 32000000
set_option maxRecDepth 100000
set_option linter.unusedVariables false
set_option linter.unusedSimpArgs false
namespace Go.AM
variable {ok:Okc}
open Go.ChangeShapes Go.WideShapes
def inF (w:World) (k:Nat):Prop:=k<w.heap.size
end Go.AM
namespace Go.AM
open Go.ChangeShapes Go.WideShapes
inductive Ty where
 |int (k:IntKind)
 |bool
 |str
 |arr (n:Nat) (t:Ty)
 |sl (t:Ty)
 |st (fs:Ty)
 |unit
 |pair (a b:Ty)
def Ty.sz:Ty->Nat
 | .int _| .bool| .str| .sl _=>1
 | .arr n t=>n*t.sz
 | .st fs=>fs.sz
 | .unit=>0
 | .pair a b=>a.sz+b.sz
abbrev Ty.D:Ty->Type
 | .int _=>Int
 | .bool=>Bool
 | .str=>List UInt8
 | .arr _ t| .sl t=>List t.D
 | .st fs=>fs.D
 | .unit=>Unit
 | .pair a b=>a.D×b.D
def Ty.cells:(t:Ty)->t.D->List AV
 | .int k,n=>[.int k n]
 | .bool,b=>[.bool b]
 | .str,s=>[.str s]
 | .arr _ t,l=>List.flatMap (Ty.cells t) l
 | .sl t,l=>[.fsl (List.flatMap (Ty.cells t) l) (List.length l) t.sz]
 | .st fs,d=>Ty.cells fs d
 | .unit,_=>[]
 | .pair a b,d=>Ty.cells a d.1++Ty.cells b d.2
def Ty.wf:(t:Ty)->t.D->Prop
 | .int k,n=>(Lit.int k n).wf=true
 | .bool,_=>True
 | .str,s=>List.length s<=9223372036854775807
 | .arr n t,l=>List.length l=n/\∀x∈(show List t.D from l),Ty.wf t x
 | .sl t,l=>List.length l<=9223372036854775807/\∀x∈(show List t.D from l),Ty.wf t x
 | .st fs,d=>Ty.wf fs d
 | .unit,_=>True
 | .pair a b,d=>Ty.wf a d.1/\Ty.wf b d.2
def eltT (P:Program) (ts:List TypeId):List TypeId:=match ts with
 |t::_=>(match P.underlying t with|some (.slice e)=>[e]|some (.array _ e)=>[e]|_=>[])
 |[]=>[]
def fldT (P:Program) (ts:List TypeId):List TypeId:=match ts with
 |t::_=>(match P.underlying t with|some (.struct l)=>l.toList.map (·.type)|_=>[])
 |[]=>[]
def Ty.sized (P:Program):(t:Ty)->List TypeId->t.D->Prop
 | .arr _ t,ts,l=>∀x∈(show List t.D from l),Ty.sized P t (eltT P ts) x
 | .sl t,ts,l=>(∀e∈eltT P ts,List.length l*P.bytesOf e<=reachBytes)/\∀x∈(show List t.D from l),Ty.sized P t (eltT P ts) x
 | .st fs,ts,d=>Ty.sized P fs (fldT P ts) d
 | .pair a b,ts,d=>Ty.sized P a (ts.take 1) d.1/\Ty.sized P b ts.tail d.2
 |_,_,_=>True
theorem Qca {H:Type} {P:Program} {e:TypeId} {q:Nat->Bool}:∀{l:List (DataW H)} {d:DataW H},d∈l->(DataW.weightsAll P e l).all q=true->(d.weights P e).all q=true
 |x::l,d,hd,h=>by
  simp only[DataW.weightsAll,List.all_append,Bool.and_eq_true]at h
  rcases List.mem_cons.1 hd with rfl|hd
  ·exact h.1
  ·exact Qca hd h.2
mutual
def okTy (P:Program):Ty->TypeId->Bool
 | .int k,t=>match P.underlying t with|some (.int k')=>k'==k|_=>false
 | .bool,t=>match P.underlying t with|some .bool=>true|_=>false
 | .str,t=>match P.underlying t with|some .string=>true|_=>false
 | .arr n e,t=>match P.underlying t with|some (.array m u)=>n==m&&okTy P e u&&P.cellsOf u==e.sz&&P.cellsOf t==n*e.sz|_=>false
 | .sl e,t=>match P.underlying t with|some (.slice u)=>okTy P e u&&P.cellsOf u==e.sz&&Nat.blt 0 e.sz|_=>false
 | .st fs,t=>match P.underlying t with|some (.struct l)=>okFs P fs l.toList 0&&P.cellsOf t==fs.sz|_=>false
 |_,_=>false
termination_by structural ty=>ty
def okFs (P:Program):Ty->List Field->Nat->Bool
 | .unit,l,_=>match l with|[]=>true|_=>false
 | .pair a b,l,off=>match l with|f::l=>f.offset==off&&okTy P a f.type&&P.cellsOf f.type==a.sz&&okFs P b l (off+a.sz)|_=>false
 |_,_,_=>false
termination_by structural ty=>ty
end
section
variable {ok:Okc} {H:Type} {enc:TypeId×Value->H} {P:Program} {W:World} {spare:Nat->Bool}
theorem Qck:∀(t:Ty) (d:t.D),t.wf d->(t.cells d).length=t.sz
 | .int _,_,_=>rfl
 | .bool,_,_=>rfl
 | .str,_,_=>rfl
 | .sl _,_,_=>rfl
 | .unit,_,_=>rfl
 | .st fs,d,h=>Qck fs d h
 | .pair a b,d,h=>by
  simp only[Ty.cells,Ty.sz,List.length_append,Qck a d.1 h.1,Qck b d.2 h.2]
 | .arr n t, l, h => by
  obtain⟨h1,h2⟩:=h
  simp only[Ty.cells,Ty.sz,<-h1]
  have:∀(l:List t.D),(∀x∈l,t.wf x)->(l.flatMap t.cells).length=l.length*t.sz:=by
   intro l
   induction l with
   |nil=>intro _;simp
   |cons x l ih=>intro hl;simp[List.flatMap_cons,Qck t x (hl x (by simp)),ih fun y hy=>hl y (by simp[hy]),Nat.succ_mul];omega
  exact this l h2
theorem Qe9 {α β:Type} {f:α->Option β}:∀{l:List α} {r:List β},l.mapM f=some r->r.length=l.length/\∀(i:Nat) (x:α),l[i]?=some x->∃y,f x=some y/\r[i]?=some y
 |[],r,h=>by simp_all
 |a::l,r,h=>by
  simp only[List.mapM_cons,Option.bind_eq_bind,Option.bind_eq_some_iff]at h
  obtain⟨y,hy,ys,hys,e⟩:=h
  simp at e;subst e
  obtain⟨h1,h2⟩:=Qe9 hys
  grind
theorem many {ok:Okc} {t:Ty} {R:t.D->Prop} {c:Ctx ok} {n:Nat}:∀{cs:List Value},(∀i,i<n->∃x:t.D,R x/\VRels c W (t.cells x) ((cs.drop (i*t.sz)).take t.sz))->n*t.sz<=cs.length->
  ∃l:List t.D,l.length=n/\(∀x∈l,R x)/\VRels c W (l.flatMap t.cells) (cs.take (n*t.sz)):=by
 induction n with
 |zero=>intro cs _ _;exact⟨[],rfl,by simp,by simp[VRels]⟩
 | succ n ih =>
  intro cs hx hl
  obtain⟨x,h1,h2⟩:=hx 0 (by omega)
  rw[Nat.succ_mul]at hl
  obtain⟨l,h3,h4,h5⟩:=ih (cs:=cs.drop t.sz) (fun i hi=>by
   grind [List.drop_drop]) (by simp;omega)
  refine⟨x::l,by simp[h3],by simp_all,?_⟩
  rw[List.flatMap_cons,Nat.succ_mul,Nat.add_comm,List.take_add]
  refine QaT ?_ h5
  simpa using h2
mutual
theorem Qea : ∀ (ty : Ty) (t : TypeId) (fuel : Nat) (cs : List Value) (x : DataW H × List MemPlace), (∀ b, spare b = true) -> okTy P ty t = true -> DataW.trod enc P W 0 spare true fuel t cs = some x ->
    ∃d:ty.D,(ty.wf d/\((x.1.weights P t).all (· <=reachBytes)=true->ty.sized P [t] d))/\VRels (only (ok:=ok) (inF W)) W (ty.cells d) cs:=by
  intro ty t fuel cs x hs ho h
  match ty with
  | .int k =>
    simp only[okTy]at ho
    split at ho<;>try (cases ho;done)
    rename_i k' hu
    simp only[beq_iff_eq]at ho
    subst ho
    obtain⟨n,rfl,_,hw⟩:=DataW.trod_int hu h
    exact⟨n,⟨hw,fun _=>trivial⟩,by simp[Ty.cells,VRels,VRel]⟩
  | .bool =>
    simp only[okTy]at ho
    split at ho<;>try (cases ho;done)
    rename_i hu
    obtain⟨b,rfl,_⟩:=DataW.trod_bool hu h
    exact⟨b,⟨trivial,fun _=>trivial⟩,by simp[Ty.cells,VRels,VRel]⟩
  | .str =>
    simp only[okTy]at ho
    split at ho<;>try (cases ho;done)
    rename_i hu
    obtain⟨s,rfl,_,hl⟩:=DataW.trod_string hu h
    refine⟨s.data.toList,⟨?_,fun _=>trivial⟩,?_⟩
    · simp only [ByteArray.size, maxLen] at hl
      simp_all [Ty.wf]
    · simp[Ty.cells,VRels,VRel]
  | .unit=>simp[okTy]at ho
  | .pair a b=>simp[okTy]at ho
  | .st fs =>
    simp only[okTy]at ho
    split at ho<;>try (cases ho;done)
    rename_i l hu
    simp only[Bool.and_eq_true,beq_iff_eq]at ho
    obtain⟨ho,hsz⟩:=ho
    cases fuel with
    |zero=>simp[DataW.trod]at h
    | succ n =>
      unfold DataW.trod at h
      rw[hu]at h
      split at h<;>first|(simp_all;done)|skip
      rename_i fs' he
      injection he with he;injection he with he;subst he
      split at h
      · rename_i hl
        simp only[Option.map_eq_some_iff]at h
        obtain⟨xs,hm,rfl⟩:=h
        obtain⟨d,⟨h1,h3⟩,h2⟩:=Qi4 fs l.toList 0 n _ xs hs ho hm (by omega)
        refine⟨d,⟨h1,fun hw=>?_⟩,?_⟩
        · simp only [DataW.weights, hu] at hw
          show Ty.sized P fs (fldT P [t]) d
          simp only[fldT,hu]
          exact h3 hw
        grind [Ty.cells]
      · cases h
  | .arr m e =>
    simp only[okTy]at ho
    split at ho<;>try (cases ho;done)
    rename_i m' u hu
    simp only[Bool.and_eq_true,beq_iff_eq]at ho
    obtain⟨⟨⟨rfl,ho⟩,hsz⟩,hst⟩:=ho
    cases fuel with
    |zero=>simp[DataW.trod]at h
    | succ n =>
      unfold DataW.trod at h
      rw[hu]at h
      split at h<;>first|(simp_all;done)|skip
      rename_i m' u' he
      injection he with he;injection he with he1 he2;subst he1;subst he2
      split at h
      · rename_i hl
        simp only[Option.map_eq_some_iff]at h
        obtain⟨xs,hm,rfl⟩:=h
        obtain⟨g1,g2⟩:=Qe9 hm
        rw[hst]at hl
        obtain⟨l,k1,k2,k3⟩:=many (t:=e) (R:=fun x=>e.wf x/\((DataW.weightsAll P u (xs.map (·.1))).all (· <=reachBytes)=true->e.sized P [u] x)) (c:=only (inF W)) (n:=m) (fun i hi=>by
          obtain⟨y,hy,hyx⟩:=g2 i i (by simp[hi])
          rw[hsz]at hy
          obtain⟨d,⟨j1,j2⟩,j3⟩:=Qea e u n _ y hs ho hy
          exact⟨d,⟨j1,fun hw=>j2 (Qca (List.mem_map.2 ⟨y,List.mem_of_getElem? hyx,rfl⟩) hw)⟩,j3⟩) (by omega)
        refine⟨l,⟨⟨k1,fun x hx=>(k2 x hx).1⟩,fun hw=>?_⟩,?_⟩
        · simp only [DataW.weights, hu] at hw
          show ∀x∈l,Ty.sized P e (eltT P [t]) x
          simp only[eltT,hu]
          exact fun x hx=>(k2 x hx).2 hw
        rw[<-hl,List.take_length]at k3
        exact k3
      · cases h
  | .sl e =>
    simp only[okTy]at ho
    split at ho<;>try (cases ho;done)
    rename_i u hu
    simp only[Bool.and_eq_true,beq_iff_eq,Nat.blt_eq]at ho
    obtain⟨⟨ho,hsz⟩,hpos⟩:=ho
    rcases DataW.trod_slice hu h with⟨rfl,_⟩|⟨a,len,cap,elems,rest,n,_,rfl,rfl,_,hl,hm,hlen,hel,hsp,hns⟩
    · exact⟨[],⟨⟨by simp,by simp⟩,fun _=>⟨fun _ _=>by simp,by simp⟩⟩,by simp[Ty.cells,VRels,VRel]⟩
    obtain⟨hrl,hr⟩:=hsp (hs _)
    have each:∀i,i<cap->∃cs,(w':W.cells? 0 (a.add (i*e.sz)) e.sz=some cs)->True:=fun _ _=>⟨[],fun _=>trivial⟩
    have each:∀i,i<cap->∃cs y,W.cells? 0 (a.add (i*e.sz)) e.sz=some cs/\DataW.trod enc P W 0 spare true n u cs=some y:=by
      intro i hi
      by_cases hil:i<len
      · grind [Option.bind_eq_some_iff]
      · have h1 := hr (i - len) (by omega)
        grind [Option.bind_eq_some_iff]
    by_cases h0:cap=0
    · have : len = 0 := by omega
      subst h0;subst this
      exact⟨[],⟨⟨by simp,by simp⟩,fun _=>⟨fun _ _=>by simp,by simp⟩⟩,by simp[Ty.cells,VRels,VRel]⟩
    have cellsAt:∀i cs,W.cells? 0 (a.add (i*e.sz)) e.sz=some cs->cs.length=e.sz/\∀j,j<e.sz->W.cell? ((a.add (i*e.sz)).add j)=cs[j]?:=by
      intro i cs hcs
      unfold World.cells? at hcs
      rw[if_pos (Nat.zero_le _)]at hcs
      obtain⟨g1,g2⟩:=Qe9 hcs
      refine⟨by simpa using g1,fun j hj=>?_⟩
      obtain⟨y,k1,k2⟩:=g2 j j (by simp[hj])
      rw[k1,k2]
    obtain⟨cs0,y0,hc0,_⟩:=each 0 (by omega)
    obtain⟨q1,q2⟩:=cellsAt 0 cs0 hc0
    have hcell0:=q2 0 hpos
    rw[List.getElem?_eq_getElem (by omega)]at hcell0
    obtain⟨b,off,spot⟩:=a
    have hspot:spot=none:=by simpa[Addr.add]using World.cell?_spot hcell0
    subst hspot
    have hb:∃C e fr,W.heap[b]?=some (.cells C e fr):=by
      grind [World.cell?,Addr.add]
    obtain⟨C,et,fr,hb⟩:=hb
    have hcell:∀i cs,W.cells? 0 ((⟨b,off,none⟩:Addr).add (i*e.sz)) e.sz=some cs->i<cap->(C.toList.drop (off+i*e.sz)).take e.sz=cs:=by
      intro i cs hcs hi
      obtain⟨k1,k2⟩:=cellsAt i cs hcs
      refine List.ext_getElem? fun j=>?_
      by_cases hj:j<e.sz
      · simp_all [Go.WideShapes.add_plain,World.cell?]
      grind
    have hCs:len*e.sz<=(C.toList.drop off).length:=by
      by_cases hl0:len=0
      · subst hl0;simp
      obtain⟨cs,y,hcs,_⟩:=each (len-1) (by omega)
      have h1:=hcell (len-1) cs hcs (by omega)
      obtain⟨k1,_⟩:=cellsAt (len-1) cs hcs
      have h2:=congrArg List.length h1
      rw[k1,List.length_take,List.length_drop]at h2
      rw[List.length_drop]
      have h3:len*e.sz=(len-1)*e.sz+e.sz:=by
        rw[<-Nat.succ_mul];congr 1;omega
      omega
    have eachL:∀i,i<len->∃cs y,W.cells? 0 ((⟨b,off,none⟩:Addr).add (i*e.sz)) e.sz=some cs/\DataW.trod enc P W 0 spare true n u cs=some y/\y∈elems:=by
      intro i hi
      have h1:=hel i hi
      rw[List.getElem?_eq_getElem (by omega),hsz,Option.bind_eq_some_iff]at h1
      obtain⟨cs,hcs,hy⟩:=h1
      exact⟨cs,_,hcs,hy,List.getElem_mem _⟩
    obtain⟨l,k1,k2,k3⟩:=many (t:=e) (R:=fun x=>e.wf x/\((DataW.weightsAll P u (elems.map (·.1))).all (· <=reachBytes)=true->e.sized P [u] x)) (c:=only (inF W)) (n:=len) (cs:=C.toList.drop off) (fun i hi=>by
      obtain⟨cs,y,hcs,hy,hyx⟩:=eachL i hi
      rw[List.drop_drop,hcell i cs hcs (by omega)]
      obtain⟨d,⟨j1,j2⟩,j3⟩:=Qea e u n cs y hs ho hy
      exact⟨d,⟨j1,fun hw=>j2 (Qca (List.mem_map.2 ⟨y,hyx,rfl⟩) hw)⟩,j3⟩) hCs
    have k2':∀x∈l,e.wf x:=fun x hx=>(k2 x hx).1
    refine⟨l,⟨⟨by grind [maxLen],k2'⟩,fun hw=>?_⟩,?_⟩
    · replace hw : (DataW.weights P t (.slice (elems.map (·.1)) (rest.map (·.1)))).all (· <= reachBytes) = true := hw
      simp only[DataW.weights,hu,List.all_cons,List.all_append,Bool.and_eq_true,decide_eq_true_eq,List.length_map]at hw
      refine⟨fun v hv=>?_,?_⟩
      · simp only [eltT, hu, List.mem_singleton] at hv
        subst hv
        refine Nat.le_trans (Nat.mul_le_mul_right _ ?_) hw.1
        show List.length l<=_
        omega
      · show ∀ x ∈ l, Ty.sized P e (eltT P [t]) x
        simp only[eltT,hu]
        exact fun x hx=>(k2 x hx).2 hw.2.1
    simp only[Ty.cells,VRels,VRel]
    have hll:(l.flatMap e.cells).length=l.length*e.sz:=Qck (.arr l.length e) l ⟨rfl,k2'⟩
    refine⟨_,[],rfl,.inr ⟨b,off,cap,C,et,fr,by rw[k1],by omega,hll,QaG hb,hb,?_⟩,rfl⟩
    have:=QeQ (vs:=(C.toList.drop off).drop (len*e.sz)) k3
    rwa [List.take_append_drop]at this
termination_by structural ty=>ty
theorem Qi4 : ∀ (ty : Ty) (fs : List Field) (off fuel : Nat) (cs : List Value) (xs : List (DataW H × List MemPlace)), (∀ b, spare b = true) -> okFs P ty fs off = true ->
    (fs.mapM fun f=>DataW.trod enc P W 0 spare true fuel f.type ((cs.drop f.offset).take (P.cellsOf f.type)))=some xs->off+ty.sz<=cs.length->
    ∃d:ty.D,(ty.wf d/\((DataW.weightsEach P (fs.map (·.type)) (xs.map (·.1))).all (· <=reachBytes)=true->ty.sized P (fs.map (·.type)) d))/\VRels (only (ok:=ok) (inF W)) W (ty.cells d) ((cs.drop off).take ty.sz):=by
  intro ty fs off fuel cs xs hs ho h hl
  match ty with
  | .unit=>exact⟨(),⟨trivial,fun _=>trivial⟩,by simp[Ty.cells,VRels,Ty.sz]⟩
  | .pair a b =>
    cases fs with
    |nil=>simp[okFs]at ho
    | cons f fs =>
      simp only[okFs,Bool.and_eq_true,beq_iff_eq]at ho
      obtain⟨⟨⟨rfl,h1⟩,h2⟩,h3⟩:=ho
      simp only[List.mapM_cons,Option.bind_eq_bind,Option.bind_eq_some_iff]at h
      obtain⟨y,hy,ys,hys,hxs⟩:=h
      have hxs:y::ys=xs:=by simpa using hxs
      subst hxs
      rw[h2]at hy
      simp only[Ty.sz]at hl
      obtain⟨d1,⟨g1,w1⟩,g2⟩:=Qea a f.type fuel _ y hs h1 hy
      obtain⟨d2,⟨g3,w2⟩,g4⟩:=Qi4 b fs (f.offset+a.sz) fuel cs ys hs h3 hys (by omega)
      refine⟨(d1,d2),⟨⟨g1,g3⟩,fun hw=>?_⟩,?_⟩
      · simp only [List.map_cons, DataW.weightsEach, List.all_append, Bool.and_eq_true] at hw
        exact⟨w1 hw.1,w2 hw.2⟩
      simp only[Ty.cells,Ty.sz]
      rw[List.take_add]
      refine QaT g2 ?_
      rw[List.drop_drop]
      exact g4
  | .int _=>simp[okFs]at ho
  | .bool=>simp[okFs]at ho
  | .str=>simp[okFs]at ho
  | .arr _ _=>simp[okFs]at ho
  | .sl _=>simp[okFs]at ho
  | .st _=>simp[okFs]at ho
termination_by structural ty=>ty
end
def Ty.val:(t:Ty)->t.D->AV
 | .arr n t,d=> .agg (Ty.cells (.arr n t) d)
 | .st fs,d=> .agg (Ty.cells (.st fs) d)
 | .int k,n=> .int k n
 | .bool,b=> .bool b
 | .str,s=> .str s
 | .sl t,l=> .fsl (List.flatMap (Ty.cells t) l) (List.length l) t.sz
 | .unit,_=> .any
 | .pair _ _,_=> .any
theorem arg_inZ (ty:Ty) {t:TypeId} {base:Nat} {v:Value} {d0:DataW H} {ps:List MemPlace} (ho:okTy P ty t=true) (hv:Value.okWide P W .any base t v) (h:DataW.Trod enc P W 0 (fun _=>true) true t v d0 ps):
  ∃d:ty.D,(ty.wf d/\((d0.weights P t).all (· <=reachBytes)=true->ty.sized P [t] d))/\VRel (only (ok:=ok) (inF W)) W (ty.val d) v:=by
 obtain⟨fuel,h⟩:=h
 obtain⟨d,h1,h2⟩:=Qea (spare:=fun _=>true) ty t fuel _ _ (fun _=>rfl) ho h
 refine⟨d,h1,?_⟩
 have one:∀(u:AV),VRels (only (ok:=ok) (inF W)) W [u] v.cells.toList->(∀cs,v≠ .agg cs)->VRel (only (ok:=ok) (inF W)) W u v:=by
  intro u hu hn
  have:v.cells= #[v]:=by cases v<;>first|rfl|exact absurd rfl (hn _)
  simp_all [VRels]
 cases ty with
 |unit=>simp[okTy]at ho
 |pair a b=>simp[okTy]at ho
 |arr n e=>
  simp only[okTy]at ho
  split at ho<;>try (cases ho;done)
  rename_i hu
  simp only[Value.okWide,hu]at hv
  obtain⟨cs,rfl,_⟩:=hv
  simp only[Ty.val,VRel]
  exact⟨_,rfl,h2⟩
 |st fs=>
  simp only[okTy]at ho
  split at ho<;>try (cases ho;done)
  rename_i hu
  simp only[Value.okWide,hu]at hv
  obtain⟨cs,rfl,_⟩:=hv
  simp only[Ty.val,VRel]
  exact⟨_,rfl,h2⟩
 |int k=>
  refine one _ h2 ?_
  rintro cs rfl
  simp only[okTy]at ho
  split at ho<;>try (cases ho;done)
  rename_i hu
  simp[Value.okWide,hu,Cell.okWide,Cell.ok]at hv
 |bool=>
  refine one _ h2 ?_
  rintro cs rfl
  simp only[okTy]at ho
  split at ho<;>try (cases ho;done)
  rename_i hu
  simp[Value.okWide,hu,Cell.okWide,Cell.ok]at hv
 |str=>
  refine one _ h2 ?_
  rintro cs rfl
  simp only[okTy]at ho
  split at ho<;>try (cases ho;done)
  rename_i hu
  simp[Value.okWide,hu,Cell.okWide,Cell.ok]at hv
 |sl e=>
  refine one _ h2 ?_
  rintro cs rfl
  simp only[okTy]at ho
  split at ho<;>try (cases ho;done)
  rename_i hu
  simp[Value.okWide,hu,Cell.okWide,Cell.ok]at hv
end
end Go.AM
namespace Go.AM
variable {P:Program}
section
variable {N:NM} {n:Nat} {d:Option Nat} {af dead:List Nat} {r:List SOper} {T:Tmps} {h:Heap} {Q:QC} {fs:List Fr}
def wL (P:Program) (N:NM) (o:Option (List AV)) (len:Nat) (v:AV) (d:Option Nat) (ops:List SOper) (dead:List Nat) (fs:List Fr) (n:Nat) (T:Tmps) (h:Heap) (Q:QC):Prop:=
 ∃cs,o=some cs/\cs.length=len/\wN P N cs v d ops dead fs n T h Q
theorem QfW {cs:List AV} {len:Nat} {v:AV}:wL P N (some cs) len v d r dead fs n T h Q=if cs.length=len then wN P N cs v d r dead fs n T h Q else False:=by
 simp_all [wL]
theorem wN_go {x:List AV} {v:AV} (hl:n<1099511627775):wN P N x v d r dead fs n T h Q=if h.get n=none then wR P N r dead fs (n+1) (putD T d v) (h.set n (.cells 0 x)) Q else False:=by
 split
 ·rename_i hn;exact Ql1 hn hl
 simp_all [wN]
theorem wB_go {x:Blk} {b:Nat} {v:AV} (hl:b<1099511627775):wB P N (some x) b v d r dead fs n T h Q=wR P N r dead fs (n+1) (putD T d v) (h.set b x) Q:=QfR hl
theorem QaL {k:Nat} {x:Blk} (hk:k<1099511627775):(h.set k x).get k=some x:=by rw[Tr.Qax h hk];simp
theorem QaK {j k:Nat} {x:Blk} (hk:k<1099511627775) (hj:j≠k):(h.set k x).get j=h.get j:=by rw[Tr.Qax h hk];simp[hj]
theorem Qku {x:Nat->Blk} {y:List AV} (hx:x 0= .cells 0 y) {w:Nat->Nat->AV}:wM P N (HM.new .dyn n x fun b g=> .ret (w b g)) d r dead fs n T h Q=wN P N y (w n 0) d r dead fs n T h Q:=by
 apply propext;constructor
 ·rintro ⟨v', h1, hm, hk⟩
  unfold HM.new at hm
  simp only[HM.run]at hm
  cases hn:h.get n with
  |none=>
   rw[hn]at hm
   obtain⟨hl,hm⟩:=Qav hm
   simp only[HM.run,Option.some.injEq,Prod.mk.injEq]at hm
   obtain⟨rfl,rfl⟩:=hm
   rw[hx]at hk
   exact⟨hn,hl,hk⟩
  |some z=>rw[hn]at hm;cases hm
 ·rintro ⟨hn, hl, hk⟩
  refine⟨_,_,?_,by rw[<-hx]at hk;exact hk⟩
  unfold HM.new
  simp only[HM.run,hn]
  have hl':Nat.blt n lim=true:=by simp_all
  rw[hl'];rfl
theorem QhO {x:AV}:wM P N (aBox .dyn n x) d r dead fs n T h Q=if x.boxable=true then wN P N x.cells (.ptr n 0 0) d r dead fs n T h Q else False:=by
 split
 ·simp_all [Qk9]
 simp_all [aBox,Qct]
theorem QcT {sz len:Nat} {z:List AV} {ps:List (Nat×Nat×AV)}:wM P N (aBuildSlice false .dyn n sz len z ps) d r dead fs n T h Q=wL P N (fillA z ps) (len*sz) (.sl n 0 0 len sz) d r dead fs n T h Q:=by
 unfold aBuildSlice
 cases fillA z ps with
 |none=>simp[Qct,wL]
 |some cs=>
  simp only[QfW,Bool.false_eq_true,if_false]
  split
  ·exact Qku rfl
  ·exact Qct
theorem Qdb {sz bytes:Nat} {z:List AV} {k1 k2:IntKind} {l c:Int}:wM P N (aMakeSlice .dyn n sz bytes z (.int k1 l) (.int k2 c)) d r dead fs n T h Q=
  if 0<=l/\l<=c/\bytes*c<=140737488355328/\c<=140737488355328 then wN P N (List.replicate c.toNat z).flatten (.sl n 0 0 l.toNat sz) d r dead fs n T h Q else False:=by
 by_cases hc:0<=l/\l<=c/\bytes*c<=140737488355328/\c<=140737488355328
 ·simp only[aMakeSlice,if_pos hc];exact Qku (x:=fun g=> .cells g (List.replicate c.toNat z).flatten) rfl
 simp_all [aMakeSlice,if_neg,Qct]
theorem Qgx {cs:List AV}:fillA cs []=some cs:=rfl
theorem QfE {cs:List AV} {off size:Nat} {v:AV} {r:List (Nat×Nat×AV)}:fillA cs ((off,size,v)::r)=if v.cells.length=size/\off+size<=cs.length/\v.boxable=true then fillA (putR cs off v.cells) r else none:=rfl
theorem Qgy {z:List AV} {ps:List (Nat×Nat×AV)}:aBuild z ps=(fillA z ps).map AV.agg:=by grind [aBuild]
theorem Qgz {k:IntKind} {a:Int}:(AV.int k a).cells=[.int k a]:=rfl
theorem QgA {cs:List AV}:(AV.agg cs).cells=cs:=rfl
theorem QhP {b g off len sz:Nat}:(AV.sl b g off len sz).cells=[.sl b g off len sz]:=rfl
theorem QgB {cs:List AV} {len sz:Nat}:(AV.fsl cs len sz).cells=[.fsl cs len sz]:=rfl
theorem QeG:AV.nilsl.cells=[.nilsl]:=rfl
theorem Qi5 {k:IntKind} {a:Int}:(AV.int k a).boxable=true:=rfl
theorem Qi6 {cs:List AV}:(AV.agg cs).boxable=true:=rfl
theorem Qkv {b g off len sz:Nat}:(AV.sl b g off len sz).boxable=true:=rfl
theorem Qi7 {cs:List AV} {len sz:Nat}:(AV.fsl cs len sz).boxable=true:=rfl
theorem QgC:AV.nilsl.boxable=true:=rfl
theorem Qi8 {k:IntKind} {a:Int}:(AV.int k a).one=true:=rfl
theorem Qkw {b g off len sz:Nat}:(AV.sl b g off len sz).one=true:=rfl
theorem Qi9 {cs:List AV} {len sz:Nat}:(AV.fsl cs len sz).one=true:=rfl
theorem QgD:AV.nilsl.one=true:=rfl
theorem QhQ {cs:List AV} {off:Nat} {v:AV}:putR cs off [v]=cs.set off v:=rfl
theorem QgE {cs:List AV} {off:Nat} {v w:AV} {vs:List AV}:putR cs off (v::w::vs)=cs.take off++(v::w::vs)++cs.drop (off+(v::w::vs).length):=rfl
def srcB (o:Option Blk) (g off len sz:Nat):Option (List AV):=
 match o with
 |some (.cells g' cs)=>if g'=g/\off+len*sz<=cs.length then some ((cs.drop off).take (len*sz))else none
 |_=>none
theorem Qcl {g g' off len sz:Nat} {cs:List AV}:srcB (some (.cells g' cs)) g off len sz=if g'=g/\off+len*sz<=cs.length then some ((cs.drop off).take (len*sz))else none:=rfl
theorem QjE {sz bytes b g off len b2 g2 off2 len2:Nat}:wM P N (aAppend .dyn n sz bytes (.sl b2 g2 off2 len2 sz) (.sl b g off len sz)) d r dead fs n T h Q=
  ∃ys zs,srcB (h.get b) g off len sz=some ys/\srcB (h.get b2) g2 off2 len2 sz=some zs/\((len2+len)*bytes<=140737488355328/\len2+len<=140737488355328)/\ys.all AV.one=true/\
   wB P N (some (.cells (g2+1) (zs++ys))) b2 (.sl b2 (g2+1) 0 (len2+len) sz) d r dead fs n T h Q:=by
 simp only[aAppend,aSrc,if_true,slLen,QcF,QcE,QdT]
 apply propext;constructor
 ·rintro ⟨cs, hb, h1, h2, cs2, hb2, h3, h4⟩
  rw[hb,hb2,Qcl,Qcl,if_pos ⟨rfl,h1⟩,if_pos ⟨rfl,h3⟩]
  simp_all
 ·rintro ⟨ys, zs, hy, hz, h2, h3, h4⟩
  unfold srcB at hy hz
  grind
end
def Fresh (n:Nat) (h:Heap):Prop:=∀b,n<=b->h.get b=none
theorem Fresh.e {n:Nat}:Fresh n .e:=fun b _=>by simp[Tr.get]
theorem Fresh.le {n m:Nat} {h:Heap} (hf:Fresh n h) (hl:n<=m):Fresh m h:=fun b hb=>hf b (Nat.le_trans hl hb)
theorem Fresh.set {n k:Nat} {h:Heap} {x:Blk} (hf:Fresh n h) (hk:k<1099511627775) (hl:k<n):Fresh n (h.set k x):=fun b hb=>by
 rw[QaK hk (by omega)];exact hf b hb
end Go.AM
namespace Go.AM
variable {P:Program}
def FrzTo (h:Heap) (x y:AV):Prop:=∀(ok:Okc) (c:Ctx ok) (w:World) (v:Value),HRel c h w->VRel c w x v->VRel (lent c) w y v
def FrzL (h:Heap):List AV->List AV->Prop
 |[],[]=>True
 |x::xs,y::ys=>FrzTo h x y/\FrzL h xs ys
 |_,_=>False
variable {h:Heap}
theorem FrzTo.same (x:AV):FrzTo h x x:=fun _ c w v _ hv=>VRel.mono (QeW c w) _ _ hv
theorem FrzL.same:∀(xs:List AV),FrzL h xs xs
 |[]=>trivial
 |x::xs=>⟨.same x,FrzL.same xs⟩
theorem FrzL.length:∀{xs ys:List AV},FrzL h xs ys->ys.length=xs.length
 |[],[],_=>rfl
 |[],_::_,hh=>hh.elim
 |_::_,[],hh=>hh.elim
 |x::xs,y::ys,hh=>by simp[FrzL.length hh.2]
theorem FrzL.pre {ok:Okc} {c:Ctx ok} {w:World} (H:HRel c h w):∀{xs ys:List AV} {vs:List Value},FrzL h xs ys->VPre c w xs vs->VPre (lent c) w ys vs
 |[],[],_,_,_=>by simp[VPre]
 |[],_::_,_,hh,_=>hh.elim
 |_::_,[],_,hh,_=>hh.elim
 |x::xs,y::ys,vs,hh,hv=>by
  simp only[VPre]at hv⊢
  obtain⟨v,vs',rfl,g1,g2⟩:=hv
  exact⟨v,vs',rfl,hh.1 _ c w v H g1,FrzL.pre H hh.2 g2⟩
theorem FrzL.rels {ok:Okc} {c:Ctx ok} {w:World} (H:HRel c h w):∀{xs ys:List AV} {vs:List Value},FrzL h xs ys->VRels c w xs vs->VRels (lent c) w ys vs
 |[],[],_,_,hv=>by grind [VRels]
 |[],_::_,_,hh,_=>hh.elim
 |_::_,[],_,hh,_=>hh.elim
 |x::xs,y::ys,vs,hh,hv=>by
  simp only[VRels]at hv⊢
  obtain⟨v,vs',rfl,g1,g2⟩:=hv
  exact⟨v,vs',rfl,hh.1 _ c w v H g1,FrzL.rels H hh.2 g2⟩
theorem FrzTo.sl {b g off len sz : Nat} {cs ys : List AV} (hb : h.get b = some (.cells g cs)) (hl : off + len * sz <= cs.length) (hL : FrzL h ((cs.drop off).take (len * sz)) ys) :
    FrzTo h (.sl b g off len sz) (.fsl ys len sz):=fun _ c w v H hv=>by
  have hlen:=hL.length
  simp only[VRel]at hv
  rcases hv with⟨hp,rfl,rfl,rfl⟩|⟨cb,base,o,cap,C,e,fr,hp,rfl,hlc,hC,hcap⟩
  · simp_all [VRel]
  · obtain ⟨C', e', fr', hO, hC', hfr, hbs, hpre⟩ := H.here hb hp
    rw[hC]at hC';cases hC'
    by_cases h0:cap=0
    · have hl0 : len = 0 := by omega
      subst hl0
      have hys:ys=[]:=by
        simp_all
      subst hys
      simp only[VRel]
      simp_all
    · obtain ⟨rfl, hbd⟩ := hcap.resolve_left h0
      have hp2:=Qbi (len*sz) (QaM off hpre)
      rw[List.drop_drop]at hp2
      simp only[VRel]
      exact .inr ⟨cb,base+off,cap,C,e,fr,rfl,hlc,by grind,.inr hO,hC,hL.pre H hp2⟩
section
variable {N:NM} {n:Nat} {d:Option Nat} {af dead:List Nat} {r:List SOper} {T:Tmps} {Q:QC} {fs:List Fr}
end
end Go.AM
namespace Go.AM
variable {P:Program}
abbrev HL:=List (Nat×Blk)
def hp:HL->Heap
 |[]=> .e
 |p::r=>(hp r).set p.1 p.2
theorem Qkx:hp []= .e:=rfl
theorem Qcu {b:Nat} {x:Blk} {r:HL}:hp ((b,x)::r)=(hp r).set b x:=rfl
theorem get_e {b:Nat}:Tr.get (α:=Blk) .e b=none:=by simp[Tr.get]
def lkS:List (Nat×Src)->Nat->Option Src
 |[],_=>none
 |(b,s)::r,k=>if k=b then some s else lkS r k
def srcNew (s:Src):List (Nat×Src)->Bool
 |[]=>true
 |(_,t)::r=>(match s,t with| .blk b _,.blk b' _=> !Nat.beq b b'|_,_=>true)&&srcNew s r
def okPs (m:Nat):List (Nat×Src)->HL->Bool
 |[],[]=>true
 |(b,s)::r,(b',_)::l=>Nat.beq b b'&&Nat.blt b 1099511627775&&(Nat.blt b m||((match s with| .blk k _=>Nat.ble m k| .nil=>true)&&srcNew s r))&&(r.all fun p=> !Nat.beq p.1 b)&&okPs m r l
 |_,_=>false
def ow (m:Nat) (ps:List (Nat×Src)):Nat->Option Src:=fun b=>if b<m then none else lkS ps b
def RB (m:Nat) (π:Nat->Option Src) (h:Heap):HL->Prop
 |[]=>True
 |(b',x)::r=>((b'<m/\BRn m π h (some (.blk b' x.gen)) x)\/(m<=b'/\x.gen=0/\(∀g,x≠ .dead g)/\BRn m π h (π b') x))/\RB m π h r
section
variable {m:Nat} {π:Nat->Option Src} {h:Heap}
theorem Qky:∀{L:HL} {ps:List (Nat×Src)},okPs m ps L=true->∀{b:Nat} {x:Blk},(hp L).get b=some x->(b,x)∈L
 |[],[],_,b,x,hx=>by simp[hp,Tr.get]at hx
 |[],_::_,hh,_,_,_=>by simp[okPs]at hh
 |(b',x')::L,[],hh,_,_,_=>by simp[okPs]at hh
 | (b', x') :: L, (k, s) :: ps, hh, b, x, hx => by
  simp only[okPs,Bool.and_eq_true,Nat.blt_eq,Nat.beq_eq]at hh
  obtain⟨⟨⟨⟨rfl,h3⟩,_⟩,_⟩,h4⟩:=hh
  simp only[hp]at hx
  by_cases e:b=k
  ·simp_all [QaL]
  ·rw [QaK h3 e] at hx
   simp[Qky h4 hx]
theorem Qja:∀{L:HL} {ps:List (Nat×Src)},okPs m ps L=true->∀{b:Nat},(hp L).get b=none->lkS ps b=none
 |[],[],_,b,_=>rfl
 |[],_::_,hh,_,_=>by simp[okPs]at hh
 |(b',x')::L,[],hh,_,_=>by simp[okPs]at hh
 | (b', x') :: L, (k, s) :: ps, hh, b, hx => by
  simp only[okPs,Bool.and_eq_true,Nat.blt_eq,Nat.beq_eq]at hh
  obtain⟨⟨⟨⟨rfl,h3⟩,_⟩,_⟩,h4⟩:=hh
  simp only[hp]at hx
  by_cases e:b=k
  ·simp_all [QaL]
  ·rw [QaK h3 e] at hx
   simp only[lkS,if_neg e]
   exact Qja h4 hx
theorem RB.mem:∀{L:HL},RB m π h L->∀{b:Nat} {x:Blk},(b,x)∈L->(b<m/\BRn m π h (some (.blk b x.gen)) x)\/(m<=b/\x.gen=0/\(∀g,x≠ .dead g)/\BRn m π h (π b) x)
 |[],_,_,_,hm=>by cases hm
 |(b',x')::L,hh,b,x,hm=>by
  rcases List.mem_cons.1 hm with e|hm
  ·cases e;exact hh.1
  ·exact RB.mem hh.2 hm
theorem QhR:∀{ps:List (Nat×Src)} {L:HL},okPs m ps L=true->∀{b b1 g:Nat},m<=b->lkS ps b=some (.blk b1 g)->m<=b1
 |[],_,_,_,_,_,_,hs=>by simp[lkS]at hs
 |_::_,[],hh,_,_,_,_,_=>by simp[okPs]at hh
 | (k, s) :: ps, (b', x') :: L, hh, b, b1, g, hb, hs => by
  simp only[okPs,Bool.and_eq_true,Bool.or_eq_true,Nat.blt_eq]at hh
  obtain⟨⟨⟨_,h3⟩,_⟩,h4⟩:=hh
  simp only[lkS]at hs
  split at hs
  ·rename_i e
   cases hs
   rcases h3 with h3|h3
   ·omega
   simp_all
  ·exact QhR h4 hb hs
theorem QdY:∀{ps:List (Nat×Src)} {b g b' g' k:Nat},srcNew (.blk b g) ps=true->lkS ps k=some (.blk b' g')->b≠b'
 |[],_,_,_,_,_,_,hs=>by simp[lkS]at hs
 | (j, s) :: ps, b, g, b', g', k, hh, hs => by
  simp only[srcNew,Bool.and_eq_true]at hh
  simp only[lkS]at hs
  split at hs
  ·cases hs
   have:=hh.1
   simp only[Bool.not_eq_true']at this
   intro e;simp_all
  ·exact QdY hh.2 hs
theorem QhS:∀{ps:List (Nat×Src)} {L:HL},okPs m ps L=true->∀{b1 b2 b g g2:Nat},m<=b1->m<=b2->lkS ps b1=some (.blk b g)->lkS ps b2=some (.blk b g2)->b1=b2
 |[],_,_,_,_,_,_,_,_,_,hs,_=>by simp[lkS]at hs
 |_::_,[],hh,_,_,_,_,_,_,_,_,_=>by simp[okPs]at hh
 | (k, s) :: ps, (b', x') :: L, hh, b1, b2, b, g, g2, m1, m2, h1, h2 => by
  simp only[okPs,Bool.and_eq_true,Bool.or_eq_true,Nat.blt_eq]at hh
  obtain⟨⟨⟨_,hn⟩,_⟩,h4⟩:=hh
  simp only[lkS]at h1 h2
  split at h1<;>split at h2
  ·omega
  ·rename_i e1 e2
   cases h1
   rcases hn with hn|hn
   ·omega
   ·exact absurd rfl (QdY hn.2 h2)
  ·rename_i e1 e2
   cases h2
   rcases hn with hn|hn
   ·omega
   ·exact absurd rfl (QdY hn.2 h1)
  ·exact QhS h4 m1 m2 h1 h2
theorem Qjb:∀{ps:List (Nat×Src)} {L:HL},okPs m ps L=true->∀{b:Nat} {s:Src},lkS ps b=some s->∃x,(b,x)∈L
 |[],_,_,_,_,hs=>by simp[lkS]at hs
 |_::_,[],hh,_,_,_=>by simp[okPs]at hh
 | (k, t) :: ps, (b', x') :: L, hh, b, s, hs => by
  simp only[okPs,Bool.and_eq_true,Nat.beq_eq]at hh
  obtain⟨⟨⟨⟨rfl,_⟩,_⟩,_⟩,h4⟩:=hh
  simp only[lkS]at hs
  split at hs
  ·simp_all
  ·obtain ⟨x, hx⟩ := Qjb h4 hs
   grind
def RO (m:Nat) (L:HL) (h:Heap):Prop:=∀b,b<m->(∀p∈L,p.1≠b)->h.get b=none
theorem RO.zero {L:HL}:RO 0 L h:=fun b hb=>absurd hb (Nat.not_lt_zero _)
theorem RO.e {L:HL}:RO m L .e:=fun b _ _=>get_e
theorem RO.set {L:HL} {k:Nat} {x:Blk} (hk:(Nat.blt k 1099511627775&&(Nat.ble m k||L.any fun p=>Nat.beq p.1 k))=true) (hr:RO m L h):RO m L (h.set k x):=fun b hb hn=>by
 simp only[Bool.and_eq_true,Bool.or_eq_true,Nat.blt_eq,Nat.ble_eq,List.any_eq_true,Nat.beq_eq]at hk
 obtain⟨h1,h2⟩:=hk
 have:b≠k:=by
  grind
 rw[QaK h1 this];exact hr b hb hn
def Rec (m:Nat) (T':Tmps) (L:HL) (T:Tmps) (h:Heap):Prop:=∃ps,okPs m ps L=true/\RO m L h/\RB m (ow m ps) h L/\RT m (ow m ps) h T' T
theorem ow_ge {ps:List (Nat×Src)} {b:Nat} (hb:m<=b):ow m ps b=lkS ps b:=if_neg (by omega)
theorem Rec.maps {ps:List (Nat×Src)} {L:HL} (ho:okPs m ps L=true) (hb:RB m (ow m ps) h L):Maps m (ow m ps) h:=by
 refine⟨fun b' b g hm hs=>?_,fun b1 b2 b g g2 m1 m2 h1 h2=>QhS ho m1 m2 (by rw[<-ow_ge m1];exact h1) (by rw[<-ow_ge m2];exact h2)⟩
 rw[ow_ge hm]at hs
 refine⟨?_,QhR ho hm hs⟩
 obtain⟨x,hx⟩:=Qjb ho hs
 rcases hb.mem hx with⟨q0,_⟩|⟨_,q1,q2,q3⟩
 ·omega
 rw[ow_ge hm,hs]at q3
 cases x with
 |cells g' cs=>obtain⟨ds,_,k1,_⟩:=q3;exact⟨_,k1,rfl,fun k=>by simp⟩
 |map g' es=>obtain⟨ds,k1,_⟩:=q3;exact⟨_,k1,rfl,fun k=>by simp⟩
 |loop g' N T ps asg body st=>obtain⟨T0,k1,_⟩:=q3;exact⟨_,k1,rfl,fun k=>by simp⟩
 |dead g'=>exact absurd rfl (q2 g')
theorem Rec.heap {ps:List (Nat×Src)} {L:HL} (ho:okPs m ps L=true) (hb:RB m (ow m ps) h L):RH m (ow m ps) h (hp L):=fun b' x' hx=>hb.mem (Qky ho hx)
theorem Qkz:∀{L:HL} {ps:List (Nat×Src)},okPs m ps L=true->∀{b:Nat},(hp L).get b=none->∀p∈L,p.1≠b
 |[],_,_,_,_,p,hp=>by cases hp
 |(b',x')::L,[],hh,_,_,_,_=>by simp[okPs]at hh
 | (b', x') :: L, (k, s) :: ps, hh, b, hx, p, hpm => by
  simp only[okPs,Bool.and_eq_true,Nat.blt_eq,Nat.beq_eq]at hh
  obtain⟨⟨⟨⟨rfl,h3⟩,_⟩,_⟩,h4⟩:=hh
  simp only[hp]at hx
  by_cases e:b=k
  ·simp_all [QaL]
  ·rw [QaK h3 e] at hx
   rcases List.mem_cons.1 hpm with rfl|hpm
   ·omega
   ·exact Qkz h4 hx p hpm
theorem Rec.dom {ps:List (Nat×Src)} {L:HL} (ho:okPs m ps L=true) (hr:RO m L h):RD m (ow m ps) h (hp L):=fun b' hx=>
 ⟨fun hlt=>hr b' hlt (Qkz ho hx),fun hge=>by grind [ow_ge,Qja]⟩
theorem W2.recL {sc:SCode} {n:Nat} {Q:SX->St->Prop} {T T':Tmps} {L:HL} (hr:Rec m T' L T h) (hw:W2 P ⟨n,m⟩ sc Q ⟨T',hp L⟩):W2 P ⟨n,m⟩ sc Q ⟨T,h⟩:=by
 obtain⟨ps,ho,hro,hb,ht⟩:=hr
 exact W2.recast (N:=⟨n,m⟩) (Rec.maps ho hb) (Rec.heap ho hb) (Rec.dom ho hro) ht hw
theorem W2.post {sc:SCode} {k:Nat} {Q:SX->St->Prop} {A:St} (hw:W2 P ⟨k,m⟩ sc (fun e B=>Q e B\/∃T' L,Rec m T' L B.T B.h/\Q e ⟨T',hp L⟩) A):W2 P ⟨k,m⟩ sc Q A:=by
 intro code hok c a w S ro hro Q' hQ
 refine hw code hok c a w S ro hro Q' ?_
 rintro e B c' a' w' (hq|⟨T',L,⟨ps,ho,hro,hb,ht⟩,hq⟩) S' E'
 ·grind
 ·have M := Rec.maps ho hb
  exact hQ e ⟨T',hp L⟩ (nctx m (ow m ps) B.h c') a' w' hq ⟨(Rec.heap ho hb).hrel (Rec.dom ho hro) M S'.heap,fun i=>ht i _ c' w' _ S'.heap M (S'.tmps i),S'.size,S'.defers.mono2 (QcD (m:=m) (π:=ow m ps) (h:=B.h) c' w')⟩ (E'.trans (QcD c' w'))
theorem RT.nil {T:Tmps}:RT m π h [] T:=fun _=>Rn.any
theorem RT.cons {T' T:Tmps} {j:Nat} {v:AV} (hv:Rn m π h v (lk T j)) (hr:RT m π h T' T):RT m π h ((j,v)::T') T:=by
 intro i
 rw[Qat]
 split
 ·simp_all
 ·exact hr i
theorem RB.nil:RB m π h []:=trivial
theorem RB.cells {b b' g:Nat} {cs ds:List AV} {r:HL} (hm:Nat.ble m b'=true) (hp:π b'=some (.blk b g)) (hg:h.get b=some (.cells g ds)) (hc:RnL m π h cs ds) (hr:RB m π h r):RB m π h ((b',.cells 0 cs)::r):=
 ⟨.inr ⟨Nat.le_of_ble_eq_true hm,rfl,fun _=>by simp,by rw[hp];exact⟨ds,ds.length,hg,by simp_all⟩⟩,hr⟩
theorem RB.newnil {b':Nat} {r:HL} (hm:Nat.ble m b'=true) (hp:π b'=some .nil) (hr:RB m π h r):RB m π h ((b',.cells 0 [])::r):=⟨.inr ⟨Nat.le_of_ble_eq_true hm,rfl,fun _=>by simp,by rw[hp];rfl⟩,hr⟩
theorem RB.map {b b' g:Nat} {es fs:List (AV×AV)} {r:HL} (hm:Nat.ble m b'=true) (hp:π b'=some (.blk b g)) (hg:h.get b=some (.map g fs)) (hc:RnM m π h es fs) (hr:RB m π h r):RB m π h ((b',.map 0 es)::r):=
 ⟨.inr ⟨Nat.le_of_ble_eq_true hm,rfl,fun _=>by simp,by rw[hp];exact⟨fs,hg,hc⟩⟩,hr⟩
theorem RB.cellsB {b g:Nat} {cs ds:List AV} {r:HL} (hm:Nat.blt b m=true) (hg:h.get b=some (.cells g ds)) (hc:RnL m π h cs ds) (hr:RB m π h r):RB m π h ((b,.cells g cs)::r):=
 ⟨.inl ⟨by simpa using hm,ds,ds.length,hg,by simp_all⟩,hr⟩
theorem RB.mapB {b g:Nat} {es fs:List (AV×AV)} {r:HL} (hm:Nat.blt b m=true) (hg:h.get b=some (.map g fs)) (hc:RnM m π h es fs) (hr:RB m π h r):RB m π h ((b,.map g es)::r):=
 ⟨.inl ⟨by simpa using hm,fs,hg,hc⟩,hr⟩
theorem Qjc {s:Src}:∀{ps:List (Nat×Src)},srcNew s ps=true->∀b' g',lkS ps b'=some g'->(match s,g' with| .blk b _,.blk b2 _=>b≠b2|_,_=>True)
 |[],_,b',g',hs=>by simp[lkS]at hs
 | (j, t) :: ps, hh, b', g', hs => by
  simp only[srcNew,Bool.and_eq_true]at hh
  simp only[lkS]at hs
  split at hs
  ·cases hs
   have:=hh.1
   cases s<;>cases t<;>simp_all
   intro e;simp_all
  ·exact Qjc hh.2 b' g' hs
theorem RnL.nil {m:Nat} {π:Nat->Option Src} {h:Heap}:RnL m π h [] []:=trivial
theorem RnL.cons {m:Nat} {π:Nat->Option Src} {h:Heap} {x y:AV} {xs ys:List AV} (h1:Rn m π h x y) (h2:RnL m π h xs ys):RnL m π h (x::xs) (y::ys):=⟨h1,h2⟩
theorem Rn.fz {ps:List (Nat×Src)} {b g len sz:Nat} {cs ds:List AV} (hb:h.get b=some (.cells g ds)) (hn:srcNew (.blk b g) ps=true) (hm:Nat.ble m b=true) (hl:ds.length=len*sz)
  (hL:RnL m (ow m ps) h cs ds):Rn m (ow m ps) h (.fsl cs len sz) (.sl b g 0 len sz):=by
 refine Rn.frz hb (by simpa using hm) (fun b' g' hb' e=>?_) (by omega) ?_
 ·rw[ow_ge hb']at e;exact Qjc hn b' _ e rfl
 grind
theorem Rn.fzm {ps:List (Nat×Src)} {b g len sz k:Nat} {cs ds:List AV} (hb:h.get b=some (.cells g ds)) (hn:srcNew (.blk b g) ps=true) (hm:Nat.ble m b=true) (hk:k=len) (hl:ds.length=len*sz)
  (hL:RnL m (ow m ps) h cs ds):Rn m (ow m ps) h (.fsl cs k sz) (.sl b g 0 len sz):=by simp_all [Rn.fz]
theorem Rn.fz0 {b g len sz:Nat} {cs ds:List AV} (hb:h.get b=some (.cells g ds)) (hl:ds.length=len*sz)
  (hL:RnL 0 π0 h cs ds):Rn 0 π0 h (.fsl cs len sz) (.sl b g 0 len sz):=by
 refine Rn.frz hb (Nat.zero_le _) (fun b' g' _ e=>by simp[π0]at e) (by omega) ?_
 grind
end
theorem Rn.slot {m:Nat} {π:Nat->Option Src} {h:Heap} {T:Tmps} {j:Nat} {v:AV} (hv:lk T j=v) (hn:noRef v=true):Rn m π h v (lk T j):=by simp_all [Rn.same]
section
variable {m:Nat} {π:Nat->Option Src} {h:Heap}
theorem Rn.x1 {b' b g off len sz:Nat} (hm:Nat.ble m b'=true) (hp:π b'=some (.blk b g)):Rn m π h (.sl b' 0 off len sz) (.sl b g off len sz):=Rn.sl (Nat.le_of_ble_eq_true hm) hp
theorem Rn.x2 {b' b g off:Nat} (hm:Nat.ble m b'=true) (hp:π b'=some (.blk b g)):Rn m π h (.ptr b' 0 off) (.ptr b g off):=Rn.ptr (Nat.le_of_ble_eq_true hm) hp
theorem Rn.x3 {b' b g:Nat} (hm:Nat.ble m b'=true) (hp:π b'=some (.blk b g)):Rn m π h (.map b' 0) (.map b g):=Rn.map (Nat.le_of_ble_eq_true hm) hp
theorem Rn.x4 {b' sz:Nat} (hm:Nat.ble m b'=true) (hp:π b'=some .nil):Rn m π h (.sl b' 0 0 0 sz) .nilsl:=Rn.slnil (Nat.le_of_ble_eq_true hm) hp
theorem Rn.x5 {b g off len sz:Nat} (hm:Nat.ble (b+1) m=true):Rn m π h (.sl b g off len sz) (.sl b g off len sz):=Rn.slB (Nat.le_of_ble_eq_true hm)
theorem Rn.x6 {b g off:Nat} (hm:Nat.ble (b+1) m=true):Rn m π h (.ptr b g off) (.ptr b g off):=Rn.ptrB (Nat.le_of_ble_eq_true hm)
theorem Rn.x7 {b g:Nat} (hm:Nat.ble (b+1) m=true):Rn m π h (.map b g) (.map b g):=Rn.mapB (Nat.le_of_ble_eq_true hm)
end
section
variable {k m n:Nat} {T:Tmps} {h:Heap} {Q:QC} {fs:List Fr} {α:Type} {env:α->Tmps} {H:α->HL} {I:α->Prop} {μ:α->Nat} {a:α}
def loopR (P:Program) (k m:Nat) {α:Type} (env:α->Tmps) (H:α->HL) (I:α->Prop) (μ:α->Nat) (a:α) (fs:List Fr) (Q:QC):QC:=fun e T h n=>
 match e with
 | .normal=>∃a',μ a'<μ a/\I a'/\Rec m (env a') (H a') T h
 |e=>wX P ⟨k,m⟩ e fs n T h Q
theorem QdZ:loopR P k m env H I μ a fs Q .normal T h n=∃a',μ a'<μ a/\I a'/\Rec m (env a') (H a') T h:=rfl
theorem QfF {i:Nat}:loopR P k m env H I μ a fs Q (.exit i) T h n=wX P ⟨k,m⟩ (.exit i) fs n T h Q:=rfl
theorem QgF:loopR P k m env H I μ a fs Q .ret T h n=wX P ⟨k,m⟩ .ret fs n T h Q:=rfl
theorem Qa3 {b:SCode} (n0:Nat) (env:α->Tmps) (H:α->HL) (I:α->Prop) (μ:α->Nat) (a0:α)
  (h0:Rec m (env a0) (H a0) T h) (hI:I a0) (round:∀a,I a->wS P ⟨k,m⟩ b [] n0 (env a) (hp (H a)) (loopR P k m env H I μ a fs Q)):wS P ⟨k,m⟩ (.loop b) fs n T h Q:=by
 show W2 P ⟨k,m⟩ (.loop b) (fun e B=>∃n,ct P ⟨k,m⟩ fs Q e B.T B.h n) ⟨T,h⟩
 refine W2.loop (fun q B=>∃a,μ a=q/\I a/\Rec m (env a) (H a) B.T B.h) (μ a0) ⟨a0,rfl,hI,h0⟩ ?_
 rintro q B ⟨a,rfl,hi,hr⟩
 refine W2.recL hr ((wpC.toW (round a hi)).mono ?_)
 rintro e C ⟨n2,hq⟩
 cases e with
 |normal=>obtain⟨a',h1,h2,h3⟩:=hq;exact⟨μ a',h1,a',rfl,h2,h3⟩
 |exit i=>exact⟨n2,hq⟩
 |ret=>exact⟨n2,hq⟩
def loopX (P:Program) (k m:Nat) {α β:Type} (env:α->Tmps) (H:α->HL) (I:α->Prop) (μ:α->Nat) (i:Nat) (T1:β->Tmps) (L1:β->HL) (J:β->Prop) (a:α) (fs:List Fr) (Q:QC):QC:=fun e T h n=>
 match e with
 | .normal=>∃a',μ a'<μ a/\I a'/\Rec m (env a') (H a') T h
 | .exit j=>if j=i then ∃b,J b/\Rec m (T1 b) (L1 b) T h else wX P ⟨k,m⟩ (.exit j) fs n T h Q
 | .ret=>wX P ⟨k,m⟩ .ret fs n T h Q
section
variable {β:Type} {i:Nat} {T1:β->Tmps} {L1:β->HL} {J:β->Prop}
theorem Qd0:loopX P k m env H I μ i T1 L1 J a fs Q .normal T h n=∃a',μ a'<μ a/\I a'/\Rec m (env a') (H a') T h:=rfl
theorem Qdr {j:Nat}:loopX P k m env H I μ i T1 L1 J a fs Q (.exit j) T h n=if j=i then ∃b,J b/\Rec m (T1 b) (L1 b) T h else wX P ⟨k,m⟩ (.exit j) fs n T h Q:=rfl
theorem QgG:loopX P k m env H I μ i T1 L1 J a fs Q .ret T h n=wX P ⟨k,m⟩ .ret fs n T h Q:=rfl
end
theorem QaF {b:SCode} {β:Type} (n0:Nat) (env:α->Tmps) (H:α->HL) (I:α->Prop) (μ:α->Nat) (a0:α) (i n1:Nat) (T1:β->Tmps) (L1:β->HL) (J:β->Prop)
  (h0:Rec m (env a0) (H a0) T h) (hI:I a0) (round:∀a,I a->wS P ⟨k,m⟩ b [] n0 (env a) (hp (H a)) (loopX P k m env H I μ i T1 L1 J a fs Q))
  (cont:∀b,J b->wX P ⟨k,m⟩ (.exit i) fs n1 (T1 b) (hp (L1 b)) Q):wS P ⟨k,m⟩ (.loop b) fs n T h Q:=by
 show W2 P ⟨k,m⟩ (.loop b) (fun e B=>∃n,ct P ⟨k,m⟩ fs Q e B.T B.h n) ⟨T,h⟩
 refine W2.post ?_
 refine W2.loop (fun q B=>∃a,μ a=q/\I a/\Rec m (env a) (H a) B.T B.h) (μ a0) ⟨a0,rfl,hI,h0⟩ ?_
 rintro q B ⟨a,rfl,hi,hr⟩
 refine W2.recL hr ((wpC.toW (round a hi)).mono ?_)
 rintro e C ⟨n2,hq⟩
 cases e with
 |normal=>obtain⟨a',h1,h2,h3⟩:=hq;exact⟨μ a',h1,a',rfl,h2,h3⟩
 | exit j =>
  replace hq:loopX P k m env H I μ i T1 L1 J a fs Q (.exit j) C.T C.h n2:=hq
  rw[Qdr]at hq
  split at hq
  ·rename_i e; subst e
   obtain⟨b,hJ,hr⟩:=hq
   exact .inr ⟨_,_,hr,n1,cont b hJ⟩
  ·exact .inl ⟨n2,hq⟩
 |ret=>exact .inl ⟨n2,hq⟩
end
section
variable {N:NM} {n:Nat} {d:Option Nat} {af dead:List Nat} {r:List SOper} {T:Tmps} {h:Heap} {Q:QC} {fs:List Fr}
def wA (P:Program) (N:NM) (zs ys:Option (List AV)) (g len2 len sz bytes b:Nat) (d:Option Nat) (ops:List SOper) (dead:List Nat) (fs:List Fr) (n:Nat) (T:Tmps) (h:Heap) (Q:QC):Prop:=
 ∃ y z, ys = some y /\ zs = some z /\ ((len2 + len) * bytes <= 140737488355328 /\ len2 + len <= 140737488355328) /\ y.all AV.one = true /\
   wB P N (some (.cells (g+1) (z++y))) b (.sl b (g+1) 0 (len2+len) sz) d ops dead fs n T h Q
theorem QeH {sz bytes b g off len b2 g2 off2 len2:Nat}:wM P N (aAppend .dyn n sz bytes (.sl b2 g2 off2 len2 sz) (.sl b g off len sz)) d r dead fs n T h Q=
  wA P N (srcB (h.get b2) g2 off2 len2 sz) (srcB (h.get b) g off len sz) g2 len2 len sz bytes b2 d r dead fs n T h Q:=by
 rw[QjE]
 apply propext;constructor
 ·rintro⟨ys,zs,h1,h2,h3,h4,h5⟩;exact⟨ys,zs,h1,h2,h3,h4,h5⟩
 ·rintro⟨ys,zs,h1,h2,h3,h4,h5⟩;simp_all
theorem Qjd {zs ys:List AV} {g len2 len sz bytes b:Nat} (h1:(len2+len)*bytes<=140737488355328) (h2:len2+len<=140737488355328):
  wA P N (some zs) (some ys) g len2 len sz bytes b d r dead fs n T h Q=if ys.all AV.one=true then wB P N (some (.cells (g+1) (zs++ys))) b (.sl b (g+1) 0 (len2+len) sz) d r dead fs n T h Q else False:=by
 by_cases ho:ys.all AV.one=true
 ·rw [if_pos ho]; apply propext; constructor
  ·rintro⟨y,z,e1,e2,_,_,h5⟩;simp_all
  ·intro h5;exact⟨ys,zs,rfl,rfl,⟨h1,h2⟩,ho,h5⟩
 ·rw [if_neg ho]; apply propext; constructor
  ·rintro⟨y,z,e1,e2,_,h4,h5⟩;grind
  simp_all
theorem QhT {g len sz:Nat} {cs:List AV} (hl:cs.length=len*sz):srcB (some (.cells g cs)) g 0 len sz=some cs:=by
 rw[Qcl,if_pos ⟨rfl,by omega⟩,List.drop_zero,<-hl,List.take_length]
end
end Go.AM
namespace Go.AM
theorem words:type_of% @QiG/\type_of% @Qj6/\type_of% @QiH/\type_of% @Qgd/\type_of% @Qj7/\type_of% @QiI/\type_of% @Qhi/\type_of% @QiJ/\type_of% @Qhj/\type_of% @QiK/\type_of% @Qj8/\type_of% @wX_sq/\type_of% @Qge/\type_of% @Qfp/\type_of% @Qj9/\type_of% @Qfq/\type_of% @Qes/\type_of% @QdW/\type_of% @QfA/\type_of% @Qgu/\type_of% @ev_t/\type_of% @ev_c/\type_of% @ev_f/\type_of% @Qka/\type_of% @Qat/\type_of% @QfQ/\type_of% @Qkb/\type_of% @Qkc/\type_of% @rm_no/\type_of% @QiL/\type_of% @Qgf/\type_of% @Qgg/\type_of% @Qhk/\type_of% @Qgh/\type_of% @QiM/\type_of% @Qhl/\type_of% @Qhm/\type_of% @Qhn/\type_of% @Qet/\type_of% @QdS/\type_of% @Qkd/\type_of% @Qho/\type_of% @QiN/\type_of% @QiO/\type_of% @Qke/\type_of% @QiP/\type_of% @QiQ/\type_of% @Qhp/\type_of% @Qgi/\type_of% @Qkf/\type_of% @wR_eq/\type_of% @wR_un/\type_of% @QiR/\type_of% @Qdo/\type_of% @Qhr/\type_of% @Qhs/\type_of% @Qht/\type_of% @Qhu/\type_of% @Qhv/\type_of% @Qfr/\type_of% @Qgj/\type_of% @Qhw/\type_of% @Qkh/\type_of% @Qgk/\type_of% @QiS/\type_of% @Qhx/\type_of% @Qhy/\type_of% @Qfs/\type_of% @Qgl/\type_of% @QiT/\type_of% @Qki/\type_of% @Qgm/\type_of% @QiU/\type_of% @QiV/\type_of% @Qcs/\type_of% @Qhz/\type_of% @Qkj/\type_of% @Qbx/\type_of% @QfR/\type_of% @Qgp/\type_of% @Qeu/\type_of% @Qev/\type_of% @Qft/\type_of% @Qgq/\type_of% @QhB/\type_of% @Qgr/\type_of% @Qew/\type_of% @Qgs/\type_of% @Qgn/\type_of% @Qgo/\type_of% @Qe0/\type_of% @Qe1/\type_of% @Qe2/\type_of% @Qe3/\type_of% @QhC/\type_of% @QhD/\type_of% @QcG/\type_of% @QcH/\type_of% @QcI/\type_of% @QcJ/\type_of% @QcK/\type_of% @QcL/\type_of% @QiX/\type_of% @QiY/\type_of% @QdU/\type_of% @Qfv/\type_of% @Qex/\type_of% @Qfu/\type_of% @QdV/\type_of% @QhE/\type_of% @QhF/\type_of% @Qkk/\type_of% @wr_u8/\type_of% @Qkm/\type_of% @Qkn/\type_of% @Qkl/\type_of% @Qko/\type_of% @Qfw/\type_of% @Qgt/\type_of% @Qfx/\type_of% @Qey/\type_of% @Qfy/\type_of% @Qez/\type_of% @QeA/\type_of% @QeB/\type_of% @List.elem_cons.{0}/\type_of% @List.elem_nil.{0}/\type_of% @Bool.false_eq_true/\type_of% @Bool.true_eq_false/\type_of% @List.getElem?_cons_zero.{0}/\type_of% @List.getElem?_cons_succ.{0}/\type_of% @decide_eq_true_eq/\type_of% @decide_eq_false_iff_not/\type_of% @decide_true/\type_of% @decide_false/\type_of% @Bool.not_true/\type_of% @Bool.not_false/\type_of% @Bool.not_eq_true'/\type_of% @Bool.not_eq_eq_eq_not/\type_of% @List.nil_append.{0}/\type_of% @List.append_nil.{0}/\type_of% @List.cons_append.{0}/\type_of% @and_true/\type_of% @true_and/\type_of% @Int.natCast_nonneg/\type_of% @Int.toNat_natCast/\type_of% @Nat.mul_one/\type_of% @Nat.zero_add/\type_of% @Int.toNat_zero/\type_of% @QfB/\type_of% @QhG/\type_of% @QiZ/\type_of% @Qfz:=
 ⟨@QiG,@Qj6,@QiH,@Qgd,@Qj7,@QiI,@Qhi,@QiJ,@Qhj,@QiK,@Qj8,@wX_sq,@Qge,@Qfp,@Qj9,@Qfq,@Qes,@QdW,@QfA,@Qgu,@ev_t,@ev_c,@ev_f,@Qka,@Qat,@QfQ,@Qkb,@Qkc,@rm_no,@QiL,@Qgf,@Qgg,@Qhk,@Qgh,@QiM,@Qhl,@Qhm,@Qhn,@Qet,@QdS,@Qkd,@Qho,@QiN,@QiO,@Qke,@QiP,@QiQ,@Qhp,@Qgi,@Qkf,@wR_eq,@wR_un,@QiR,@Qdo,@Qhr,@Qhs,@Qht,@Qhu,@Qhv,@Qfr,@Qgj,@Qhw,@Qkh,@Qgk,@QiS,@Qhx,@Qhy,@Qfs,@Qgl,@QiT,@Qki,@Qgm,@QiU,@QiV,@Qcs,@Qhz,@Qkj,@Qbx,@QfR,@Qgp,@Qeu,@Qev,@Qft,@Qgq,@QhB,@Qgr,@Qew,@Qgs,@Qgn,@Qgo,@Qe0,@Qe1,@Qe2,@Qe3,@QhC,@QhD,@QcG,@QcH,@QcI,@QcJ,@QcK,@QcL,@QiX,@QiY,@QdU,@Qfv,@Qex,@Qfu,@QdV,@QhE,@QhF,@Qkk,@wr_u8,@Qkm,@Qkn,@Qkl,@Qko,@Qfw,@Qgt,@Qfx,@Qey,@Qfy,@Qez,@QeA,@QeB,@List.elem_cons.{0},@List.elem_nil.{0},@Bool.false_eq_true,@Bool.true_eq_false,@List.getElem?_cons_zero.{0},@List.getElem?_cons_succ.{0},@decide_eq_true_eq,@decide_eq_false_iff_not,@decide_true,@decide_false,@Bool.not_true,@Bool.not_false,@Bool.not_eq_true',@Bool.not_eq_eq_eq_not,@List.nil_append.{0},@List.append_nil.{0},@List.cons_append.{0},@and_true,@true_and,@Int.natCast_nonneg,@Int.toNat_natCast,@Nat.mul_one,@Nat.zero_add,@Int.toNat_zero,@QfB,@QhG,@QiZ,@Qfz⟩
theorem wordsN:type_of% @QhO/\type_of% @Qdb/\type_of% @QcT/\type_of% @Qgy/\type_of% @Option.map_some.{0,0}/\type_of% @QfW/\type_of% @wN_go/\type_of% @wB_go/\type_of% @QaL/\type_of% @QaK/\type_of% @Qgx/\type_of% @QfE/\type_of% @Qgz/\type_of% @QgA/\type_of% @QhP/\type_of% @QgB/\type_of% @QeG/\type_of% @Qi5/\type_of% @Qi6/\type_of% @Qkv/\type_of% @Qi7/\type_of% @QgC/\type_of% @Qi8/\type_of% @Qkw/\type_of% @Qi9/\type_of% @QgD/\type_of% @QhQ/\type_of% @List.set_cons_zero.{0}/\type_of% @List.set_cons_succ.{0}/\type_of% @List.length_cons.{0}/\type_of% @List.length_nil.{0}/\type_of% @List.all_cons.{0}/\type_of% @List.all_nil.{0}/\type_of% @Bool.and_true/\type_of% @Bool.true_and/\type_of% @List.drop_zero.{0}/\type_of% @List.drop_succ_cons.{0}/\type_of% @List.take_succ_cons.{0}/\type_of% @List.take_zero.{0}/\type_of% @List.head?_cons.{0}/\type_of% @QgE/\type_of% @Nat.le_refl/\type_of% @Int.cast_ofNat_Int/\type_of% @Int.natCast_zero/\type_of% @Int.natCast_one:=
 ⟨@QhO,@Qdb,@QcT,@Qgy,@Option.map_some.{0,0},@QfW,@wN_go,@wB_go,@QaL,@QaK,@Qgx,@QfE,@Qgz,@QgA,@QhP,@QgB,@QeG,@Qi5,@Qi6,@Qkv,@Qi7,@QgC,@Qi8,@Qkw,@Qi9,@QgD,@QhQ,@List.set_cons_zero.{0},@List.set_cons_succ.{0},@List.length_cons.{0},@List.length_nil.{0},@List.all_cons.{0},@List.all_nil.{0},@Bool.and_true,@Bool.true_and,@List.drop_zero.{0},@List.drop_succ_cons.{0},@List.take_succ_cons.{0},@List.take_zero.{0},@List.head?_cons.{0},@QgE,@Nat.le_refl,@Int.cast_ofNat_Int,@Int.natCast_zero,@Int.natCast_one⟩
theorem wordsR:type_of% @Qkx/\type_of% @Qcu/\type_of% @get_e/\type_of% @QdZ/\type_of% @QfF/\type_of% @QgF/\type_of% @Qd0/\type_of% @Qdr/\type_of% @QgG/\type_of% @QeH/\type_of% @Qjd/\type_of% @QhT/\type_of% @Int.ofNat_lt/\type_of% @Int.ofNat_le/\type_of% @Int.ofNat_inj/\type_of% @Int.natCast_pos/\type_of% @Int.natCast_add/\type_of% @List.length_map.{0,0}/\type_of% @List.length_append.{0}/\type_of% @List.take_length.{0}/\type_of% @Nat.zero_mul/\type_of% @Nat.one_mul/\type_of% @Nat.add_zero/\type_of% @Int.zero_add/\type_of% @Nat.not_lt_zero/\type_of% @Int.le_refl/\type_of% @not_true/\type_of% @not_false_iff/\type_of% @Nat.lt_irrefl/\type_of% @Int.lt_irrefl:=
 ⟨@Qkx,@Qcu,@get_e,@QdZ,@QfF,@QgF,@Qd0,@Qdr,@QgG,@QeH,@Qjd,@QhT,@Int.ofNat_lt,@Int.ofNat_le,@Int.ofNat_inj,@Int.natCast_pos,@Int.natCast_add,@List.length_map.{0,0},@List.length_append.{0},@List.take_length.{0},@Nat.zero_mul,@Nat.one_mul,@Nat.add_zero,@Int.zero_add,@Nat.not_lt_zero,@Int.le_refl,@not_true,@not_false_iff,@Nat.lt_irrefl,@Int.lt_irrefl⟩
end Go.AM
namespace Go.AM
variable {P:Program}
section
variable {h:Heap}
end
section
variable {h:Heap}
theorem FrzTo.fn {f:Nat} {xs ys us vs:List AV} (hL:FrzL h xs ys) (hK:FrzL h us vs):FrzTo h (.fn f xs us) (.fn f ys vs):=fun _ c w v H hv=>by
 simp only[VRel]at hv⊢
 obtain⟨x',y',rfl,h1,h2⟩:=hv
 exact⟨x',y',rfl,hL.rels H h1,hK.rels H h2⟩
theorem FrzTo.ptr {b g off:Nat} {cs ys:List AV} (hb:h.get b=some (.cells g cs)) (hL:FrzL h (cs.drop off) ys):FrzTo h (.ptr b g off) (.fptr ys):=fun _ c w v H hv=>by
 simp only[VRel]at hv
 obtain⟨cb,base,hp,rfl⟩:=hv
 obtain⟨C',e',fr',hO,hC',hfr,hbs,hpre⟩:=H.here hb hp
 have hp2:=QaM off hpre
 rw[List.drop_drop]at hp2
 simp only[VRel]
 exact⟨cb,base+off,C',e',fr',rfl,.inr hO,hC',hL.pre H hp2⟩
theorem HSpec.lend {f:Nat} {args bs:List AV} {v:AV} (hL:FrzL h args bs) (hp:PSpec P f bs v) (hv:flatV v=true):HSpec P f args h v h:=by
 obtain⟨h',hc,_⟩:=hp.2.2
 exact⟨hc,fun c w cargs H ha=>(hp.borrow hv H (hL.rels H ha)).2⟩
end
end Go.AM
namespace Go.AM
variable {P:Program}
def noLoop:SCode->Bool
 | .loop _| .mloop .. =>false
 | .seq a b=>noLoop a&&noLoop b
 | .cond _ a b=>noLoop a&&noLoop b
 | .block _ b=>noLoop b
 | .rfunc .. =>false
 |_=>true
theorem wpC.toW1 {N:NM}:∀{c:SCode} {n:Nat} {T:Tmps} {h:Heap} {Q:QC},noLoop c=true->wpC P N c n T h Q->W P N.n c (fun e B=>∃n,Q e B.T B.h n) ⟨T,h⟩
 | .skip,n,T,h,Q,_,hk=>W.skip ⟨n,hk⟩
 | .ret,n,T,h,Q,_,hk=>W.ret ⟨n,hk⟩
 | .exit i,n,T,h,Q,_,hk=>W.exit ⟨n,hk⟩
 | .bad,_,_,_,_,_,hk=>hk.elim
 | .mloop ..,n,T,h,Q,hn,hk=>by simp[noLoop]at hn
 | .rfunc ..,n,T,h,Q,hn,hk=>by simp[noLoop]at hn
 | .loop _,n,T,h,Q,hn,hk=>by simp[noLoop]at hn
 | .region ops [] dead,n,T,h,Q,_,hk=>by
  have:=wpR.toWR (i:=0) hk
  exact W.regionR n (this|>fun h=>by simpa using(show _ from(wpC.toW.wr_mono h)))
 | .region ops (p::ps) dead,n,T,h,Q,_,hk=>by
  obtain⟨fs,T',h',h1,h2,h3⟩:=wpRF.toF (i:=0) hk
  grind [W.regionF]
 | .seq a b,n,T,h,Q,hn,hk=>by
  simp only[wpC]at hk
  simp only[noLoop,Bool.and_eq_true]at hn
  refine W.seq ((wpC.toW1 (c:=a) hn.1 hk).mono ?_)
  rintro e B ⟨n',hq⟩
  cases e with
  |normal=>exact wpC.toW1 hn.2 hq
  |exit i=>exact⟨n',hq⟩
  |ret=>exact⟨n',hq⟩
 | .cond x a b,n,T,h,Q,hn,⟨t,hx,hk⟩=>by
  simp only[noLoop,Bool.and_eq_true]at hn
  refine W.cond hx ?_ ?_
  ·intro e;rw[if_pos e]at hk;exact wpC.toW1 hn.1 hk
  ·intro e;rw[if_neg (by simp[e])]at hk;exact wpC.toW1 hn.2 hk
 | .block i b,n,T,h,Q,hn,hk=>by
  simp only[wpC]at hk
  refine W.block ((wpC.toW1 (c:=b) hn hk).mono ?_)
  grind
section
variable {N:NM} {n:Nat} {T L:Tmps} {h:Heap} {Q:QC} {fs:List Fr} {b2:Nat} {G:Prop}
end
end Go.AM
namespace Go.AM
variable {P:Program}
section
variable {N:NM} {n:Nat} {d:Option Nat} {af dead:List Nat} {r:List SOper} {T:Tmps} {h:Heap} {Q:QC} {fs:List Fr}
theorem Qd1 (hl:n<1099511627775):wM P N (aMakeMap .dyn n) d r dead fs n T h Q=if h.get n=none then wR P N r dead fs (n+1) (putD T d (.map n 0)) (h.set n (.map 0 [])) Q else False:=by
 have hl':Nat.blt n lim=true:=by simp[Nat.blt];unfold lim;omega
 apply propext;constructor
 ·rintro ⟨v', h1, hm, hk⟩
  unfold aMakeMap HM.new at hm
  simp only[HM.run]at hm
  cases hn:h.get n with
  |none=>
   rw[hn]at hm
   obtain⟨hl,hm⟩:=Qav hm
   simp only[HM.run,Option.some.injEq,Prod.mk.injEq]at hm
   obtain⟨rfl,rfl⟩:=hm
   rw[if_pos rfl];exact hk
  |some z=>rw[hn]at hm;cases hm
 ·split
  ·rename_i hn
   intro hk
   refine⟨_,_,?_,hk⟩
   grind [aMakeMap,HM.new,HM.run]
  simp_all
def keyM (k:IntKind) (v:AV) (l:List Nat):List (AV×AV):=l.map fun x:Nat=>(.int k (x:Int),v)
theorem RnM.keyM {m:Nat} {π:Nat->Option Src} {h:Heap} {k:IntKind} {v:AV} (hv:noRef v=true):∀{l:List Nat},RnM m π h (keyM k v l) (keyM k v l)
 |[]=>trivial
 |x::l=>⟨⟨Rn.same rfl,Rn.same hv⟩,RnM.keyM hv (l:=l)⟩
end
theorem wordsM:AV.nilmap.boxable=true/\AV.nilmap.cells=[.nilmap]/\(∀b g,(AV.map b g).cells=[.map b g])/\(∀b g,(AV.map b g).one=true)/\(∀b g,(AV.map b g).boxable=true)/\AV.nilmap.one=true:=
 ⟨rfl,rfl,fun _ _=>rfl,fun _ _=>rfl,fun _ _=>rfl,rfl⟩
theorem HSpec.QhU {f m:Nat} {sf:SFn} {args:List AV} {L0 L:HL} {v:AV} (n:Nat) (hok:okFn P f sf=true) (hl:Nat.ble args.length sf.n=true) (hm:(Nat.ble m 1099511627775&&L0.all fun p=>Nat.blt p.1 m)=true)
  (hv:noRef v=true) (hw:wS P ⟨sf.n,m⟩ sf.body [] n (argT 0 args) (hp L0) fun e T k _=>(e= .normal\/e= .ret)/\∃vs,resV T k sf.res=some vs/\resOf vs=v/\Rec m [] L T k):HSpec P f args (hp L0) v (hp L):=by
 simp only[Bool.and_eq_true,Nat.ble_eq]at hm
 refine HSpec.of_W2 hok (Nat.le_of_ble_eq_true hl) (fun b hb=>?_) ((wpC.toW hw).mono ?_)
 ·have : ∀ M : HL, M.all (fun p => Nat.blt p.1 m) = true -> (hp M).get b = none := by
   intro M
   induction M with
   |nil=>intro _;exact get_e
   |cons q M ih=>
    obtain⟨j,x⟩:=q
    intro hM
    simp only[List.all_cons,Bool.and_eq_true,Nat.blt,Nat.ble_eq]at hM
    rw[Qcu,QaK (by omega) (by omega)];exact ih (by grind [Nat.blt])
  grind
 ·rintro e B ⟨n', h1, vs, h2, h3, ps, ho, hro, hb, ht⟩
  exact⟨h1,vs,_,h2,Rec.maps ho hb,Rec.heap ho hb,Rec.dom ho hro,by simp_all [Rn.same]⟩
end Go.AM
namespace Go.AM
variable {P:Program}
section
variable {N:NM} {n:Nat} {d:Option Nat} {dead:List Nat} {r:List SOper} {T:Tmps} {h:Heap} {Q:QC} {fs:List Fr}
theorem QeI {sz bytes len b2 g2 off2 len2:Nat} {cs:List AV}:wM P N (aAppend .dyn n sz bytes (.sl b2 g2 off2 len2 sz) (.fsl cs len sz)) d r dead fs n T h Q=
  wA P N (srcB (h.get b2) g2 off2 len2 sz) (some cs) g2 len2 len sz bytes b2 d r dead fs n T h Q:=by
 simp only[aAppend,aSrc,if_true,slLen,QcF,QcE,QdT]
 apply propext;constructor
 ·rintro ⟨h2, cs2, hb2, h3, h4⟩
  rw[hb2,Qcl,if_pos ⟨rfl,h3⟩]
  exact⟨_,_,rfl,rfl,⟨h2.1,h2.2.1⟩,h2.2.2,h4⟩
 ·rintro ⟨ys, zs, hy, hz, h2, h3, h4⟩
  cases hy
  unfold srcB at hz
  grind
theorem Qc1 {sz bytes b2 g2 off2 len2:Nat}:wM P N (aAppend .dyn n sz bytes (.sl b2 g2 off2 len2 sz) .nilsl) d r dead fs n T h Q=
  wA P N (srcB (h.get b2) g2 off2 len2 sz) (some []) g2 len2 0 sz bytes b2 d r dead fs n T h Q:=by
 simp only[aAppend,aSrc,if_true,slLen,QcF,QcE,QdT]
 apply propext;constructor
 ·rintro ⟨h2, cs2, hb2, h3, h4⟩
  rw[hb2,Qcl,if_pos ⟨rfl,h3⟩]
  exact⟨_,_,rfl,rfl,⟨h2.1,h2.2.1⟩,h2.2.2,h4⟩
 ·rintro ⟨ys, zs, hy, hz, h2, h3, h4⟩
  cases hy
  unfold srcB at hz
  grind
end
theorem QeJ {cs:List AV} {len sz:Nat} {k:IntKind} {a:Int}:aSliceC (some sz) (.fsl cs len sz) (some (.int k a)) none none=
  if 0<=a/\a<=len then some (.fsl ((cs.drop (a.toNat*sz)).take ((len-a.toNat)*sz)) (len-a.toNat) sz)else none:=by
 simp_all [aSliceC,aSlice,bnd]
theorem QeK {cs:List AV} {len sz:Nat} {k:IntKind} {b:Int}:aSliceC (some sz) (.fsl cs len sz) none (some (.int k b)) none=
  if 0<=b/\b<=len then some (.fsl (cs.take (b.toNat*sz)) b.toNat sz)else none:=by
 simp_all [aSliceC,aSlice,bnd]
theorem QeL {cs:List AV} {len sz:Nat} {k k2:IntKind} {a b:Int}:aSliceC (some sz) (.fsl cs len sz) (some (.int k a)) (some (.int k2 b)) none=
  if 0<=a/\a<=b/\b<=len then some (.fsl ((cs.drop (a.toNat*sz)).take ((b.toNat-a.toNat)*sz)) (b.toNat-a.toNat) sz)else none:=by
 simp_all [aSliceC,aSlice,bnd]
theorem QfG {b g off len sz:Nat} {k:IntKind} {a:Int}:aSliceC (some sz) (.sl b g off len sz) (some (.int k a)) none none=
  if 0<=a/\a<=len then some (.sl b g (off+a.toNat*sz) (len-a.toNat) sz)else none:=by
 simp_all [aSliceC,aSlice,bnd]
theorem QfH {b g off len sz:Nat} {k:IntKind} {c:Int}:aSliceC (some sz) (.sl b g off len sz) none (some (.int k c)) none=
  if 0<=c/\c<=len then some (.sl b g off c.toNat sz)else none:=by
 simp_all [aSliceC,aSlice,bnd]
theorem QfI {b g off len sz:Nat} {k k2:IntKind} {a c:Int}:aSliceC (some sz) (.sl b g off len sz) (some (.int k a)) (some (.int k2 c)) none=
  if 0<=a/\a<=c/\c<=len then some (.sl b g (off+a.toNat*sz) (c.toNat-a.toNat) sz)else none:=by
 simp_all [aSliceC,aSlice,bnd]
end Go.AM
namespace Go.AM
variable {P:Program}
def HM.tch {α:Type} (B:Nat->Prop):HM α->Prop
 | .ret _=>True
 | .fail=>True
 | .look b k=>B b/\∀x,(k x).tch B
 | .put b _ k=>B b/\k.tch B
theorem HM.Ql4 {α:Type} {B:Nat->Prop} (m:HM α):m.tch B->∀h b,b∈(m.fp h).1\/b∈(m.fp h).2->B b:=by
 induction m with
 |ret a=>intro _ h b hb;simp[HM.fp]at hb
 |fail=>intro _ h b hb;simp[HM.fp]at hb
 |look b k ih=>
  rintro⟨h1,h2⟩ h b' hb
  simp only[HM.fp,List.mem_cons]at hb
  rcases hb with(rfl|hb)|hb
  ·exact h1
  ·grind
  ·grind
 |put b x k ih=>
  rintro⟨h1,h2⟩ h b' hb
  simp only[HM.fp,List.mem_cons]at hb
  rcases hb with hb|rfl|hb
  ·grind
  ·exact h1
  ·grind
theorem HM.Qld {α β:Type} {B:Nat->Prop} {m:HM α} {f:α->HM β} (h1:m.tch B) (h2:∀a,(f a).tch B):(m.bind f).tch B:=by
 induction m with
 |ret a=>exact h2 a
 |fail=>trivial
 |look b k ih=>exact⟨h1.1,fun x=>ih x (h1.2 x)⟩
 |put b x k ih=>exact⟨h1.1,ih h1.2⟩
theorem Qje {α:Type} {B:Nat->Prop} (o:Option α):(HM.opt o).tch B:=by cases o<;>trivial
theorem Qcm {α:Type} {B:Nat->Prop} {b g:Nat} {k:List AV->HM α} (hb:B b) (hk:∀cs,(k cs).tch B):(HM.cells b g k).tch B:=by
 refine⟨hb,fun x=>?_⟩
 match x with
 |some (.cells g' cs)=>
  simp only
  cases Nat.beq g' g<;>first|exact trivial|exact hk cs
 |some (.map _ _)=>trivial
 |some (.dead _)=>trivial
 |some (.loop ..)=>trivial
 |none=>trivial
theorem QfX {α:Type} {B:Nat->Prop} {i:Nat} {x:Nat->Blk} {k:Nat->Nat->HM α} (hb:B i) (hk:∀b g,(k b g).tch B):(HM.new .dyn i x k).tch B:=by
 refine⟨hb,fun y=>?_⟩
 match y with
 |none=>exact⟨hb,hk _ _⟩
 |some z=>trivial
def blks:AV->Option (List Nat)
 | .ptr b _ _=>some [b]
 | .sl b _ _ _ _=>some [b]
 | .map b _=>some [b]
 | .any=>none
 | .agg _=>none
 | .tup []=>some []
 | .tup _=>none
 | .fn _ _ _=>none
 | .ifc _ _=>none
 | .typed _ _ _=>none
 |_=>some []
def Pts (v:AV) (bs:List Nat):Prop:=∃cs,blks v=some cs/\∀b∈cs,b∈bs
abbrev Abs:=List (Nat×Option (List Nat))
def absT (T:Tmps):Abs->Nat->Option (List Nat)
 |[],i=>blks (lk T i)
 |(j,a)::r,i=>bif Nat.beq j i then a else absT T r i
def absO (T:Tmps) (A:Abs):Opd->Option (List Nat)
 | .t i=>absT T A i
 | .c v=>blks v
 |_=>none
def SOp.absV (i:Nat) (ax:Opd->Option (List Nat)):SOp->Option (List Nat)
 | .mov x=>ax x
 | .slice _ x _ _ _=>ax x
 | .iaddr _ _ x _=>ax x
 | .faddr _ x=>ax x
 | .alloc .dyn _=>some [i]
 | .box .dyn _=>some [i]
 | .bslice false .dyn _ _ _ _=>some [i]
 | .mkslice .dyn _ _ _ _ _=>some [i]
 | .mkmap .dyn=>some [i]
 | .append .dyn _ _ x _=>(ax x).map fun bs=>i::bs
 |_=>none
def SOp.touch (i:Nat) (ax:Opd->Option (List Nat)):SOp->Option (List Nat)
 | .load _ x=>ax x
 | .store _ x _=>ax x
 | .len _ x=>ax x
 | .alloc .dyn _=>some [i]
 | .box .dyn _=>some [i]
 | .bslice _ .dyn _ _ _ _=>some [i]
 | .mkslice .dyn _ _ _ _ _=>some [i]
 | .mkmap .dyn=>some [i]
 | .append .dyn _ _ x y=>match ax x,ax y with
  |some a,some b=>some (i::(a++b))
  |_,_=>none
 | .copy _ x y=>match ax x,ax y with
  |some a,some b=>some (a++b)
  |_,_=>none
 | .lookup _ _ _ _ x _=>ax x
 | .mupd _ _ x _ _=>ax x
 |s=>bif Nat.beq s.cls 0 then some []else none
def touches (n:Nat) (T:Tmps):List SOper->Abs->List (Option (List Nat))
 |[],_=>[]
 |s::r,A=>s.op.touch n (absO T A)::touches (n+1) T r (match s.dst with|some d=>(d,s.op.absV n (absO T A))::A|none=>A)
def pairsOK (ts:List (Option (List Nat))) (ps:List (Nat×Nat)):Bool:=
 ps.all fun p=>match ts.getD p.1 none,ts.getD p.2 none with
  |some a,some b=>a.all fun x=> !b.elem x
  |_,_=>false
section
variable {i:Nat} {T:Tmps} {ax:Opd->Option (List Nat)} {B:Nat->Prop}
theorem Qle {n:Option Nat} {v:AV} {bs:List Nat} (h:Pts v bs):(aLoad n v).tch (· ∈bs):=by
 obtain⟨cs,h1,h2⟩:=h
 unfold aLoad
 split
 ·simp only [blks, Option.some.injEq] at h1
  subst h1
  refine Qcm (h2 _ (by simp)) fun cs=>?_
  split
  ·exact Qje _
  ·split<;>trivial
 ·split
  ·exact Qje _
  ·split<;>trivial
 ·trivial
theorem QkA {n:Nat} {v u:AV} {bs:List Nat} (h:Pts v bs):(aStore n v u).tch (· ∈bs):=by
 obtain⟨cs,h1,h2⟩:=h
 unfold aStore
 split
 ·simp only [blks, Option.some.injEq] at h1
  subst h1
  have hb:=h2 _ (List.mem_singleton.2 rfl)
  refine Qcm hb fun cs=>?_
  split
  ·exact⟨hb,trivial⟩
  ·trivial
 ·trivial
theorem QlI {k:Nat} {v:AV} {bs:List Nat} (h:Pts v bs):(aLenC k v).tch (· ∈bs):=by
 obtain⟨cs,h1,h2⟩:=h
 unfold aLenC
 split
 ·unfold aLen
  split<;>try trivial
  simp only[blks,Option.some.injEq]at h1
  subst h1
  refine⟨h2 _ (by simp),fun y=>?_⟩
  match y with
  |some (.map g' es)=>
   simp only
   generalize Nat.beq g' _=t
   cases t<;>trivial
  |some (.cells _ _)=>trivial
  |some (.dead _)=>trivial
  |some (.loop ..)=>trivial
  |none=>trivial
 ·trivial
theorem Qeb {sz:Nat} {v:AV} {bs:List Nat} {k:List AV->Nat->HM AV} (h:Pts v bs) (hs:∀b∈bs,B b) (hk:∀ys n,(k ys n).tch B):(aSrc sz v k).tch B:=by
  obtain⟨cs,h1,h2⟩:=h
  unfold aSrc
  split
  · simp only [blks, Option.some.injEq] at h1
    subst h1
    split
    · refine Qcm (hs _ (h2 _ (by simp))) fun cs => ?_
      split
      · exact hk _ _
      · trivial
    · trivial
  · split
    · exact hk _ _
    · trivial
  · exact hk _ _
  · exact hk _ _
  · exact hk _ _
  · split
    · exact hk _ _
    · trivial
  · trivial
theorem QjF {sz bytes : Nat} {x y : AV} {a b : List Nat} (hx : Pts x a) (hy : Pts y b) : (aAppend .dyn i sz bytes x y).tch (· ∈ i :: (a ++ b)) := by
  unfold aAppend
  refine Qeb hy (fun c hc=>by simp[hc]) fun ys n=>?_
  split
  · obtain ⟨cs, h1, h2⟩ := hx
    split
    · split
      · trivial
      · exact QfX (by simp) fun _ _=>trivial
    · split
      · trivial
      · exact QfX (by simp) fun _ _=>trivial
    · split<;>trivial
    · simp only [blks, Option.some.injEq] at h1
      subst h1
      have hb:=h2 _ (List.mem_singleton.2 rfl)
      split
      · refine Qcm (by simp [hb]) fun cs => ?_
        split
        · exact⟨by simp[hb],trivial⟩
        · trivial
      · trivial
    · simp[blks]at h1
    · trivial
  · trivial
theorem Qlf {sz:Nat} {x y:AV} {a b:List Nat} (hx:Pts x a) (hy:Pts y b):(aCopy sz x y).tch (· ∈a++b):=by
  obtain⟨cs,h1,h2⟩:=hx
  unfold aCopy
  split
  · simp only [blks, Option.some.injEq] at h1
    subst h1
    have hb:=h2 _ (List.mem_singleton.2 rfl)
    split
    · refine Qeb hy (fun c hc => by simp [hc]) fun ys n => ?_
      refine Qcm (by simp[hb]) fun cs=>?_
      split
      · exact⟨by simp[hb],trivial⟩
      · trivial
    · trivial
  · exact Qeb hy (fun c hc=>by simp[hc]) fun ys n=>trivial
  · exact Qeb hy (fun c hc=>by simp[hc]) fun ys n=>trivial
  · trivial
theorem QeM {α:Type} {b g:Nat} {k:List (AV×AV)->HM α} (hb:B b) (hk:∀es,(k es).tch B):(HM.entries b g k).tch B:=by
 refine⟨hb,fun x=>?_⟩
 match x with
 |some (.map g' es)=>
  simp only
  cases Nat.beq g' g<;>first|exact trivial|exact hk es
 |some (.cells _ _)=>trivial
 |some (.dead _)=>trivial
 |some (.loop ..)=>trivial
 |none=>trivial
theorem QjG {row ok:Bool} {ks:List LK} {z x k:AV} {bs:List Nat} (h:Pts x bs):(aLookup row ks z ok x k).tch (· ∈bs):=by
 obtain⟨cs,h1,h2⟩:=h
 unfold aLookup
 split
 ·split
  ·trivial
  ·simp only [blks, Option.some.injEq] at h1
   subst h1
   refine QeM (h2 _ (by simp)) fun es=>?_
   split<;>trivial
  ·split<;>trivial
  ·trivial
 ·trivial
theorem Qlg {row:Bool} {ks:List LK} {x k v:AV} {bs:List Nat} (h:Pts x bs):(aMapUpd row ks x k v).tch (· ∈bs):=by
 obtain⟨cs,h1,h2⟩:=h
 unfold aMapUpd
 split
 ·split
  ·simp only [blks, Option.some.injEq] at h1
   subst h1
   have hb:=h2 _ (List.mem_singleton.2 rfl)
   refine QeM hb fun es=>?_
   split
   ·exact⟨hb,trivial⟩
   ·exact⟨hb,trivial⟩
   ·trivial
  ·trivial
 ·trivial
theorem Qa4 {m:HM AV} (h:m.tch B):(hval m).tch B:=HM.Qld h fun _=>trivial
theorem Qlh {s:SOp} {ts:List Nat} (hax:∀x bs,ax x=some bs->Pts (ev T x) bs) (h:s.touch i ax=some ts):s.cls≠0->(aop i T s).tch (· ∈ts)/\∀m x asg,s≠ .call m x asg:=by
 intro h0
 have new1:∀{x:Nat->Blk} {r:Nat->Nat->AV},(HM.new .dyn i x fun b g=> .ret (r b g)).tch (· ∈[i]):=fun{x r}=>QfX (by simp) fun _ _=>trivial
 cases s<;>try (exact absurd rfl h0)
 ·rename_i s z
  cases s<;>simp only[SOp.touch,SOp.cls,show Nat.beq 2 0=false from rfl,cond_false,reduceCtorEq,Option.some.injEq]at h
  subst h
  refine⟨Qa4 ?_,fun _ _ _=>by simp⟩
  unfold aBox;split
  ·exact new1
  ·trivial
 ·simp only[SOp.touch,SOp.cls,show Nat.beq 2 0=false from rfl,cond_false,reduceCtorEq]at h
 ·rename_i s z
  cases s<;>simp only[SOp.touch,SOp.cls,show Nat.beq 2 0=false from rfl,cond_false,reduceCtorEq,Option.some.injEq]at h
  subst h
  refine⟨Qa4 ?_,fun _ _ _=>by simp⟩
  unfold aBox;split
  ·exact new1
  ·trivial
 ·rename_i fz s sz len z ps
  cases s<;>simp only[SOp.touch,SOp.cls,show Nat.beq 2 0=false from rfl,cond_false,reduceCtorEq,Option.some.injEq]at h
  subst h
  refine⟨Qa4 ?_,fun _ _ _=>by simp⟩
  unfold aBuildSlice
  split
  ·split
   ·split
    ·split<;>trivial
    ·exact new1
   ·trivial
  ·trivial
 ·exact⟨Qa4 (Qle (hax _ _ h)),fun _ _ _=>by simp⟩
 ·exact⟨Qa4 (QkA (hax _ _ h)),fun _ _ _=>by simp⟩
 ·simp only[SOp.touch,SOp.cls,show Nat.beq 1 0=false from rfl,cond_false,reduceCtorEq]at h
 ·simp only[SOp.touch,SOp.cls,show Nat.beq 2 0=false from rfl,cond_false,reduceCtorEq]at h
 ·simp only[SOp.touch,SOp.cls,show Nat.beq 2 0=false from rfl,cond_false,reduceCtorEq]at h
 ·simp only[SOp.touch,SOp.cls,show Nat.beq 2 0=false from rfl,cond_false,reduceCtorEq]at h
 ·simp only[SOp.touch,SOp.cls,show Nat.beq 2 0=false from rfl,cond_false,reduceCtorEq]at h
 ·simp only[SOp.touch,SOp.cls,show Nat.beq 2 0=false from rfl,cond_false,reduceCtorEq]at h
 ·simp only[SOp.touch,SOp.cls,show Nat.beq 2 0=false from rfl,cond_false,reduceCtorEq]at h
 ·simp only[SOp.touch,SOp.cls,show Nat.beq 1 0=false from rfl,cond_false,reduceCtorEq]at h
 ·rename_i s
  cases s<;>simp only[SOp.touch,SOp.cls,show Nat.beq 2 0=false from rfl,cond_false,reduceCtorEq,Option.some.injEq]at h
  subst h
  exact⟨Qa4 new1,fun _ _ _=>by simp⟩
 ·rename_i s sz b z l c
  cases s<;>simp only[SOp.touch,SOp.cls,show Nat.beq 2 0=false from rfl,cond_false,reduceCtorEq,Option.some.injEq]at h
  subst h
  refine⟨Qa4 ?_,fun _ _ _=>by simp⟩
  unfold aMakeSlice
  split
  ·split
   ·exact new1
   ·trivial
  ·trivial
 ·exact⟨Qa4 (QjG (hax _ _ h)),fun _ _ _=>by simp⟩
 ·exact⟨Qa4 (Qlg (hax _ _ h)),fun _ _ _=>by simp⟩
 ·exact⟨Qa4 (QlI (hax _ _ h)),fun _ _ _=>by simp⟩
 ·rename_i s sz b x y
  cases s<;>simp only[SOp.touch,SOp.cls,show Nat.beq 2 0=false from rfl,cond_false,reduceCtorEq]at h
  split at h
  ·rename_i a b ha hb
   cases h
   exact⟨Qa4 (QjF (hax _ _ ha) (hax _ _ hb)),fun _ _ _=>by simp⟩
  ·cases h
 ·rename_i sz x y
  simp only[SOp.touch]at h
  split at h
  ·rename_i a b ha hb
   cases h
   exact⟨Qa4 (Qlf (hax _ _ ha) (hax _ _ hb)),fun _ _ _=>by simp⟩
  ·cases h
 ·rename_i m x asg
  exfalso
  simp only[SOp.touch]at h
  have:Nat.beq (SOp.call m x asg).cls 0=false:=by cases m<;>rfl
  simp_all
theorem QeN {s : SOper} {h h1 : Heap} {v : AV} {f : FP} {ts : List Nat} (hax : ∀ x bs, ax x = some bs -> Pts (ev T x) bs) (ht : s.op.touch i ax = some ts) (hs : StepV P i s T h v h1 f) :
    f.all=false/\∀b,b∈f.R\/b∈f.W->b∈ts:=by
  by_cases h0:s.op.cls=0
  · obtain ⟨k1, k2, k3⟩ := hs.cls (by omega)
    simp_all
  obtain⟨t1,t2⟩:=Qlh hax ht h0
  have key:∀{s':SOp},s'=s.op->StepX P i s' T h v h1 f->f.all=false/\∀b,b∈f.R\/b∈f.W->b∈ts:=by
    rintro s' rfl ⟨out,h2,hm,ho⟩
    have fin:f=fpOf ((aop i T s.op).fp h)->f.all=false/\∀b,b∈f.R\/b∈f.W->b∈ts:=by
      rintro rfl;exact⟨rfl,fun b hb=>HM.Ql4 _ t1 h b hb⟩
    match out,ho with
    | .val u,ho=>exact fin ho.2.2
    | .call .pure f' args,ho=>exact fin ho.2.2
    | .call .borrow f' args,ho=>exact fin ho.2.2.2
    | .call .heap f' args, ho =>
      exfalso
      cases hso:s.op with
      |call m x asg=>exact t2 m x asg hso
      | _ =>
        rw[hso]at hm
        first
          |(obtain⟨u,hu,he⟩:=Qaq hm;cases he)
          |(obtain⟨u,h3,hu,he⟩:=Qan hm;cases he)
          |(simp[aop,HM.run]at hm)
    | .round b' g' args, ho =>
      exfalso
      cases hso:s.op with
      |call m x asg=>exact t2 m x asg hso
      | _ =>
        rw[hso]at hm
        first
          |(obtain⟨u,hu,he⟩:=Qaq hm;cases he)
          |(obtain⟨u,h3,hu,he⟩:=Qan hm;cases he)
          |(simp[aop,HM.run]at hm)
  unfold StepV at hs
  grind
theorem Pts.slice {n:Option Nat} {x v:AV} {l h m:Option AV} {bs:List Nat} (hx:Pts x bs) (hv:aSliceC n x l h m=some v):Pts v bs:=by
 obtain⟨cs,h1,h2⟩:=hx
 have key : aSlice x l h m = some v -> Pts v bs := by
  intro hv
  unfold aSlice at hv
  have nil:∀{v:AV},blks v=some []->Pts v bs:=fun h=>⟨[],h,fun b hb=>by cases hb⟩
  split at hv
  ·cases hv
  ·split at hv
   ·split at hv
    ·split at hv
     ·split at hv<;>first|(cases hv;exact nil rfl)|cases hv
     ·split at hv<;>first|(split at hv<;>first|(cases hv;first|exact⟨cs,h1,h2⟩|exact nil rfl)|cases hv)|cases hv
    ·cases hv
   ·cases hv
   ·split at hv
    ·split at hv
     ·cases hv
     ·split at hv
      ·cases hv;exact⟨cs,h1,h2⟩
      ·cases hv
    ·split at hv
     ·cases hv
     ·split at hv
      ·cases hv;exact nil rfl
      ·cases hv
    ·split at hv
     ·cases hv
     ·split at hv
      ·cases hv;exact nil rfl
      ·cases hv
    ·split at hv
     ·cases hv
     ·split at hv
      ·cases hv;exact nil rfl
      ·cases hv
    ·split at hv
     ·cases hv
     ·split at hv
      ·cases hv;exact nil rfl
      ·cases hv
    ·cases hv
 unfold aSliceC at hv
 grind
theorem Pts.iaddr {a:Option Nat} {sz:Nat} {x j v:AV} {bs:List Nat} (hx:Pts x bs) (hv:aIAddr a sz x j=some v):Pts v bs:=by
 obtain⟨cs,h1,h2⟩:=hx
 have nil:∀{v:AV},blks v=some []->Pts v bs:=fun h=>⟨[],h,fun b hb=>by cases hb⟩
 unfold aIAddr at hv
 split at hv
 ·split at hv<;>first|(split at hv<;>first|(cases hv;first|exact⟨cs,h1,h2⟩|exact nil rfl)|cases hv)|cases hv
 ·cases hv
theorem Pts.faddr {off:Nat} {x v:AV} {bs:List Nat} (hx:Pts x bs) (hv:aFAddr off x=some v):Pts v bs:=by
 obtain⟨cs,h1,h2⟩:=hx
 have nil:∀{v:AV},blks v=some []->Pts v bs:=fun h=>⟨[],h,fun b hb=>by cases hb⟩
 unfold aFAddr at hv
 split at hv
 ·cases hv;exact⟨cs,h1,h2⟩
 ·cases hv;exact nil rfl
 ·simp[blks]at h1
 ·cases hv
def HM.gives {α:Type} (R:α->Prop):HM α->Prop
 | .ret a=>R a
 | .fail=>True
 | .look _ k=>∀x,(k x).gives R
 | .put _ _ k=>k.gives R
theorem HM.QkB {α:Type} {R:α->Prop} (m:HM α):m.gives R->∀h a h1,m.run h=some (a,h1)->R a:=by
 induction m with
 |ret a=>intro hr h b h1 hm;simp only[HM.run,Option.some.injEq,Prod.mk.injEq]at hm;rw[<-hm.1];exact hr
 |fail=>intro _ h b h1 hm;simp[HM.run]at hm
 |look b k ih=>intro hr h a h1 hm;exact ih _ (hr _) h a h1 hm
 |put b x k ih=>intro hr h a h1 hm;exact ih hr _ a h1 (Qav hm).2
theorem QeO {α:Type} {R:α->Prop} {b g:Nat} {k:List AV->HM α} (hk:∀cs,(k cs).gives R):(HM.cells b g k).gives R:=by
 intro x
 match x with
 |some (.cells g' cs)=>
  simp only
  cases Nat.beq g' g<;>first|exact trivial|exact hk cs
 |some (.map _ _)=>trivial
 |some (.dead _)=>trivial
 |some (.loop ..)=>trivial
 |none=>trivial
theorem Qby {α:Type} {R:α->Prop} {i:Nat} {x:Nat->Blk} {k:Nat->Nat->HM α} (hk:(k i 0).gives R):(HM.new .dyn i x k).gives R:=by
 intro y
 match y with
 |none=>exact hk
 |some z=>trivial
theorem QkC {R:AV->Prop} {sz:Nat} {v:AV} {k:List AV->Nat->HM AV} (hk:∀ys n,(k ys n).gives R):(aSrc sz v k).gives R:=by
 unfold aSrc
 split
 ·split
  ·refine QeO fun cs => ?_
   split
   ·exact hk _ _
   ·trivial
  ·trivial
 ·split
  ·exact hk _ _
  ·trivial
 ·exact hk _ _
 ·exact hk _ _
 ·exact hk _ _
 ·split
  ·exact hk _ _
  ·trivial
 ·trivial
theorem QhV {sz bytes:Nat} {x y:AV} {a:List Nat} (hx:Pts x a):(aAppend .dyn i sz bytes x y).gives fun v=>Pts v (i::a):=by
 have nil:∀{v:AV},blks v=some []->Pts v (i::a):=fun h=>⟨[],h,fun b hb=>by cases hb⟩
 unfold aAppend
 refine QkC fun ys n=>?_
 split
 ·obtain ⟨cs, h1, h2⟩ := hx
  split
  ·split
   ·exact nil rfl
   ·exact Qby ⟨_,rfl,fun b hb=>by simp_all⟩
  ·split
   ·exact nil rfl
   ·exact Qby ⟨_,rfl,fun b hb=>by simp_all⟩
  ·split
   ·exact nil rfl
   ·trivial
  ·simp only [blks, Option.some.injEq] at h1
   subst h1
   split
   ·refine QeO fun cs => ?_
    split
    ·exact⟨_,rfl,fun b hb=>List.mem_cons_of_mem _ (h2 b hb)⟩
    ·trivial
   ·trivial
  ·simp[blks]at h1
  ·trivial
 ·trivial
theorem QfJ {s:SOper} {h h1:Heap} {v:AV} {f:FP} {bs:List Nat} (hax:∀x bs,ax x=some bs->Pts (ev T x) bs) (ht:s.op.absV i ax=some bs) (hs:StepV P i s T h v h1 f):Pts v bs:=by
 have self:∀{v:AV},blks v=some [i]->Pts v [i]:=fun h=>⟨_,h,fun b hb=>hb⟩
 have key:∀{s':SOp},s'.absV i ax=some bs->StepX P i s' T h v h1 f->Pts v bs:=by
  rintro s' ht ⟨out,h2,hm,ho⟩
  have hv:∀{m:HM AV},aop i T s'=hval m->(m.gives fun v=>Pts v bs)->Pts v bs:=by
   grind [Qan,HM.QkB]
  have hl:∀{o:Option AV},aop i T s'=lift o->(∀u,o=some u->Pts u bs)->Pts v bs:=by
   grind [Qaq]
  cases s'<;>try (simp only[SOp.absV,reduceCtorEq]at ht;done)
  ·simp only [aop, HM.run, Option.some.injEq, Prod.mk.injEq] at hm
   obtain⟨rfl,rfl⟩:=hm
   rw[ho.1];exact hax _ _ ht
  ·rename_i s z
   cases s<;>simp only[SOp.absV,reduceCtorEq,Option.some.injEq]at ht
   subst ht
   refine hv rfl ?_
   unfold aBox;split
   ·exact Qby (self rfl)
   ·trivial
  ·rename_i s z
   cases s<;>simp only[SOp.absV,reduceCtorEq,Option.some.injEq]at ht
   subst ht
   refine hv rfl ?_
   unfold aBox;split
   ·exact Qby (self rfl)
   ·trivial
  ·rename_i fz s sz len z ps
   cases fz<;>cases s<;>simp only[SOp.absV,reduceCtorEq,Option.some.injEq]at ht
   subst ht
   refine hv rfl ?_
   unfold aBuildSlice
   split
   ·split
    ·rw[if_neg (by simp)];exact Qby (self rfl)
    ·trivial
   ·trivial
  ·rename_i s
   cases s<;>simp only[SOp.absV,reduceCtorEq,Option.some.injEq]at ht
   subst ht
   exact hv rfl (Qby (self rfl))
  ·rename_i s sz b z l c
   cases s<;>simp only[SOp.absV,reduceCtorEq,Option.some.injEq]at ht
   subst ht
   refine hv rfl ?_
   unfold aMakeSlice
   split
   ·split
    ·exact Qby (self rfl)
    ·trivial
   ·trivial
  ·exact hl rfl fun u hu=>(hax _ _ ht).slice hu
  ·exact hl rfl fun u hu=>(hax _ _ ht).faddr hu
  ·exact hl rfl fun u hu=>(hax _ _ ht).iaddr hu
  ·rename_i s sz b x y
   cases s<;>simp only[SOp.absV,reduceCtorEq,Option.map_eq_some_iff]at ht
   obtain⟨a,ha,rfl⟩:=ht
   exact hv rfl (QhV (hax _ _ ha))
 unfold StepV at hs
 split at hs
 ·exact key ht hs
 ·obtain ⟨t, _, hs⟩ := hs
  split at hs
  ·exact key ht hs
  ·obtain⟨rfl,_⟩:=hs;exact⟨[],rfl,fun b hb=>by cases hb⟩
end
def AbsOK (T0:Tmps) (A:Abs) (T:Tmps):Prop:=∀j bs,absT T0 A j=some bs->Pts (lk T j) bs
theorem AbsOK.opd {T0 T:Tmps} {A:Abs} (h:AbsOK T0 A T):∀x bs,absO T0 A x=some bs->Pts (ev T x) bs:=by
 intro x bs hx
 cases x with
 |t i=>exact h i bs hx
 |c v=>exact⟨bs,hx,fun b hb=>hb⟩
 |f n=>cases hx
 |g n=>cases hx
theorem AbsOK.nil {T:Tmps}:AbsOK T [] T:=fun j bs h=>⟨bs,h,fun b hb=>hb⟩
theorem AbsOK.up {T0 T:Tmps} {A:Abs} {d:Nat} {v:AV} {a:Option (List Nat)} (h:AbsOK T0 A T) (hv:∀bs,a=some bs->Pts v bs):AbsOK T0 ((d,a)::A) (up T d v):=by
 intro j bs hj
 rw[lk_up]
 simp only[absT]at hj
 by_cases e:d=j
 ·simp_all
 ·have : Nat.beq d j = false := by simp_all [Bool.eq_false_iff]
  rw[this]at hj
  rw[if_neg (fun h=>e h.symm)]
  exact h j bs hj
theorem Qjf {T0:Tmps}:∀{r:List SOper} {n:Nat} {A:Abs} {T:Tmps} {h:Heap} {K:Tmps->Heap->Nat->Prop} (hA:AbsOK T0 A T) (K':List FP->Tmps->Heap->Nat->Prop),
  (∀fs T h n',fs.length=r.length->(∀(j:Nat) ts,(touches n T0 r A).getD j none=some ts->(fs.getD j ⟨false,[],[]⟩).all=false/\∀b,b∈(fs.getD j ⟨false,[],[]⟩).R\/b∈(fs.getD j ⟨false,[],[]⟩).W->b∈ts)->K T h n'->K' fs T h n')->
  wpR P n r T h K->wpRF P n r T h K'
 |[],n,A,T,h,K,hA,K',hK,hw=>hK [] T h n rfl (fun j ts hj=>by simp_all) hw
 | s :: r, n, A, T, h, K, hA, K', hK, hw => by
  obtain⟨v,h1,f,hs,hr⟩:=hw
  refine⟨v,h1,f,hs,?_⟩
  have hA2:AbsOK T0 (match s.dst with|some d=>(d,s.op.absV n (absO T0 A))::A|none=>A) (putD T s.dst v):=by
   cases s.dst with
   |none=>exact hA
   |some d=>exact AbsOK.up hA fun bs hb=>QfJ hA.opd hb hs
  refine Qjf hA2 (fun fs T h n=>K' (f::fs) T h n) (fun fs T h n' hl hf hk=>?_) hr
  refine hK (f::fs) T h n' (by simp[hl]) (fun j ts hj=>?_) hk
  cases j with
  |zero=>
   simp only[touches,List.getD_cons_zero]at hj⊢
   exact QeN hA.opd hj hs
  |succ j=>
   simp only[touches,List.getD_cons_succ]at hj⊢
   exact hf j ts hj
inductive PairsOK (n:Nat) (T:Tmps) (ops:List SOper) (ps:List (Nat×Nat)):Prop
 |mk (h:pairsOK (touches n T ops []) ps=true)
theorem QfK {N:NM} {ops:List SOper} {p:Nat×Nat} {ps:List (Nat×Nat)} {dead:List Nat} {fs:List Fr} {n:Nat} {T:Tmps} {h:Heap} {Q:QC} (hp:PairsOK n T ops (p::ps)):
  wS P N (.region ops (p::ps) dead) fs n T h Q=wR P N ops dead fs n T h Q:=by
 obtain⟨hp⟩:=hp
 apply propext;constructor
 ·intro hw
  have:∀{r:List SOper} {n:Nat} {T:Tmps} {h:Heap} {K:List FP->Tmps->Heap->Nat->Prop} {K':Tmps->Heap->Nat->Prop},(∀fs T h n,K fs T h n->K' T h n)->wpRF P n r T h K->wpR P n r T h K':=by
   intro r
   induction r with
   |nil=>intro n T h K K' hK hw;exact hK _ _ _ _ hw
   |cons s r ih=>
    rintro n T h K K' hK ⟨v,h1,f,hs,hr⟩
    exact⟨v,h1,f,hs,ih (fun fs T h n hk=>hK _ _ _ _ hk) hr⟩
  exact this (fun fs' T h n hk=>hk.2) hw
 ·intro hw
  refine Qjf AbsOK.nil _ (fun fs' T h n' hl hf hk=>⟨?_,hk⟩) hw
  rw[List.all_eq_true]
  intro q hq
  have:=List.all_eq_true.1 hp q hq
  split at this
  ·rename_i a b ha hb
   obtain⟨f1,f2⟩:=hf _ _ ha
   obtain⟨g1,g2⟩:=hf _ _ hb
   have hd:∀x y,x∈a->y∈b->x≠y:=by
    grind
   have dj:∀xs ys:List Nat,(∀x∈xs,∀y∈ys,x≠y)->disj xs ys=true:=by
    intro xs ys hh
    unfold disj
    grind
   grind [FP.apart]
  ·cases this
theorem FrzL.nil {h:Heap}:FrzL h [] []:=trivial
theorem FrzL.cons {h:Heap} {x y:AV} {xs ys:List AV} (h1:FrzTo h x y) (h2:FrzL h xs ys):FrzL h (x::xs) (y::ys):=⟨h1,h2⟩
end Go.AM
namespace Go.AM
variable {P:Program}
def setL:HL->Heap->Heap
 |[],h=>h
 |(k,x)::r,h=>(setL r h).set k x
theorem QhW {h:Heap}:setL [] h=h:=rfl
theorem QgH {k:Nat} {x:Blk} {r:HL} {h:Heap}:setL ((k,x)::r) h=(setL r h).set k x:=rfl
theorem QhX {b:Nat} {h:Heap} (hf:Fresh b h):∀{L:HL},(L.all fun p=>Nat.ble b p.1&&Nat.blt p.1 1099511627775)=true->∀k,(setL L h).get k=if k<b then h.get k else(hp L).get k
 |[],_,k=>by
  simp only[setL,hp]
  split
  ·rfl
  ·rw[hf k (by omega),get_e]
 |(j,x)::r,hL,k=>by
  simp only[List.all_cons,Bool.and_eq_true,Nat.ble_eq,Nat.blt_eq]at hL
  obtain⟨⟨h1,h2⟩,h3⟩:=hL
  have ih:=QhX hf (L:=r) (by simpa using h3) k
  simp only[setL,hp]
  by_cases e:k=j
  ·simp_all [QaL,if_neg]
  simp_all [QaK]
theorem HSpec.of_O {f b:Nat} {args:List AV} {v:AV} {h:Heap} {L:HL} (hn:noRefs args=true) (hs:HSpec P f args .e v (hp L)) (hf:Fresh b h) (hL:(L.all fun p=>Nat.ble b p.1&&Nat.blt p.1 1099511627775)=true):HSpec P f args h v (setL L h):=by
 obtain⟨hc,hs⟩:=hs
 refine⟨hc,fun c w cargs H ha=>?_⟩
 refine(hs (only c.F) w cargs (HRel.only H.inF) (VRels.noRef (c:=c) (c':=only c.F) (fun _ h=>h) _ _ hn ha)).mono ?_
 rintro e w' ⟨cv,c',rfl,E,H',V⟩
 have hnewO:∀k,c'.O k->w.heap.size<=k:=fun k hO=>(E.own k hO).elim (fun h=>h.elim) id
 have hnewF:∀k,c'.F k->c.F k\/w.heap.size<=k:=fun k hF=>(E.frzNew k hF).elim .inl fun h=>h.elim (fun h=>h.elim) .inr
 have hkeep:∀k,k<w.heap.size->w'.heap[k]?=w.heap[k]?:=fun k hk=>E.keep k hk (fun h=>h)
 have hg:=QhX hf hL
 have hlow:∀k,(hp L).get k≠none->b<=k:=fun k hk=>by
  rcases Nat.lt_or_ge k b with h1|h1
  ·exfalso
   apply hk
   have:∀{M:HL},(M.all fun p=>Nat.ble b p.1&&Nat.blt p.1 1099511627775)=true->(hp M).get k=none:=by
    intro M
    induction M with
    |nil=>intro _;exact get_e
    |cons q M ih=>
     obtain⟨j,x⟩:=q
     intro hM
     simp only[List.all_cons,Bool.and_eq_true,Nat.ble_eq,Nat.blt_eq]at hM
     rw[Qcu,QaK hM.1.2 (by omega)];exact ih (by grind)
   exact this hL
  ·exact h1
 have hrlow:∀k g,k<b->c'.ρ k g=none:=fun k g hk=>by
  have:(hp L).get k=none:=by
   grind
  exact H'.fresh k this g
 have hrhigh:∀k g,b<=k->c.ρ k g=none:=fun k g hk=>H.fresh k (hf k hk) g
 let c2:Ctx (okc P):={ρ:=fun k g=>if k<b then c.ρ k g else c'.ρ k g,F:=c'.F,O:=fun k=>c.O k\/c'.O k,base:=c.base}
 have hr1:∀k g,k<b->c2.ρ k g=c.ρ k g:=fun k g hk=>if_pos hk
 have hr2:∀k g,b<=k->c2.ρ k g=c'.ρ k g:=fun k g hk=>if_neg (by omega)
 have hx1:∀k g p,c.ρ k g=some p->c2.ρ k g=some p:=fun k g p hp=>by
  grind
 have hx2:∀k g p,c'.ρ k g=some p->c2.ρ k g=some p:=fun k g p hp=>by
  grind
 have E2:Evo c w c2 w':=⟨E.os,E.tape,E.output,E.size,E.shape,fun k hk _=>hkeep k hk,hx1,fun k hk=>E.frz k hk,fun k hk=>(hnewF k hk).elim .inl fun h=> .inr (.inr h),fun k hk=>hk.elim .inl fun h=> .inr (hnewO k h),rfl⟩
 have X2:Ext c' w' c2 w':=⟨hx2,fun _ h=>h,fun k _ _ h=>h,fun k C e fr h=>⟨C,fr,h,rfl⟩⟩
 refine⟨cv,c2,rfl,E2,?_,VRel.mono X2 _ _ V⟩
 refine⟨fun k hk g=>?_,fun k x hk g hlt=>?_,fun k x hk=>?_,?_,fun k hF hO=>?_,fun k hF=>H'.inF k hF,fun k hO=>hO.elim (fun h=>Nat.lt_of_lt_of_le (H.inO k h) E.size) (H'.inO k)⟩
 ·rw [hg k] at hk
  split at hk
  ·rename_i h1;rw[hr1 k g h1];exact H.fresh k hk g
  ·rename_i h1;rw[hr2 k g (by omega)];exact H'.fresh k hk g
 ·rw [hg k] at hk
  split at hk
  ·rename_i h1;rw[hr1 k g h1];exact H.later k x hk g hlt
  ·rename_i h1;rw[hr2 k g (by omega)];exact H'.later k x hk g hlt
 ·rw [hg k] at hk
  split at hk
  ·refine BRel.mono (E2.ext H.disj) (fun cb base hd hp => ?_) (H.blk k x hk)
   have hO:=H.owned ⟨x,hk,rfl,hd⟩ hp
   exact⟨.inl hO,hkeep cb (H.inO _ hO)⟩
  ·refine BRel.mono X2 (fun cb base hd hp => ?_) (H'.blk k x hk)
   have hO:=H'.owned ⟨x,hk,rfl,hd⟩ hp
   grind
 ·intro b1 g1 b2 g2 cb base1 base2 l1 l2 p1 p2
  have key:∀k g base,Live (setL L h) k g->c2.ρ k g=some (.loc cb base)->(k<b/\Live h k g/\c.ρ k g=some (.loc cb base)/\cb<w.heap.size)\/(b<=k/\Live (hp L) k g/\c'.ρ k g=some (.loc cb base)/\w.heap.size<=cb):=by
   rintro k g base ⟨x,hk,rfl,hd⟩ hp
   rw[hg k]at hk
   split at hk
   ·rename_i h1
    rw[hr1 k _ h1]at hp
    exact .inl ⟨h1,⟨x,hk,rfl,hd⟩,hp,H.inO _ (H.owned ⟨x,hk,rfl,hd⟩ hp)⟩
   ·rename_i h1
    rw[hr2 k _ (by omega)]at hp
    exact .inr ⟨by omega,⟨x,hk,rfl,hd⟩,hp,hnewO _ (H'.owned ⟨x,hk,rfl,hd⟩ hp)⟩
  rcases key b1 g1 base1 l1 p1 with⟨k1,k2,k3,k4⟩|⟨k1,k2,k3,k4⟩<;>rcases key b2 g2 base2 l2 p2 with⟨j1,j2,j3,j4⟩|⟨j1,j2,j3,j4⟩
  ·exact H.inj _ _ _ _ _ _ _ k2 j2 k3 j3
  ·omega
  ·omega
  ·exact H'.inj _ _ _ _ _ _ _ k2 j2 k3 j3
 ·rcases hO with hO | hO
  ·rcases hnewF k hF with h1 | h1
   ·exact H.disj k h1 hO
   ·have:=H.inO k hO;omega
  ·exact H'.disj k hF hO
theorem HSpec.Qb0 {f:Nat} {sf:SFn} {args:List AV} {v:AV} {L:HL} (n:Nat) (hok:okFn P f sf=true) (hl:Nat.ble args.length sf.n=true)
  (hw:wS P ⟨sf.n,0⟩ sf.body [] n (argT 0 args) .e fun e T k _=>(e= .normal\/e= .ret)/\∃vs,resV T k sf.res=some vs/\Rec 0 [(0,v)] L [(0,resOf vs)] k):HSpec P f args .e v (hp L):=by
 refine HSpec.of_W2 (m:=0) hok (Nat.le_of_ble_eq_true hl) (fun b _=>get_e) ((wpC.toW hw).mono ?_)
 rintro e B ⟨n',h1,vs,h2,ps,ho,hro,hb,ht⟩
 exact⟨h1,vs,_,h2,Rec.maps ho hb,Rec.heap ho hb,Rec.dom ho hro,ht 0⟩
end Go.AM
namespace Go.AM
theorem wV:type_of% @words/\type_of% @wordsN/\type_of% @wordsR/\type_of% @QfK/\type_of% @QeI/\type_of% @Qc1/\type_of% @QeJ/\type_of% @QeK/\type_of% @QeL/\type_of% @QfG/\type_of% @QfH/\type_of% @QfI/\type_of% @QgH/\type_of% @QhW/\type_of% @SX.exit.injEq/\type_of% @if_true.{1}/\type_of% @if_false.{1}/\type_of% @ne_eq.{1}:=
 ⟨@words,@wordsN,@wordsR,@QfK,@QeI,@Qc1,@QeJ,@QeK,@QeL,@QfG,@QfH,@QfI,@QgH,@QhW,@SX.exit.injEq,@if_true,@if_false,@ne_eq⟩
theorem gg {p:Prop} (h:p:=by first|(simp(disch:=omega) only[QaL,QaK,Qcu];done)|(simp(disch:=omega) only[QaL,QaK,Qcu];rfl)):p:=h
end Go.AM
namespace Go.AM
theorem QhY {b:Bool}:(AV.bool b).cells=[.bool b]:=rfl
theorem QkD {b:Bool}:(AV.bool b).one=true:=rfl
theorem QkE {b:Bool}:(AV.bool b).boxable=true:=rfl
theorem QhZ {b g o:Nat}:aNil (.ptr b g o)=some (.ptr b g o):=rfl
theorem QgI {cs:List AV}:aNil (.fptr cs)=some (.fptr cs):=rfl
end Go.AM
namespace Go.AM.SD
open Go.AM
def ints (l:List Int):List AV:=l.map (.int .i64)
abbrev sli (l:List Int):AV:= .fsl (ints l) l.length 1
theorem Qab (l:List Int):noRefs (ints l)=true:=by
 induction l with
 |nil=>rfl
 |cons x l ih=>simp only[ints,List.map_cons,noRefs,noRef,Bool.true_and];exact ih
theorem Qds {l:List Int}:(ints l).length=l.length:=by simp[ints]
theorem lenW:type_of% @List.length_map.{0,0}/\type_of% @List.length_append.{0}/\type_of% @List.length_cons.{0}/\type_of% @List.length_nil.{0}/\type_of% @Qds:=⟨@List.length_map.{0,0},@List.length_append.{0},@List.length_cons.{0},@List.length_nil.{0},@Qds⟩
theorem Qaw {l:List Int} {i:Nat} {x:Int} (h:l[i]?=some x):((ints l).drop i).head?=some (.int .i64 x):=by
 rw[List.head?_drop];simp[ints,h]
abbrev nz (l:List Nat):List Int:=l.map fun x:Nat=>(x:Int)
theorem nz_at {l:List Nat} {i x:Nat} (h:l[i]?=some x):(nz l)[i]?=some (x:Int):=by simp[nz,h]
theorem Qas {α:Type} {l:List α} {i:Nat} (h:i<l.length):∃x,l[i]?=some x:=⟨l[i],List.getElem?_eq_getElem h⟩
theorem Qam {a b:List AV}:noRefs (a++b)=(noRefs a&&noRefs b):=by
 induction a with
 |nil=>simp[noRefs]
 |cons x a ih=>simp only[List.cons_append,noRefs,ih,Bool.and_assoc]
theorem QaA {α:Type} {f:α->List AV} (h:∀x,noRefs (f x)=true) (l:List α):noRefs (l.flatMap f)=true:=by
 induction l with
 |nil=>rfl
 |cons x l ih=>rw[List.flatMap_cons,Qam,h,ih];rfl
theorem QcN {α:Type} {f:α->List AV} {k:Nat} (h:∀x,(f x).length=k) (l:List α):(l.flatMap f).length=l.length*k:=by
 induction l with
 |nil=>simp
 |cons x l ih=>rw[List.flatMap_cons,List.length_append,h,ih,List.length_cons,Nat.succ_mul];omega
theorem Qbl {α:Type} {f:α->List AV} {k:Nat} (h:∀x,(f x).length=k):∀{l:List α} {i:Nat} {x:α},l[i]?=some x->(l.flatMap f).drop (i*k)=f x++(l.drop (i+1)).flatMap f
 |[],_,_,hx=>by simp at hx
 |y::l,0,x,hx=>by
  simp at hx;subst hx;simp
 |y::l,i+1,x,hx=>by
  simp at hx
  rw[List.flatMap_cons,List.drop_append,h,List.drop_of_length_le (by rw[h,Nat.succ_mul];omega),List.nil_append]
  have:(i+1)*k-k=i*k:=by rw[Nat.succ_mul];omega
  rw[this,Qbl h hx,List.drop_succ_cons]
structure Eg where
 fr:Int
 ev:Int
 to:Int
deriving DecidableEq
def egC (e:Eg):List AV:=[.int .i64 e.fr,.int .i64 e.ev,.int .i64 e.to]
abbrev egs (l:List Eg):AV:= .fsl (l.flatMap egC) l.length 3
theorem Qai (l:List Eg):noRefs (l.flatMap egC)=true:=QaA (fun x=>rfl) l
theorem QaY (l:List Eg):noRef (egs l)=true:=by simp only[noRef];exact Qai l
theorem QaO {l:List Eg} {i:Nat} {e:Eg} (h:l[i]?=some e):(l.flatMap egC).drop (i*3)= .int .i64 e.fr:: .int .i64 e.ev:: .int .i64 e.to::(l.drop (i+1)).flatMap egC:=Qbl (f:=egC) (k:=3) (fun _=>rfl) h
theorem Qap (l:List Int):noRef (sli l)=true:=by simp only[noRef];exact Qab l
structure Au where
 al:List Int
 n:Int
 ms:List Int
 es:List Eg
abbrev auV (a:Au):AV:= .agg [sli a.al,.int .i64 a.n,sli a.ms,egs a.es]
def eg (e:Ed):Eg:=⟨e.1,e.2.1,e.2.2⟩
def au (a:Aut):Au:=⟨nz a.al,a.n,nz a.ms,a.es.map eg⟩
def rmC (r:Rm):List AV:=[.int .i64 r.st,.int .i64 r.rank,.int .i64 r.reason,.int .i64 r.ev]
theorem Qal (l:List Rm):noRefs (l.flatMap rmC)=true:=QaA (fun x=>rfl) l
end Go.AM.SD
namespace Go.AM.SD
def edC (e:Ed):List AV:=[.int .i64 (e.1:Int),.int .i64 (e.2.1:Int),.int .i64 (e.2.2:Int)]
abbrev egsN (l:List Ed):AV:= .fsl (l.flatMap edC) l.length 3
theorem Qah (l:List Ed):noRefs (l.flatMap edC)=true:=QaA (fun x=>rfl) l
theorem QaI (l:List Ed):noRef (egsN l)=true:=by simp only[noRef];exact Qah l
theorem QaU {l:List Ed} {i:Nat} {e:Ed} (h:l[i]?=some e):(l.flatMap edC).drop (i*3)= .int .i64 (e.1:Int):: .int .i64 (e.2.1:Int):: .int .i64 (e.2.2:Int)::(l.drop (i+1)).flatMap edC:=Qbl (f:=edC) (k:=3) (fun _=>rfl) h
theorem QlJ (l:List Ed):egs (l.map eg)=egsN l:=by
 unfold egs egsN
 rw[List.length_map,List.flatMap_map];rfl
abbrev sliN (l:List Nat):AV:= .fsl (ints (nz l)) l.length 1
theorem Qdc (l:List Nat):sli (nz l)=sliN l:=by unfold sli sliN;rw[List.length_map]
theorem Qaj (l:List Nat):noRef (sliN l)=true:=by simp only[noRef];exact Qab _
theorem Qec {l:List Nat} {i x:Nat} (h:l[i]?=some x):((ints (nz l)).drop i).head?=some (.int .i64 (x:Int)):=Qaw (nz_at h)
abbrev aV (a:Aut):AV:= .agg [sliN a.al,.int .i64 (a.n:Int),sliN a.ms,egsN a.es]
theorem Ql5 (a:Aut):auV (au a)=aV a:=by
 show AV.agg [sli (nz a.al),.int .i64 (a.n:Int),sli (nz a.ms),egs (a.es.map eg)]=_
 rw[Qdc,Qdc,QlJ]
theorem Qli (a:Aut):noRef (aV a)=true:=by rw[aV,noRef,noRefs,noRefs,noRefs,noRefs,Qaj,Qaj,QaI];rfl
def bls (l:List Bool):List AV:=l.map .bool
theorem Qaf (l:List Bool):noRefs (bls l)=true:=by
 induction l with
 |nil=>rfl
 |cons x l ih=>simp only[bls,List.map_cons,noRefs,noRef,Bool.true_and];exact ih
theorem Qjg {l:List Bool}:(bls l).length=l.length:=by simp[bls]
theorem QaS {a b:List Int}:ints (a++b)=ints a++ints b:=by simp[ints]
theorem Qbe {a b:List Nat}:nz (a++b)=nz a++nz b:=by simp
theorem Qh0 {α:Type} {l:List α} {x:α} (h:x∈l):∃j:Nat,l[j]?=some x/\j<l.length:=by
 obtain⟨j,hj⟩:=List.mem_iff_getElem?.1 h
 exact⟨j,hj,(List.getElem?_eq_some_iff.1 hj).1⟩
end Go.AM.SD
namespace Go.AM
theorem Qh1 {s:List UInt8}:(AV.str s).cells=[.str s]:=rfl
theorem QkF {s:List UInt8}:(AV.str s).one=true:=rfl
theorem QkG {s:List UInt8}:(AV.str s).boxable=true:=rfl
theorem QgJ {a b:List UInt8}:aBin .add (.str a) (.str b)=if a.length+b.length<=140737488355328 then some (.str (a++b))else none:=rfl
open SD
theorem wW:type_of% @Qd1/\type_of% @wordsM/\type_of% @QhZ/\type_of% @QgI/\type_of% @Int.one_mul/\type_of% @Qjg/\type_of% @Qds/\type_of% @QhY/\type_of% @QkD/\type_of% @QkE/\type_of% @List.length_replicate.{0}/\type_of% @Qh1/\type_of% @QkF/\type_of% @QkG/\type_of% @Qhq/\type_of% @Qkg/\type_of% @Qdo/\type_of% @QgJ:=
 ⟨@Qd1,@wordsM,@QhZ,@QgI,@Int.one_mul,@Qjg,@Qds,@QhY,@QkD,@QkE,@List.length_replicate,@Qh1,@QkF,@QkG,@Qhq,@Qkg,@Qdo,@QgJ⟩
end Go.AM
namespace Go.AM.SE
open Go.Proofs
set_option maxHeartbeats 4000000
noncomputable section
def cf:YA.Cf:={most:= .pure,always:=[41,227,228,229,231,232,174,270,271,272,297,298,299,300,301,302,303,304,294].map fun k=>(k,.heap),value:= .pure,eqn:=false}
def s36:SFn:=by
 refine(?f:YA.Yt Tryz.prog cf 36 [[4],[6,7,8,9],[0,1,10],[4,10,11],[],[14,15],[5,16,17,18,19,20,21,22,23],[0,1,12,13,24],[4,24,25],[0,1,12,13]]) ?s ?h
 case h=>exact YA.rr
 exact fun s _=>s
def s112:SFn:=by
 refine(?f:YA.Yt Tryz.prog cf 112 [[0,1,4],[2,3,5,6,7,8,9,10,11,12,13,14,15,16,17,18,19,20,21,22,23,24,25,26,27,28,29,30]]) ?s ?h
 case h=>exact YA.rr
 exact fun s _=>s
def s39:SFn:=by
 refine(?f:YA.Yt Tryz.prog cf 39 [[4],[0,1,5,6,7,8]]) ?s ?h
 case h=>exact YA.rr
 exact fun s _=>s
def s41:SFn:=by
 refine(?f:YA.Yt Tryz.prog cf 41 [[2],[3],[0,4],[0,4,5,6,7]]) ?s ?h
 case h=>exact YA.rr
 exact fun s _=>s
def s48:SFn:=by
 refine(?f:YA.Yt Tryz.prog cf 48 [[4],[6,7,8,9],[0,1,10],[4,10,11],[],[14,15],[5,16,17,18,19,20,21,22,23],[0,1,12,13,24],[4,24,25],[0,1,12,13]]) ?s ?h
 case h=>exact YA.rr
 exact fun s _=>s
def s90:SFn:=by
 refine(?f:YA.Yt Tryz.prog cf 90 [[4],[6],[],[9,10],[11,12,13,14,15],[0,1,7,8,5,16,17],[4,5,16,18],[0,1,7,8]]) ?s ?h
 case h=>exact YA.rr
 exact fun s _=>s
def s91:SFn:=by
 refine(?f:YA.Yt Tryz.prog cf 91 [[0,2],[5,6,7],[8],[1,3,9,10],[2,3,9,12,13,14],[1,11],[11,16,17,18],[1,15],[2,15,19,20,21,22,23],[24],[1,4,25,26],[1,4,25,27,28]]) ?s ?h
 case h=>exact YA.rr
 exact fun s _=>s
def s218:SFn:=by
 refine(?f:YA.Yt Tryz.prog cf 218 [[4,5],[10,11],[12],[13,14],[15,16,17,18,19,20,21],[22,23,24,25,26],[9,27,28,29],[9,27,30],[0,1,6,7,8,52,42,51,48,50,49,47,46,45,43,44,41,39,40,38,36,37,31,32,33,34,35,53]]) ?s ?h
 case h=>exact YA.rr
 exact fun s _=>s
def s214:SFn:=by
 refine(?f:YA.Yt Tryz.prog cf 214 [[0],[12,13,14,15],[16,17],[1,3,18,19],[18,20,21,22],[23],[],[26,27],[5,28,29,30],[31],[24,25,32,33],[34],[],[35,36,37],[38,42,43,44,45,46,47,48,41,49,50,8],[9],[51,52,53,54,55,56,57],[51,58,59,60,61,62],[],[66,67,68],[69,70,71,72,73],[74,75,76,77,78,79,80],[81,82,83,84,85],[11,74,86,87,88,89,90,91,92,93,94,95,96,97,98,99],[100],[63,64,65,39,40],[1,4,6,7,101,102,103],[3,104]]) ?s ?h
 case h=>exact YA.rr
 exact fun s _=>s
def s161:SFn:=by
 refine(?f:YA.Yt Tryz.prog cf 161 [[4],[],[],[10,11,12,13],[15,16,17,21],[0,1,7,8,9,32,26,31,30,27,29,28,20,18,19,5,6,14],[5,6,14,23,24,25,33],[0,1,7,8,9,32,26,31,30,27,29,28,20,18,19,22],[4,22,34],[0,1,7,8,9,32,26,31,30,27,29,28,20,18,19]]) ?s ?h
 case h=>exact YA.rr
 exact fun s _=>s
def s162:SFn:=by
 refine(?f:YA.Yt Tryz.prog cf 162 [[0,2],[6],[],[10,11,12,13],[15,16,17,18,24,25,29,30,36],[1,7,8,9,69,63,68,65,67,66,64,62,59,61,60,58,35,32,34,33,31,28,27,26,23,20,22,21,19,4,3,14],[14,38,39,40,41,42,43],[1,7,8,9,69,63,68,65,67,66,64,62,59,61,60,58,35,32,34,33,31,28,27,26,23,20,22,21,19,4,3,37],[2,37,44],[3,45,46,47,48,49,50,51],[4,5,52,53,54,55,56,57],[1,7,8,9,69,63,68,65,67,66,64,62,59,61,60,58,35,32,34,33,31,28,27,26,23,20,22,21,19,70],[2,70,71],[1,7,8,9,69,63,68,65,67,66,64,62,59,61,60,58,35,32,34,33,31,28,27,26,23,20,22,21,19]]) ?s ?h
 case h=>exact YA.rr
 exact fun s _=>s
def s171:SFn:=by
 refine(?f:YA.Yt Tryz.prog cf 171 [[4],[0,1,5,6,7,8,9,10,11,12,13,14,15,16]]) ?s ?h
 case h=>exact YA.rr
 exact fun s _=>s
def s262:SFn:=by
 refine(?f:YA.Yt Tryz.prog cf 262 [[2],[0,3,4,5]]) ?s ?h
 case h=>exact YA.rr
 exact fun s _=>s
def s205:SFn:=by
 refine(?f:YA.Yt Tryz.prog cf 205 [[0,4],[10,11,12,13,9,14,15,6],[1,17,18,19,20,21,16,22,23,8],[2,5,7,24,25,26,27,28]]) ?s ?h
 case h=>exact YA.rr
 exact fun s _=>s
def s238:SFn:=by
 refine(?f:YA.Yt Tryz.prog cf 238 [[2],[0,3,4,5]]) ?s ?h
 case h=>exact YA.rr
 exact fun s _=>s
def s255:SFn:=by
 refine(?f:YA.Yt Tryz.prog cf 255 [[6,7],[12,13],[14],[15,16],[17,18,19,20,21,22,23],[24,25,26,27,28,29,30],[11,31,32,33],[11,31,34],[0,1,2,8,9,10,47,46,40,44,45,43,41,42,35,36,37,38,39,48]]) ?s ?h
 case h=>exact YA.rr
 exact fun s _=>s
def s256:SFn:=by
 refine(?f:YA.Yt Tryz.prog cf 256 [[0,4],[1,2,5,6,7,8]]) ?s ?h
 case h=>exact YA.rr
 exact fun s _=>s
def s257:SFn:=by
 refine(?f:YA.Yt Tryz.prog cf 257 [[0,4],[1,2,5,6,7,8]]) ?s ?h
 case h=>exact YA.rr
 exact fun s _=>s
theorem ok36:okFn Tryz.prog 36 s36=true:=by kernel_rfl
theorem ok112:okFn Tryz.prog 112 s112=true:=by kernel_rfl
theorem ok39:okFn Tryz.prog 39 s39=true:=by kernel_rfl
theorem ok41:okFn Tryz.prog 41 s41=true:=by kernel_rfl
theorem ok48:okFn Tryz.prog 48 s48=true:=by kernel_rfl
theorem ok90:okFn Tryz.prog 90 s90=true:=by kernel_rfl
theorem ok91:okFn Tryz.prog 91 s91=true:=by kernel_rfl
theorem ok218:okFn Tryz.prog 218 s218=true:=by kernel_rfl
theorem ok214:okFn Tryz.prog 214 s214=true:=by kernel_rfl
theorem ok161:okFn Tryz.prog 161 s161=true:=by kernel_rfl
theorem ok162:okFn Tryz.prog 162 s162=true:=by kernel_rfl
theorem ok171:okFn Tryz.prog 171 s171=true:=by kernel_rfl
theorem ok262:okFn Tryz.prog 262 s262=true:=by kernel_rfl
theorem ok205:okFn Tryz.prog 205 s205=true:=by kernel_rfl
theorem ok238:okFn Tryz.prog 238 s238=true:=by kernel_rfl
theorem ok255:okFn Tryz.prog 255 s255=true:=by kernel_rfl
theorem ok256:okFn Tryz.prog 256 s256=true:=by kernel_rfl
theorem ok257:okFn Tryz.prog 257 s257=true:=by kernel_rfl
end
end Go.AM.SE
namespace Go.AM.SE
open Go.Proofs Go.AM.SD
def indexR (l:List Int) (n:Int):Int:=if n∈l then(l.findIdx (· ==n):Int)else-1
theorem _root_.Go.AM.au0 {p:Prop} (h:p:=by repeat (first|exact RO.zero|exact RO.e|refine RO.set rfl ?_)):p:=h
theorem _root_.Go.AM.au1 {p:Prop} (h:p:=by repeat' (first|exact RB.nil|(refine RnL.same ?_;first|rfl|(simp only[noRef,noRefs,Qam,Bool.and_self,Bool.and_true,Bool.true_and,Qab,Qai,Qah,Qal,Qaf,Qap,Qaj,QaY,QaI];done))|exact RnM.keyM rfl|exact RnL.nil|exact(True.intro:RnM _ _ _ [] [])|refine RnL.cons ?_ ?_|(refine Rn.same ?_;first|rfl|(simp only[noRef,noRefs,Qam,Bool.and_self,Bool.and_true,Bool.true_and,Qab,Qai,Qah,Qal,Qaf,Qap,Qaj,QaY,QaI];done))|exact Rn.x1 rfl rfl|exact Rn.x2 rfl rfl|exact Rn.x3 rfl rfl|exact Rn.x4 rfl rfl|exact Rn.x5 rfl|exact Rn.x6 rfl|exact Rn.x7 rfl|refine RB.newnil rfl rfl ?_|refine RB.cells rfl rfl rfl ?_ ?_|refine RB.map rfl rfl rfl ?_ ?_|refine RB.cellsB rfl rfl ?_ ?_|refine RB.mapB rfl rfl ?_ ?_)):p:=h
theorem _root_.Go.AM.au2 {p:Prop} (h:p:=by repeat (first|exact RT.nil|(refine RT.cons ?_ ?_; · (first|exact Rn.any|exact Rn.x1 rfl rfl|exact Rn.x2 rfl rfl|exact Rn.x3 rfl rfl|exact Rn.x4 rfl rfl|exact Rn.x5 rfl|exact Rn.x6 rfl|exact Rn.x7 rfl|(refine Rn.slot ?_ ?_;(first|rfl|(rw[Int.natCast_add];rfl));(first|rfl|(simp only[noRef,noRefs,Qam,Bool.and_self,Bool.and_true,Bool.true_and,Qab,Qai,Qah,Qal,Qaf,Qap,Qaj,QaY,QaI];done)))|(refine Rn.fn ?_ ?_<;>(repeat' (first|exact RnL.nil|refine RnL.cons ?_ ?_|exact Rn.same rfl|exact Rn.x6 rfl|exact Rn.x2 rfl rfl|exact Rn.x5 rfl|exact Rn.x1 rfl rfl))))))):p:=h
theorem index70 (l : List Int) (n : Int) (hl : l.length <= 140737488355328) : PSpec Tryz.prog 90 [sli l, .int .i64 n] (.int .i64 (indexR l n)) := by
  refine PSpec.Qak 64 ok90 rfl (by(try simp only[noRefs,Qab,Qai,Qah,Qal,Qaf,noRef,Bool.and_self,Bool.and_true])<;>rfl) rfl ?_
  simp(disch:=first|omega|(simp only[lenW]<;>omega)) only[s90,wV,simprocAttr]
  refine Qa3 100 (fun i:Nat=>[(0,sli l),(1,.int .i64 n),(7,.int .i64 l.length),(8,.int .i64 i)]) (fun _=>[]) (fun i=>i<=l.length/\∀(j:Nat) y,j<i->l[j]?=some y->y≠n) (fun i=>l.length-i) 0 ⟨[],rfl,au0,au1,au2⟩ ⟨Nat.zero_le _,fun j y hj=>absurd hj (Nat.not_lt_zero _)⟩ ?_
  rintro i ⟨hi,hb⟩
  by_cases hlt:i<l.length
  · obtain ⟨x, hx⟩ := Qas hlt
    by_cases h0:n=x
    · simp (disch := first | omega | (simp only [lenW] <;> omega)) only [hlt, Qaw hx, h0, wV, simprocAttr]
      refine⟨.inr trivial,_,rfl,?_⟩
      have h1:n∈l:=h0▸List.mem_of_getElem? hx
      have h2:l.findIdx (· ==n)=i:=by
        rw[List.findIdx_eq hlt]
        refine⟨by rw[List.getElem?_eq_getElem hlt]at hx;cases hx;simp[h0],fun j hj=>?_⟩
        have:=hb j l[j] hj (List.getElem?_eq_getElem (by omega))
        simpa using this
      subst h0
      simp only[indexR,if_pos h1,h2];rfl
    · simp (disch := first | omega | (simp only [lenW] <;> omega)) only [hlt, Qaw hx, h0, wV, simprocAttr]
      refine⟨i+1,by omega,⟨by omega,fun j y hj hy=>?_⟩,⟨[],rfl,au0,au1,au2⟩⟩
      by_cases e:j=i
      · subst e;rw[hx]at hy;cases hy;exact fun e=>h0 e.symm
      · exact hb j y (by omega) hy
  · have : n ∉ l := fun h => by
      obtain⟨j,hj,hjl⟩:=Qh0 h
      exact hb j n (by omega) hj rfl
    simp(disch:=first|omega|(simp only[lenW]<;>omega)) only[hlt,wV,simprocAttr]
    exact⟨.inr trivial,_,rfl,by simp only[indexR,if_neg this];rfl⟩
theorem contains62 (l:List Int) (n:Int) (hl:l.length<=140737488355328):PSpec Tryz.prog 39 [sli l,.int .i64 n] (.bool (decide (n∈l))):=by
  refine PSpec.Qak 64 ok39 rfl (by(try simp only[noRefs,Qab,Qai,Qah,Qal,Qaf,noRef,Bool.and_self,Bool.and_true])<;>rfl) rfl ?_
  simp(disch:=first|omega|(simp only[lenW]<;>omega)) only[s39,wV,simprocAttr]
  refine cp (index70 l n hl) ?_
  have e:decide (0<=indexR l n)=decide (n∈l):=by
    unfold indexR
    by_cases h:n∈l
    · rw[if_pos h];simp[h]
    · rw[if_neg h];simp[h]
  by_cases h:n∈l
  · have e2 : 0 <= indexR l n := by rw [decide_eq_decide] at e; exact e.2 h
    simp(disch:=first|omega|(simp only[lenW]<;>omega)) only[e2,wV,simprocAttr]
    exact⟨.inr trivial,_,rfl,by simp[resOf,Qat,h]⟩
  · have e2 : ¬ 0 <= indexR l n := by rw [decide_eq_decide] at e; exact fun h2 => h (e.1 h2)
    simp(disch:=first|omega|(simp only[lenW]<;>omega)) only[e2,wV,simprocAttr]
    exact⟨.inr trivial,_,rfl,by simp[resOf,Qat,h]⟩
end Go.AM.SE
namespace Go.AM.SE
open Go.Proofs Go.AM.SD
def SetOk (l:List Int) (n:Int):Prop:=(∀x∈l,0<=x/\x<n)/\l.Pairwise (· < ·)
end Go.AM.SE
namespace Go.AM.SE
open Go.Proofs Go.AM.SD
def fe (f:Nat->Int):Nat->Int
 |0=>0
 |n+1=>if fe f n=0 then f n else fe f n
theorem Qbb {f:Nat->Int}:∀{n:Nat},(∀j,j<n->f j=0)->fe f n=0
 |0,_=>rfl
 |n+1,h=>by
  rw[fe,if_pos (Qbb fun j hj=>h j (by omega))]
  exact h n (Nat.lt_succ_self n)
theorem fe_at {f:Nat->Int} {i:Nat} {e:Int} (hf:f i=e) (he:e≠0) (hb:∀j,j<i->f j=0):∀{n:Nat},i<n->fe f n=e
  |0,h=>absurd h (Nat.not_lt_zero _)
  | n + 1, h => by
    rw[fe]
    by_cases e1:i=n
    · subst e1;rw[if_pos (Qbb hb)];exact hf
    · have := fe_at hf he hb (n := n) (by omega)
      rw[if_neg (by rw[this];exact he)];exact this
theorem QfY {f:Nat->Int}:∀{n:Nat},fe f n=0->∀j,j<n->f j=0
 |0,_,j,hj=>absurd hj (Nat.not_lt_zero _)
 | n + 1, h, j, hj => by
  rw[fe]at h
  split at h
  ·rename_i h0
   by_cases e:j=n
   ·subst e;exact h
   ·exact QfY h0 j (by omega)
  ·rename_i h0;exact absurd h h0
theorem fe_up {f:Nat->Int} {i:Nat} (hb:∀j,j<i->f j=0) (h:f i=0):∀j,j<i+1->f j=0:=fun j hj=>by
 by_cases e:j=i
 ·subst e;exact h
 ·exact hb j (by omega)
def setE (l:List Int) (n:Int) (i:Nat):Int:=
 if l.getD i 0<0\/n<=l.getD i 0 then 2 else if 0<i/\l.getD i 0<=l.getD (i-1) 0 then 5 else 0
def setErr (l:List Int) (n:Int):Int:=fe (setE l n) l.length
theorem QaB {α:Type} {l:List α} {i:Nat} {x d:α} (h:l[i]?=some x):l.getD i d=x:=by rw[List.getD_eq_getElem?_getD,h];rfl
theorem set49X (l : List Int) (n : Int) (hl : l.length <= 9223372036854775807) : PSpec Tryz.prog 161 [sli l, .int .i64 n] (.int .i64 (setErr l n)) := by
  refine PSpec.Qak 64 ok161 rfl (by(try simp only[noRefs,Qab,Qai,Qah,Qal,Qaf,noRef,Bool.and_self,Bool.and_true])<;>rfl) rfl ?_
  simp(disch:=first|omega|(simp only[lenW]<;>omega)) only[s161,wV,simprocAttr]
  refine Qa3 100 (fun i:Nat=>[(0,sli l),(1,.int .i64 n),(7,sli l),(8,.int .i64 l.length),(9,.int .i64 i)]) (fun _=>[]) (fun i=>i<=l.length/\∀j,j<i->setE l n j=0) (fun i=>l.length-i) 0 ⟨[],rfl,au0,au1,au2⟩ ⟨Nat.zero_le _,fun j hj=>absurd hj (Nat.not_lt_zero _)⟩ ?_
  rintro i ⟨hi,hb⟩
  by_cases hlt:i<l.length
  · obtain ⟨x, hx⟩ := Qas hlt
    have hgx:l.getD i 0=x:=QaB hx
    by_cases h1:x<0
    · simp (disch := first | omega | (simp only [lenW] <;> omega)) only [hlt, Qaw hx, h1, wV, simprocAttr]
      exact⟨.inr trivial,_,rfl,by rw[setErr,fe_at (e:=2) (by unfold setE;rw[hgx,if_pos (.inl h1)]) (by decide) hb hlt];rfl⟩
    by_cases h2:n<=x
    · simp (disch := first | omega | (simp only [lenW] <;> omega)) only [hlt, Qaw hx, h1, h2, wV, simprocAttr]
      exact⟨.inr trivial,_,rfl,by rw[setErr,fe_at (e:=2) (by unfold setE;rw[hgx,if_pos (.inr h2)]) (by decide) hb hlt];rfl⟩
    have h12:¬(x<0\/n<=x):=by omega
    by_cases h0:i=0
    · have h4 : ¬ (0 : Int) < (i : Int) := by omega
      simp(disch:=first|omega|(simp only[lenW]<;>omega)) only[hlt,Qaw hx,h1,h2,h4,wV,simprocAttr]
      exact⟨i+1,by omega,⟨by omega,fe_up hb (by unfold setE;rw[hgx,if_neg h12,if_neg (by omega)])⟩,⟨[],rfl,au0,au1,au2⟩⟩
    · obtain ⟨y, hy⟩ := Qas (l := l) (i := i - 1) (by omega)
      have hgy:l.getD (i-1) 0=y:=QaB hy
      have h4:(0:Int)<(i:Int):=by omega
      have h5:(i:Int)-1=((i-1:Nat):Int):=by omega
      have h6:((i-1:Nat):Int)<l.length:=by omega
      by_cases h3:x<=y
      · simp (disch := first | omega | (simp only [lenW] <;> omega)) only [hlt, Qaw hx, h1, h2, h4, h5, h6, Qaw hy, h3, wV, simprocAttr]
        exact⟨.inr trivial,_,rfl,by rw[setErr,fe_at (e:=5) (by unfold setE;rw[hgx,hgy,if_neg h12,if_pos ⟨by omega,h3⟩]) (by decide) hb hlt];rfl⟩
      · simp (disch := first | omega | (simp only [lenW] <;> omega)) only [hlt, Qaw hx, h1, h2, h4, h5, h6, Qaw hy, h3, wV, simprocAttr]
        exact⟨i+1,by omega,⟨by omega,fe_up hb (by unfold setE;rw[hgx,hgy,if_neg h12,if_neg (by omega)])⟩,⟨[],rfl,au0,au1,au2⟩⟩
  · simp (disch := first | omega | (simp only [lenW] <;> omega)) only [hlt, wV, simprocAttr]
    exact⟨.inr trivial,_,rfl,by rw[setErr,Qbb fun j hj=>hb j (by omega)];rfl⟩
theorem Qd2 {l:List Int} {n:Int} (h:setErr l n=0):SetOk l n:=by
 have h0:=QfY h
 have h1:∀i x,l[i]?=some x->(0<=x/\x<n)/\(0<i->∀y,l[i-1]?=some y->y<x):=fun i x hx=>by
  have hi:=(List.getElem?_eq_some_iff.1 hx).1
  have:=h0 i hi
  unfold setE at this
  rw[QaB hx]at this
  split at this
  ·cases this
  ·split at this
   ·cases this
   ·rename_i q1 q2
    refine⟨by omega,fun hi y hy=>?_⟩
    rw[QaB hy]at q2
    omega
 refine⟨fun x hx=>?_,?_⟩
 ·obtain ⟨i, hi, rfl⟩ := List.getElem_of_mem hx
  exact(h1 i _ (List.getElem?_eq_getElem hi)).1
 ·have : ∀ k i, i + k + 1 < l.length -> l.getD i 0 < l.getD (i + k + 1) 0 := by
   intro k
   induction k with
   |zero=>
    intro i hi
    have:=(h1 (i+1) _ (List.getElem?_eq_getElem (by omega))).2 (by omega) _ (by rw[show i+1-1=i by omega];exact List.getElem?_eq_getElem (by omega))
    rw[List.getD_eq_getElem?_getD,List.getD_eq_getElem?_getD,List.getElem?_eq_getElem (by omega),List.getElem?_eq_getElem (by omega)]
    exact this
   |succ k ih=>
    intro i hi
    have q1:=ih i (by omega)
    have:=(h1 (i+(k+1)+1) _ (List.getElem?_eq_getElem (by omega))).2 (by omega) _ (by rw[show i+(k+1)+1-1=i+k+1 by omega];exact List.getElem?_eq_getElem (by omega))
    rw[List.getD_eq_getElem?_getD,List.getD_eq_getElem?_getD,List.getElem?_eq_getElem (by omega),List.getElem?_eq_getElem (by omega)]at q1⊢
    exact Int.lt_trans q1 this
  rw[List.pairwise_iff_getElem]
  intro i j hi hj hij
  have:=this (j-i-1) i (by omega)
  rw[show i+(j-i-1)+1=j by omega,List.getD_eq_getElem?_getD,List.getD_eq_getElem?_getD,List.getElem?_eq_getElem hi,List.getElem?_eq_getElem hj]at this
  exact this
def edgE (a:Au) (i:Nat):Int:=
 let x:=a.es.getD i ⟨0,0,0⟩
 let y:=a.es.getD (i-1) ⟨0,0,0⟩
 if x.fr<0\/a.n<=x.fr\/x.to<0\/a.n<=x.to then 2 else if x.ev∉a.al then 9
 else if 0<i/\(x.fr<y.fr\/(x.fr=y.fr/\x.ev<=y.ev))then 5 else 0
def edgErr (a:Au):Int:=fe (edgE a) a.es.length
theorem edges50X (a : Au) (hl : a.es.length <= 140737488355328) (hal : a.al.length <= 140737488355328) : PSpec Tryz.prog 162 [auV a] (.int .i64 (edgErr a)) := by
  refine PSpec.Qak 64 ok162 rfl (by(try simp only[noRefs,Qab,Qai,Qah,Qal,Qaf,noRef,Bool.and_self,Bool.and_true])<;>rfl) rfl ?_
  simp(disch:=first|omega|(simp only[lenW]<;>omega)) only[s162,wV,simprocAttr]
  refine Qa3 100 (fun i:Nat=>[(1,.ptr 50 0 0),(7,egs a.es),(8,.int .i64 a.es.length),(9,.int .i64 i)]) (fun _=>[(50,.cells 0 [sli a.al,.int .i64 a.n,sli a.ms,egs a.es])]) (fun i=>i<=a.es.length/\∀j,j<i->edgE a j=0) (fun i=>a.es.length-i) 0 ⟨[(50,.blk 64 0)],rfl,au0,au1,au2⟩ ⟨Nat.zero_le _,fun j hj=>absurd hj (Nat.not_lt_zero _)⟩ ?_
  rintro i ⟨hi,hb⟩
  by_cases hlt:i<a.es.length
  · obtain ⟨x, hx⟩ := Qas hlt
    have hgx:a.es.getD i ⟨0,0,0⟩=x:=QaB hx
    by_cases f1:x.fr<0
    · simp (disch := first | omega | (simp only [lenW] <;> omega)) only [hlt, QaO hx, f1, wV, simprocAttr]
      exact⟨.inr trivial,_,rfl,by rw[edgErr,fe_at (e:=2) (by unfold edgE;dsimp only;rw[hgx,if_pos (by omega)]) (by decide) hb hlt];rfl⟩
    by_cases f2:a.n<=x.fr
    · simp (disch := first | omega | (simp only [lenW] <;> omega)) only [hlt, QaO hx, f1, f2, wV, simprocAttr]
      exact⟨.inr trivial,_,rfl,by rw[edgErr,fe_at (e:=2) (by unfold edgE;dsimp only;rw[hgx,if_pos (by omega)]) (by decide) hb hlt];rfl⟩
    by_cases t1:x.to<0
    · simp (disch := first | omega | (simp only [lenW] <;> omega)) only [hlt, QaO hx, f1, f2, t1, wV, simprocAttr]
      exact⟨.inr trivial,_,rfl,by rw[edgErr,fe_at (e:=2) (by unfold edgE;dsimp only;rw[hgx,if_pos (by omega)]) (by decide) hb hlt];rfl⟩
    by_cases t2:a.n<=x.to
    · simp (disch := first | omega | (simp only [lenW] <;> omega)) only [hlt, QaO hx, f1, f2, t1, t2, wV, simprocAttr]
      exact⟨.inr trivial,_,rfl,by rw[edgErr,fe_at (e:=2) (by unfold edgE;dsimp only;rw[hgx,if_pos (by omega)]) (by decide) hb hlt];rfl⟩
    have hc:=contains62 a.al x.ev hal
    simp(disch:=first|omega|(simp only[lenW]<;>omega)) only[hlt,QaO hx,f1,f2,t1,t2,wV,simprocAttr]
    refine cp hc ?_
    by_cases hev:x.ev∈a.al
    · rw [decide_eq_true hev]
      by_cases h0:i=0
      · have h4 : (i : Int) = 0 := by omega
        simp(disch:=first|omega|(simp only[lenW]<;>omega)) only[hlt,QaO hx,h4,wV,simprocAttr]
        exact⟨1,by omega,⟨by omega,fun j hj=>by rw[show j=i by omega];unfold edgE;dsimp only;rw[hgx,if_neg (by omega),if_neg (by simpa using hev),if_neg (by omega)]⟩,⟨[(50,.blk 50 0)],rfl,au0,au1,au2⟩⟩
      · obtain ⟨y, hy⟩ := Qas (l := a.es) (i := i - 1) (by omega)
        have hgy:a.es.getD (i-1) ⟨0,0,0⟩=y:=QaB hy
        have h4:¬(i:Int)=0:=by omega
        have h5:(i:Int)-1=((i-1:Nat):Int):=by omega
        have h6:((i-1:Nat):Int)<a.es.length:=by omega
        by_cases g1:x.fr<y.fr
        · simp (disch := first | omega | (simp only [lenW] <;> omega)) only [hlt, QaO hx, h4, h5, h6, QaO hy, g1, wV, simprocAttr]
          exact⟨.inr trivial,_,rfl,by rw[edgErr,fe_at (e:=5) (by unfold edgE;dsimp only;rw[hgx,hgy,if_neg (by omega),if_neg (by simpa using hev),if_pos (by omega)]) (by decide) hb hlt];rfl⟩
        by_cases g2:x.fr=y.fr
        · by_cases g3 : x.ev <= y.ev
          · simp (disch := first | omega | (simp only [lenW] <;> omega)) only [hlt, QaO hx, h4, h5, h6, QaO hy, g1, g2, g3, wV, simprocAttr]
            exact⟨.inr trivial,_,rfl,by rw[edgErr,fe_at (e:=5) (by unfold edgE;dsimp only;rw[hgx,hgy,if_neg (by omega),if_neg (by simpa using hev),if_pos (by omega)]) (by decide) hb hlt];rfl⟩
          · simp (disch := first | omega | (simp only [lenW] <;> omega)) only [hlt, QaO hx, h4, h5, h6, QaO hy, g1, g2, g3, wV, simprocAttr]
            exact⟨i+1,by omega,⟨by omega,fe_up hb (by unfold edgE;dsimp only;rw[hgx,hgy,if_neg (by omega),if_neg (by simpa using hev),if_neg (by omega)])⟩,⟨[(50,.blk 50 0)],rfl,au0,au1,au2⟩⟩
        · simp (disch := first | omega | (simp only [lenW] <;> omega)) only [hlt, QaO hx, h4, h5, h6, QaO hy, g1, g2, wV, simprocAttr]
          exact⟨i+1,by omega,⟨by omega,fe_up hb (by unfold edgE;dsimp only;rw[hgx,hgy,if_neg (by omega),if_neg (by simpa using hev),if_neg (by omega)])⟩,⟨[(50,.blk 50 0)],rfl,au0,au1,au2⟩⟩
    · rw [decide_eq_false hev]
      simp(disch:=first|omega|(simp only[lenW]<;>omega)) only[hlt,QaO hx,wV,simprocAttr]
      exact⟨.inr trivial,_,rfl,by rw[edgErr,fe_at (e:=9) (by unfold edgE;dsimp only;rw[hgx,if_neg (by omega),if_pos hev]) (by decide) hb hlt];rfl⟩
  · simp (disch := first | omega | (simp only [lenW] <;> omega)) only [hlt, wV, simprocAttr]
    exact⟨.inr trivial,_,rfl,by rw[edgErr,Qbb fun j hj=>hb j (by omega)];rfl⟩
def auErr (a:Au):Int:=
 if setErr a.al 32≠0 then setErr a.al 32 else if a.n<0 then 2 else if 4096<a.n then 3 else if setErr a.ms a.n≠0 then setErr a.ms a.n else edgErr a
theorem SetOk.len {l:List Int} {n:Int} (h:SetOk l n):(l.length:Int)<=max n 0:=by
  have h1:(l.map Int.toNat).Pairwise (· < ·):=by
    rw[List.pairwise_map]
    refine h.2.imp_of_mem fun{x y} hx hy hxy=>?_
    have:=(h.1 x hx).1
    omega
  have:=Qbk n.toNat (l.map Int.toNat) (by rw[List.nodup_iff_pairwise_ne];exact h1.imp fun h=>by omega) fun x hx=>by
    obtain⟨y,hy,rfl⟩:=List.mem_map.1 hx
    have:=h.1 y hy
    omega
  rw[List.length_map]at this
  omega
theorem check37X (a : Au) (h1 : a.al.length <= 9223372036854775807) (h2 : a.ms.length <= 9223372036854775807) (h3 : a.es.length <= 140737488355328) : PSpec Tryz.prog 91 [auV a] (.int .i64 (auErr a)) := by
  refine PSpec.Qak 64 ok91 rfl (by(try simp only[noRefs,Qab,Qai,Qah,Qal,Qaf,noRef,Bool.and_self,Bool.and_true])<;>rfl) rfl ?_
  have e1:=set49X a.al 32 h1
  have e2:=set49X a.ms a.n h2
  have e3:setErr a.al 32=0->_:=fun h=>edges50X a h3 (by have:=(Qd2 h).len;omega)
  unfold auErr
  generalize setErr a.al 32=v1 at*
  generalize setErr a.ms a.n=v2 at*
  generalize edgErr a=v3 at*
  simp(disch:=first|omega|(simp only[lenW]<;>omega)) only[s91,wV,simprocAttr]
  refine cp e1 ?_
  by_cases q1:v1=0
  · have e3 := e3 q1
    simp(disch:=first|omega|(simp only[lenW]<;>omega)) only[q1,wV,simprocAttr]
    by_cases q2:a.n<0
    · simp (disch := first | omega | (simp only [lenW] <;> omega)) only [q2, wV, simprocAttr]
      exact⟨.inr trivial,_,rfl,rfl⟩
    · by_cases q3 : 4096 < a.n
      · simp (disch := first | omega | (simp only [lenW] <;> omega)) only [q2, q3, wV, simprocAttr]
        exact⟨.inr trivial,_,rfl,rfl⟩
      · simp (disch := first | omega | (simp only [lenW] <;> omega)) only [q2, q3, wV, simprocAttr]
        refine cp e2 ?_
        by_cases q4:v2=0
        · simp (disch := first | omega | (simp only [lenW] <;> omega)) only [q4, wV, simprocAttr]
          refine cp e3 ?_
          simp(disch:=first|omega|(simp only[lenW]<;>omega)) only[wV,simprocAttr]
          exact⟨.inr trivial,_,rfl,rfl⟩
        · simp (disch := first | omega | (simp only [lenW] <;> omega)) only [q4, wV, simprocAttr]
          exact⟨.inr trivial,_,rfl,rfl⟩
  · simp (disch := first | omega | (simp only [lenW] <;> omega)) only [q1, wV, simprocAttr]
    exact⟨.inr trivial,_,rfl,rfl⟩
end Go.AM.SE
namespace Go.AM.SO
open Go.Proofs Go.AM.SD Go.AM.SE
theorem QjH {s:List UInt8} {i:Nat} {b:UInt8} (h:s[i]?=some b):aIndex none (.str s) (.int .i64 (i:Int))=some (.int .u8 ((b.toNat:Nat):Int)):=by
 simp[aIndex,h]
def okC (i n:Nat):Bool:=decide (97<=n/\n<=122\/65<=n/\n<=90\/n=95\/0<i/\48<=n/\n<=57)
def nmOk (s:List UInt8):Bool:=(List.range s.length).all (fun i=>okC i (s.getD i 0).toNat)&&decide (0<s.length)&&decide (s.length<=32)
theorem Qlj {s:List UInt8} {i:Nat} {b:UInt8} (h:s[i]?=some b) (hb:okC i b.toNat=false):nmOk s=false:=by
 have:(List.range s.length).all (fun i=>okC i (s.getD i 0).toNat)=false:=by
  rw[List.all_eq_false]
  exact⟨i,List.mem_range.2 (List.getElem?_eq_some_iff.1 h).1,by rw[QaB h,hb];simp⟩
 unfold nmOk
 rw[this];rfl
theorem Qlk {s:List UInt8} (h:∀(i:Nat) b,s[i]?=some b->okC i b.toNat=true):nmOk s=(decide (0<s.length)&&decide (s.length<=32)):=by
 have:(List.range s.length).all (fun i=>okC i (s.getD i 0).toNat)=true:=by
  rw[List.all_eq_true]
  intro i hi
  obtain⟨b,hb⟩:=Qas (List.mem_range.1 hi)
  rw[QaB hb];exact h i b hb
 unfold nmOk
 rw[this];rfl
theorem _root_.Go.AM.au3 {p:Prop} (h:p:=by repeat' (first|exact RB.nil|(refine RnL.same ?_;first|rfl|(simp only[noRef,noRefs,Qam,Bool.and_self,Bool.and_true,Bool.true_and,Qab,Qap,Qaj];done))|exact RnM.keyM rfl|exact RnL.nil|exact(True.intro:RnM _ _ _ [] [])|refine RnL.cons ?_ ?_|(refine Rn.same ?_;first|rfl|(simp only[noRef,noRefs,Qam,Bool.and_self,Bool.and_true,Bool.true_and,Qab,Qap,Qaj];done))|exact Rn.x1 rfl rfl|exact Rn.x2 rfl rfl|exact Rn.x3 rfl rfl|exact Rn.x4 rfl rfl|exact Rn.x5 rfl|exact Rn.x6 rfl|exact Rn.x7 rfl|refine RB.newnil rfl rfl ?_|refine RB.cells rfl rfl rfl ?_ ?_|refine RB.map rfl rfl rfl ?_ ?_|refine RB.cellsB rfl rfl ?_ ?_|refine RB.mapB rfl rfl ?_ ?_)):p:=h
theorem _root_.Go.AM.au4 {p:Prop} (h:p:=by repeat (first|exact RT.nil|(refine RT.cons ?_ ?_; · (first|exact Rn.any|exact Rn.x1 rfl rfl|exact Rn.x2 rfl rfl|exact Rn.x3 rfl rfl|exact Rn.x4 rfl rfl|exact Rn.x5 rfl|exact Rn.x6 rfl|exact Rn.x7 rfl|(refine Rn.slot ?_ ?_;(first|rfl|(rw[Int.natCast_add];rfl));(first|rfl|(simp only[noRef,noRefs,Qam,Bool.and_self,Bool.and_true,Bool.true_and,Qab,Qap,Qaj];done)))|(refine Rn.fn ?_ ?_<;>(repeat' (first|exact RnL.nil|refine RnL.cons ?_ ?_|exact Rn.same rfl|exact Rn.x6 rfl|exact Rn.x2 rfl rfl|exact Rn.x5 rfl|exact Rn.x1 rfl rfl))))))):p:=h
theorem name135 (s : List UInt8) (hl : s.length <= 9223372036854775807) : PSpec Tryz.prog 128 [.str s] (.bool (nmOk s)) := by
  refine PSpec.Qak 64 TX.ok128 rfl rfl rfl ?_
  simp(disch:=first|omega|exact PairsOK.mk rfl|(simp only[lenW]<;>omega)) only[TX.s128,wV,simprocAttr]
  refine Qa3 100 (fun i:Nat=>[(0,.str s),(7,.int .i64 s.length),(8,.int .i64 i)]) (fun _=>[]) (fun i=>i<=s.length/\∀(j:Nat) b,j<i->s[j]?=some b->okC j b.toNat=true) (fun i=>s.length-i) 0 ⟨[],rfl,au0,au3,au4⟩ ⟨Nat.zero_le _,fun j b hj=>absurd hj (Nat.not_lt_zero _)⟩ ?_
  rintro i ⟨hi,hb⟩
  by_cases hlt:i<s.length
  · obtain ⟨b, hx⟩ := Qas hlt
    have hix:=QjH hx
    have go:okC i b.toNat=true->∀j c,j<i+1->s[j]?=some c->okC j c.toNat=true:=fun h j c hj hc=>by
      by_cases e:j=i
      · subst e;rw[hx]at hc;cases hc;exact h
      · exact hb j c (by omega) hc
    have bad:=fun h=>Qlj hx h
    have ke:okC i b.toNat=decide (97<=b.toNat/\b.toNat<=122\/65<=b.toNat/\b.toNat<=90\/b.toNat=95\/0<i/\48<=b.toNat/\b.toNat<=57):=rfl
    have go:=fun h=>go (ke.trans (decide_eq_true h))
    have bad:=fun h=>bad (ke.trans (decide_eq_false h))
    clear ke
    generalize b.toNat=n at*
    have hcls:97<=n/\n<=122\/97<=n/\122<n\/n<97/\65<=n/\n<=90\/n<97/\90<n/\n=95\/n<97/\90<n/\n≠95\/n<65/\57<n\/n<65/\n<48\/48<=n/\n<=57:=by omega
    by_cases h0:(i:Int)=0
    · rcases hcls with h | h | h | h | h | h | h | h
      all_goals
        simp(disch:=first|omega|exact PairsOK.mk rfl|(simp only[lenW]<;>omega)) only[hlt,hix,decide_eq_true,decide_eq_false,wV,simprocAttr]
        first
          |exact⟨.inr trivial,_,rfl,by rw[bad (by omega)];rfl⟩
          |exact⟨i+1,by omega,⟨by omega,go (by omega)⟩,⟨[],rfl,au0,au3,au4⟩⟩
    · rcases hcls with h | h | h | h | h | h | h | h
      all_goals
        simp(disch:=first|omega|exact PairsOK.mk rfl|(simp only[lenW]<;>omega)) only[hlt,hix,decide_eq_true,decide_eq_false,wV,simprocAttr]
        first
          |exact⟨.inr trivial,_,rfl,by rw[bad (by omega)];rfl⟩
          |exact⟨i+1,by omega,⟨by omega,go (by omega)⟩,⟨[],rfl,au0,au3,au4⟩⟩
  · have hA := Qlk fun j b hj => hb j b (by have := (List.getElem?_eq_some_iff.1 hj).1; omega) hj
    rw[hA]
    by_cases h0:0<s.length
    · by_cases h3 : s.length <= 32
      · simp (disch := first | omega | exact PairsOK.mk rfl | (simp only [lenW] <;> omega)) only [hlt, decide_eq_true, decide_eq_false, wV, simprocAttr]
        exact⟨.inr trivial,_,rfl,by simp[h0,h3,resOf,Qat]⟩
      · simp (disch := first | omega | exact PairsOK.mk rfl | (simp only [lenW] <;> omega)) only [hlt, decide_eq_true, decide_eq_false, wV, simprocAttr]
        exact⟨.inr trivial,_,rfl,by simp[h0,h3,resOf,Qat]⟩
    · simp (disch := first | omega | exact PairsOK.mk rfl | (simp only [lenW] <;> omega)) only [hlt, decide_eq_true, decide_eq_false, wV, simprocAttr]
      exact⟨.inr trivial,_,rfl,by simp[h0,resOf,Qat]⟩
end Go.AM.SO
namespace Go.AM.SO
open Go.Proofs
set_option maxHeartbeats 4000000
noncomputable section
def cf:YA.Cf:={most:= .pure,always:=[74].map fun k=>(k,.heap),value:= .pure}
def s21:SFn:=by
 refine(?f:YA.Yt Tryz.prog cf 21 [[0,2],[15,16,17],[18],[1,3,19,20],[2,3,19,21,22,23],[25,26],[1,4,24],[4,24,28,29,30,31,32,33,34,35,36,37],[1,27],[2,27,38],[],[39,40],[],[43,44],[8,45,46,47,48],[49],[41,42,50],[],[54,55,56],[57,58,59,60,61,62,63],[64],[1,5,6,7,51,52,53,10,11,65,66],[2,10,11,65,67,68,69,70,71],[72],[6,51,52,53,73],[],[77,78,79],[13,80,81,82,83,84,85,86],[87],[1,5,7,74,75,76,14,88,89],[2,14,88,90],[1,5,7,74,75,76,91,92,93]]) ?s ?h
 case h=>exact YA.rr
 exact fun s _=>s
def s46:SFn:=by
 refine(?f:YA.Yt Tryz.prog cf 46 [[4],[0,1,5,6,7,8]]) ?s ?h
 case h=>exact YA.rr
 exact fun s _=>s
def s129:SFn:=by
 refine(?f:YA.Yt Tryz.prog cf 129 [[0,2],[1,3,4,5,6,7,8,9,10,11]]) ?s ?h
 case h=>exact YA.rr
 exact fun s _=>s
def s73:SFn:=by
 refine(?f:YA.Yt Tryz.prog cf 73 [[2],[6,7],[0,8],[2,8,9],[0],[],[13,14,15],[17,18,19,20],[3,10,11,12,45,42,44,43,41,40,33,32,31,5,16],[16,22,23,24,25],[3,10,11,12,45,42,44,43,41,40,33,32,31,5,21],[21,27,28,29,30,34],[3,10,11,12,45,42,44,43,41,40,33,32,31,5,26],[26,36,37,38,39,46],[3,10,11,12,45,42,44,43,41,40,33,32,31,5,35],[2,5,35,47,48,49],[50],[3,10,11,12,45,42,44,43,41,40,33,32,31]]) ?s ?h
 case h=>exact YA.rr
 exact fun s _=>s
def s75:SFn:=by
 refine(?f:YA.Yt Tryz.prog cf 75 [[4],[0,1,5,6,7]]) ?s ?h
 case h=>exact YA.rr
 exact fun s _=>s
def s77:SFn:=by
 refine(?f:YA.Yt Tryz.prog cf 77 [[0],[10],[11],[],[15,16,17],[5,18,19,20,21,22,23,24,25],[26],[12,13,14,27],[],[31,32,33],[7,34,35,36,37,38,39,40,41,42,43,44],[45],[1,28,29,30,46],[],[50,51,52],[9,53,54,55,56,57,58,59,60,61,62,63,64,65],[66],[3,47,48,49,67]]) ?s ?h
 case h=>exact YA.rr
 exact fun s _=>s
def s136:SFn:=by
 refine(?f:YA.Yt Tryz.prog cf 136 [[0,1,4],[7,8,9],[2,3,10],[4,10,11],[],[15,16,17,18],[20,21,22,23,30],[2,3,12,13,14,59,52,58,57,54,56,55,53,51,44,36,43,42,41,38,40,39,37,35,29,25,28,27,26,24,6,5,19],[5,19,32,33,34,45],[2,3,12,13,14,59,52,58,57,54,56,55,53,51,44,36,43,42,41,38,40,39,37,35,29,25,28,27,26,24,6,31],[6,31,47,48,49,50,60],[2,3,12,13,14,59,52,58,57,54,56,55,53,51,44,36,43,42,41,38,40,39,37,35,29,25,28,27,26,24,46],[4,46,61],[2,3,12,13,14,59,52,58,57,54,56,55,53,51,44,36,43,42,41,38,40,39,37,35,29,25,28,27,26,24]]) ?s ?h
 case h=>exact YA.rr
 exact fun s _=>s
def s138:SFn:=by
 refine(?f:YA.Yt Tryz.prog cf 138 [[0,1,4],[7,8,9],[2,3,10],[4,10,11],[],[15,16,17,18],[20,21,22,23,30],[2,3,12,13,14,53,52,51,44,36,43,42,41,38,40,39,37,35,29,25,28,27,26,24,6,5,19],[5,19,32,33,34,45],[2,3,12,13,14,53,52,51,44,36,43,42,41,38,40,39,37,35,29,25,28,27,26,24,6,31],[6,31,47,48,49,50,54],[2,3,12,13,14,53,52,51,44,36,43,42,41,38,40,39,37,35,29,25,28,27,26,24,46],[4,46,55],[2,3,12,13,14,53,52,51,44,36,43,42,41,38,40,39,37,35,29,25,28,27,26,24,56,57],[58],[58]]) ?s ?h
 case h=>exact YA.rr
 exact fun s _=>s
def s97:SFn:=by
 refine(?f:YA.Yt Tryz.prog cf 97 [[4],[6],[],[9,10],[11,12,13,14,15],[0,1,7,8,5,16,17],[4,5,16,18],[0,1,7,8]]) ?s ?h
 case h=>exact YA.rr
 exact fun s _=>s
def s139:SFn:=by
 refine(?f:YA.Yt Tryz.prog cf 139 [[2],[3],[0,4],[0,4,5,6,7]]) ?s ?h
 case h=>exact YA.rr
 exact fun s _=>s
def s140:SFn:=by
 refine(?f:YA.Yt Tryz.prog cf 140 [[2],[3],[0,4],[0,4,5,6,7]]) ?s ?h
 case h=>exact YA.rr
 exact fun s _=>s
def s130:SFn:=by
 refine(?f:YA.Yt Tryz.prog cf 130 [[3],[0,1,4,5,6]]) ?s ?h
 case h=>exact YA.rr
 exact fun s _=>s
def s131:SFn:=by
 refine(?f:YA.Yt Tryz.prog cf 131 [[4],[0,1,5,6,7,8,9]]) ?s ?h
 case h=>exact YA.rr
 exact fun s _=>s
def s132:SFn:=by
 refine(?f:YA.Yt Tryz.prog cf 132 [[6],[],[11,12,13,14],[18,19,20,21,22,35],[36,37,38,39,52],[],[],[53,54,55,56,57,58],[53],[59,60,61,62,63,64],[8,9,59,65,66,67],[10,68,69,70,71,72],[0,1,2,7,51,43,50,46,49,48,47,45,44,42,41,40,34,26,33,29,32,31,30,28,27,25,24,23,17,16,15,73]]) ?s ?h
 case h=>exact YA.rr
 exact fun s _=>s
def s133:SFn:=by
 refine(?f:YA.Yt Tryz.prog cf 133 [[4],[0,1,5,6,7,8]]) ?s ?h
 case h=>exact YA.rr
 exact fun s _=>s
def s216:SFn:=by
 refine(?f:YA.Yt Tryz.prog cf 216 [[2],[0,3,4,5,6,7,8]]) ?s ?h
 case h=>exact YA.rr
 exact fun s _=>s
def s215:SFn:=by
 refine(?f:YA.Yt Tryz.prog cf 215 [[4],[0,1,5,6,7]]) ?s ?h
 case h=>exact YA.rr
 exact fun s _=>s
def s261:SFn:=by
 refine(?f:YA.Yt Tryz.prog cf 261 [[4],[0,1,5,6,7,8,9]]) ?s ?h
 case h=>exact YA.rr
 exact fun s _=>s
theorem ok21:okFn Tryz.prog 21 s21=true:=by kernel_rfl
theorem ok46:okFn Tryz.prog 46 s46=true:=by kernel_rfl
theorem ok129:okFn Tryz.prog 129 s129=true:=by kernel_rfl
theorem ok73:okFn Tryz.prog 73 s73=true:=by kernel_rfl
theorem ok75:okFn Tryz.prog 75 s75=true:=by kernel_rfl
theorem ok77:okFn Tryz.prog 77 s77=true:=by kernel_rfl
theorem ok136:okFn Tryz.prog 136 s136=true:=by kernel_rfl
theorem ok138:okFn Tryz.prog 138 s138=true:=by kernel_rfl
theorem ok97:okFn Tryz.prog 97 s97=true:=by kernel_rfl
theorem ok139:okFn Tryz.prog 139 s139=true:=by kernel_rfl
theorem ok140:okFn Tryz.prog 140 s140=true:=by kernel_rfl
theorem ok130:okFn Tryz.prog 130 s130=true:=by kernel_rfl
theorem ok131:okFn Tryz.prog 131 s131=true:=by kernel_rfl
theorem ok132:okFn Tryz.prog 132 s132=true:=by kernel_rfl
theorem ok133:okFn Tryz.prog 133 s133=true:=by kernel_rfl
theorem ok216:okFn Tryz.prog 216 s216=true:=by kernel_rfl
theorem ok215:okFn Tryz.prog 215 s215=true:=by kernel_rfl
theorem ok261:okFn Tryz.prog 261 s261=true:=by kernel_rfl
end
end Go.AM.SO
namespace Go.AM
variable {P:Program}
end Go.AM
namespace Go.AM
end Go.AM
namespace Go.AM
variable {P:Program}
abbrev Claims:=List (Nat×List Nat)
def clm:Claims->Nat->Option (List Nat)
 |[],_=>none
 |(j,bs)::r,d=>bif Nat.beq j d then some bs else clm r d
def absH (C:Claims) (d:Nat) (a:Option (List Nat)):Option (List Nat):=match clm C d with|some bs=>some bs|none=>a
def touch2 (i:Nat) (ax:Opd->Option (List Nat)):SOp->Option (List Nat)
 | .call .pure _ _=>some []
 |s=>s.touch i ax
theorem Qh2 {i:Nat} {T:Tmps} {ax:Opd->Option (List Nat)} {s:SOper} {h h1:Heap} {v:AV} {f:FP} {ts:List Nat} (hax:∀x bs,ax x=some bs->Pts (ev T x) bs) (ht:touch2 i ax s.op=some ts) (hs:StepV P i s T h v h1 f):
  f.all=false/\∀b,b∈f.R\/b∈f.W->b∈ts:=by
 by_cases hc:∃x asg,s.op= .call .pure x asg
 ·obtain ⟨x, asg, hop⟩ := hc
  have key:StepX P i s.op T h v h1 f->f.all=false/\∀b,b∈f.R\/b∈f.W->b∈ts:=by
   rintro⟨out,h2,hm,ho⟩
   rw[hop]at hm ho
   simp only[aop]at hm ho
   cases hx:ev T x with
   |fn f' first cap=>
    rw[hx]at hm ho
    simp only[aCall,HM.run,Option.some.injEq,Prod.mk.injEq]at hm
    obtain⟨rfl,rfl⟩:=hm
    simp only[aCall,HM.fp]at ho
    obtain⟨_,_,rfl⟩:=ho
    exact⟨rfl,fun b hb=>by simp[fpOf]at hb⟩
   |_=>rw[hx]at hm;simp[aCall,HM.run]at hm
  unfold StepV at hs
  grind
 ·refine QeN hax ?_ hs
  simp_all [touch2]
def touchesH (C:Claims) (n:Nat) (T:Tmps):List SOper->Abs->List (Option (List Nat))
 |[],_=>[]
 |s::r,A=>touch2 n (absO T A) s.op::touchesH C (n+1) T r (match s.dst with|some d=>(d,absH C d (s.op.absV n (absO T A)))::A|none=>A)
def ssa (C:Claims):List SOper->Bool
 |[]=>true
 |s::r=>(match s.dst with|some d=>(clm C d).isNone||r.all fun s'=>(match s'.dst with|some e=> !Nat.beq e d|none=>true)|none=>true)&&ssa C r
theorem Qjh:∀{r:List SOper} {n:Nat} {T:Tmps} {h:Heap} {K:Tmps->Heap->Nat->Prop},wpR P n r T h K->∃T' h' n',K T' h' n'/\∀d,(∀s∈r,s.dst≠some d)->lk T' d=lk T d
 |[],n,T,h,K,hk=>⟨T,h,n,hk,fun _ _=>rfl⟩
 |s::r,n,T,h,K,⟨v,h1,f,hs,hr⟩=>by
  obtain⟨T',h',n',hk,he⟩:=Qjh hr
  refine⟨T',h',n',hk,fun d hd=>?_⟩
  simp_all [Qba]
theorem Qh3 {T0:Tmps} {C:Claims}:∀{r:List SOper} {n:Nat} {A:Abs} {T:Tmps} {h:Heap} {K:Tmps->Heap->Nat->Prop} (hA:AbsOK T0 A T) (K':List FP->Tmps->Heap->Nat->Prop)
  (hC:∀T h n,K T h n->∀d bs,clm C d=some bs->Pts (lk T d) bs) (hssa:ssa C r=true),
  (∀fs T h n',fs.length=r.length->(∀(j:Nat) ts,(touchesH C n T0 r A).getD j none=some ts->(fs.getD j ⟨false,[],[]⟩).all=false/\∀b,b∈(fs.getD j ⟨false,[],[]⟩).R\/b∈(fs.getD j ⟨false,[],[]⟩).W->b∈ts)->K T h n'->K' fs T h n')->
  wpR P n r T h K->wpRF P n r T h K'
 |[],n,A,T,h,K,hA,K',hC,hssa,hK,hw=>hK [] T h n rfl (fun j ts hj=>by simp_all) hw
 | s :: r, n, A, T, h, K, hA, K', hC, hssa, hK, hw => by
  obtain⟨v,h1,f,hs,hr⟩:=hw
  simp only[ssa,Bool.and_eq_true]at hssa
  obtain⟨hs1,hs2⟩:=hssa
  refine⟨v,h1,f,hs,?_⟩
  have hA2:AbsOK T0 (match s.dst with|some d=>(d,absH C d (s.op.absV n (absO T0 A)))::A|none=>A) (putD T s.dst v):=by
   cases e:s.dst with
   |none=>exact hA
   | some d =>
    refine AbsOK.up hA fun bs hb=>?_
    unfold absH at hb
    split at hb
    ·rename_i bs' hc
     cases hb
     obtain⟨T',h',n',hk,he⟩:=Qjh hr
     have h3:=hC T' h' n' hk d _ hc
     rw[he d ?_,Qba,if_pos e]at h3
     ·exact h3
     ·intro s' hs'
      rw[e]at hs1
      simp only[hc,Option.isNone_some,Bool.false_or,List.all_eq_true]at hs1
      have:=hs1 s' hs'
      intro e2
      simp_all
    ·exact QfJ hA.opd hb hs
  refine Qh3 hA2 (fun fs T h n=>K' (f::fs) T h n) hC hs2 (fun fs T h n' hl hf hk=>?_) hr
  refine hK (f::fs) T h n' (by simp[hl]) (fun j ts hj=>?_) hk
  cases j with
  |zero=>
   simp only[touchesH,List.getD_cons_zero]at hj⊢
   exact Qh2 hA.opd hj hs
  |succ j=>
   simp only[touchesH,List.getD_cons_succ]at hj⊢
   exact hf j ts hj
def Clms (T:Tmps):Claims->Prop
 |[]=>True
 |(d,bs)::r=>Pts (lk T d) bs/\Clms T r
theorem Clms.get {T:Tmps}:∀{C:Claims},Clms T C->∀d bs,clm C d=some bs->Pts (lk T d) bs
 |[],_,d,bs,h=>by cases h
 | (j, cs) :: r, hh, d, bs, h => by
  simp only[clm]at h
  cases e:Nat.beq j d with
  |true=>
   rw[e]at h
   simp only[cond_true,Option.some.injEq]at h
   have:j=d:=by simpa using e
   subst this;subst h;exact hh.1
  |false=>rw[e]at h;exact Clms.get hh.2 d bs h
theorem QjI (C:Claims) {N:NM} {ops:List SOper} {p:Nat×Nat} {ps:List (Nat×Nat)} {dead:List Nat} {fs:List Fr} {n:Nat} {T:Tmps} {h:Heap} {Q:QC} (hssa:ssa C ops=true) (hp:pairsOK (touchesH C n T ops []) (p::ps)=true)
  (hw:wR P N ops [] [] n T h fun e T h n=>Clms T C/\wX P N .normal fs n (rm T dead) h Q):wS P N (.region ops (p::ps) dead) fs n T h Q:=by
 have rm0:∀T:Tmps,rm T []=T:=by
  intro T
  induction T with
  |nil=>rfl
  |cons p T ih=>obtain⟨j,v⟩:=p;simp[rm,ih]
 refine Qh3 (C:=C) (K:=fun T h n=>Clms T C/\wX P N .normal fs n (rm T dead) h Q) AbsOK.nil _ (fun T h n hk d bs hc=>hk.1.get d bs hc) hssa (fun fs' T h n' hl hf hk=>⟨?_,hk.2⟩) ?_
 ·rw [List.all_eq_true]
  intro q hq
  have:=List.all_eq_true.1 hp q hq
  split at this
  ·rename_i a b ha hb
   obtain⟨f1,f2⟩:=hf _ _ ha
   obtain⟨g1,g2⟩:=hf _ _ hb
   have hd:∀x y,x∈a->y∈b->x≠y:=by
    grind
   have dj:∀xs ys:List Nat,(∀x∈xs,∀y∈ys,x≠y)->disj xs ys=true:=by
    intro xs ys hh
    unfold disj
    grind
   grind [FP.apart]
  ·cases this
 ·have hw' : wpR P n ops T h fun T h n => Clms (rm T []) C /\ wX P N .normal fs n (rm (rm T []) dead) h Q := hw
  simp_all
end Go.AM
namespace Go.AM
variable {P:Program} {N:NM} {n:Nat} {d:Option Nat} {af dead:List Nat} {r:List SOper} {T:Tmps} {h:Heap} {Q:QC} {fs:List Fr}
end Go.AM
namespace Go.AM
end Go.AM
namespace Go.AM
theorem Rn.nilK {m:Nat} {π:Nat->Option Src} {h:Heap} {sz:Nat}:Rn m π h (.fsl [] 0 sz) .nilsl:=fun _ c w v H M hv=>by
 simp_all [VRel]
end Go.AM
namespace Go.AM.SE
open Go.Proofs Go.AM.SD
abbrev backF (es:List Ed):Nat->AV:=fun k=>sliN (preds es k)
end Go.AM.SE
namespace Go.AM.SE
open Go.Proofs Go.AM.SD
theorem Qcg {f:Nat->AV} (h:∀x,noRef (f x)=true) (l:List Nat):noRefs (l.map f)=true:=by
 induction l with
 |nil=>rfl
 |cons x l ih=>simp only[List.map_cons,noRefs,h,ih];rfl
theorem Qao (k:IntKind) (l:List Nat):noRefs (l.map fun x:Nat=>AV.int k (x:Int))=true:=Qcg (fun _=>rfl) l
theorem Qar (es:List Ed) (l:List Nat):noRefs (l.map (backF es))=true:=Qcg (fun x=>Qaj _) l
theorem Qll (n:Nat) (x:Int):(List.replicate n [AV.int .i64 x]).flatten=ints (List.replicate n x):=by
 induction n with
 |zero=>rfl
 |succ n ih=>rw[List.replicate_succ,List.flatten_cons,ih];rfl
theorem QkH {n i:Nat} (h:i<n):(List.replicate i (-1:Int)++List.replicate (n-i) 0).set i (-1)=List.replicate (i+1) (-1)++List.replicate (n-(i+1)) 0:=by
 rw[List.set_append_right _ _ (by simp),List.length_replicate,Nat.sub_self,show n-i=(n-(i+1))+1 by omega,List.replicate_succ,List.set_cons_zero,List.replicate_succ',List.append_assoc];rfl
theorem Qdt {l:List Int} {i:Nat} {x:Int}:(ints l).set i (.int .i64 x)=ints (l.set i x):=by simp[ints,List.map_set]
theorem Qfa {l:List Int} {i:Nat} {x:Int} (h:l[i]?=some x):(ints l)[i]?=some (.int .i64 x):=by simp[ints,h]
theorem QbS {l:List Int} {i:Nat} (h:i<l.length):(ints l)[i]?=some (.int .i64 (l.getD i 0)):=by simp[ints,h]
end Go.AM.SE
namespace Go.AM.SE
open Go.Proofs Go.AM.SD
def bkC (rank:Int) (x:Nat):List AV:=[.int .i64 (x:Int),.int .i64 rank,.int .i64 3,.int .i64 (-1)]
theorem QbT (rank:Int) (l:List Nat):noRefs (l.flatMap (bkC rank))=true:=QaA (fun x=>rfl) l
def lsC (rank:Int) (p:Nat×Nat):List AV:=[.int .i64 (p.1:Int),.int .i64 rank,.int .i64 2,.int .i64 (p.2:Int)]
theorem Qaz (rank:Int) (l:List (Nat×Nat)):noRefs (l.flatMap (lsC rank))=true:=QaA (fun x=>rfl) l
end Go.AM.SE
namespace Go.AM.SE
open Go.Proofs Go.AM.SD
theorem FrzTo.all {h:Heap} {b g len sz:Nat} {cs:List AV} (hb:h.get b=some (.cells g cs)) (hl:cs.length=len*sz):FrzTo h (.sl b g 0 len sz) (.fsl cs len sz):=by
 refine FrzTo.sl hb (by omega) ?_
 rw[List.drop_zero,<-hl,List.take_length]
 exact FrzL.same _
structure QOk (a:Aut) (f u:List Nat):Prop where
 fS:f.Pairwise (· < ·)
 fn:∀x∈f,x<a.n
 uS:u.Pairwise (· < ·)
 un:∀x∈u,x<32
theorem Qbp {l:List Nat} {n:Nat} (h:l.Pairwise (· < ·)) (hn:∀x∈l,x<n):l.length<=n:=Qbk n l (by rw[List.nodup_iff_pairwise_ne];exact h.imp fun h=>by omega) hn
theorem WfA.elK {a:Aut} {k:Nat} (h:WfA a) (hk:∀x∈a.al,x<k):a.es.length<=a.n*k:=by
 have hv:∀e∈a.es,e.2.1<k:=fun e he=>hk _ (h.ev e he)
 have hs:(a.es.map fun e=>e.1*k+e.2.1).Pairwise (· < ·):=by
  rw[List.pairwise_map]
  refine h.es.imp_of_mem fun{x y} hx hy hxy=>?_
  have h1:=hv x hx
  rcases hxy with h2|⟨h2,h3⟩
  ·have := Nat.mul_le_mul_right k (show x.1 + 1 <= y.1 from h2)
   rw[Nat.succ_mul]at this
   omega
  ·rw[h2];omega
 have:=Qbp hs (n:=a.n*k) fun x hx=>by
  obtain⟨e,he,rfl⟩:=List.mem_map.1 hx
  have h1:=hv e he
  have:=Nat.mul_le_mul_right k (show e.1+1<=a.n from(h.esn e he).1)
  rw[Nat.succ_mul]at this
  show e.1*k+e.2.1<_
  omega
 rwa [List.length_map]at this
theorem WfA.el1 {a:Aut} (h:WfA a):a.es.length<=131072:=by
 have h1:=WfA.elK h h.al5
 have h2:=Nat.mul_le_mul_right 32 h.n5
 omega
end Go.AM.SE
namespace Go.AM
variable {P:Program}
end Go.AM
namespace Go.AM
variable {P:Program}
theorem HSpec.empty {f sz:Nat} {asg:List AV} {h h':Heap} {v:AV} (h1:HSpec P f (.nilsl::asg) h v h') (h2:HSpec P f (.nsl::asg) h v h'):HSpec P f (.fsl [] 0 sz::asg) h v h':=by
 obtain⟨hc,h1⟩:=h1
 obtain⟨_,h2⟩:=h2
 refine⟨hc,fun c w cargs H ha=>?_⟩
 simp only[VRels]at ha
 obtain⟨u,us,e,hv,hr⟩:=ha
 simp only[VRel]at hv
 rcases hv with⟨⟨a,rfl⟩,_⟩|⟨cb,off,cap,C,_,_,rfl,_⟩
 ·cases a with
  |none=>exact h1 c w cargs H (by rw[e];simp only[VRels];exact⟨_,_,rfl,by simp[VRel],hr⟩)
  |some a=>exact h2 c w cargs H (by rw[e];simp only[VRels];exact⟨_,_,rfl,by simp[VRel],hr⟩)
 ·exact h2 c w cargs H (by rw[e];simp only[VRels];exact⟨_,_,rfl,by simp[VRel],hr⟩)
end Go.AM
namespace Go.AM
end Go.AM
namespace Go.AM.SE
open Go.Proofs Go.AM.SD
theorem QjJ:aEq (.nil 2) false .nilsl .nilsl=some (.bool true):=rfl
theorem QjK:aEq (.nil 2) false .nsl .nilsl=some (.bool false):=rfl
theorem Qc2 {P:Program} {N:NM} {n:Nat} {d:Option Nat} {dead:List Nat} {r:List SOper} {T:Tmps} {h:Heap} {Q:QC} {fs:List Fr} {sz bytes b2 g2 off2 len2:Nat}:wM P N (aAppend .dyn n sz bytes (.sl b2 g2 off2 len2 sz) .nsl) d r dead fs n T h Q=
  wA P N (srcB (h.get b2) g2 off2 len2 sz) (some []) g2 len2 0 sz bytes b2 d r dead fs n T h Q:=Qc1
theorem _root_.Go.AM.au5 {p:Prop} (h:p:=by repeat' (first|exact RB.nil|(refine RnL.same ?_;first|rfl|(simp only[noRef,noRefs,Qam,Bool.and_self,Bool.and_true,Bool.true_and,Qab,Qai,Qah,Qal,Qaz,QbT,Qaf,Qap,Qaj,QaY,QaI,Qao,Qar];done))|exact RnM.keyM rfl|exact RnL.nil|exact(True.intro:RnM _ _ _ [] [])|refine RnL.cons ?_ ?_|(refine Rn.same ?_;first|rfl|(simp only[noRef,noRefs,Qam,Bool.and_self,Bool.and_true,Bool.true_and,Qab,Qai,Qah,Qal,Qaz,QbT,Qaf,Qap,Qaj,QaY,QaI,Qao,Qar];done))|exact Rn.x1 rfl rfl|exact Rn.x2 rfl rfl|exact Rn.x3 rfl rfl|exact Rn.x4 rfl rfl|exact Rn.x5 rfl|exact Rn.x6 rfl|exact Rn.x7 rfl|refine RB.newnil rfl rfl ?_|refine RB.cells rfl rfl rfl ?_ ?_|refine RB.map rfl rfl rfl ?_ ?_|refine RB.cellsB rfl rfl ?_ ?_|refine RB.mapB rfl rfl ?_ ?_)):p:=h
theorem _root_.Go.AM.au6 {p:Prop} (h:p:=by repeat (first|exact RT.nil|(refine RT.cons ?_ ?_; · (first|exact Rn.any|exact Rn.x1 rfl rfl|exact Rn.x2 rfl rfl|exact Rn.x3 rfl rfl|exact Rn.x4 rfl rfl|exact Rn.x5 rfl|exact Rn.x6 rfl|exact Rn.x7 rfl|(refine Rn.slot ?_ ?_;(first|rfl|(rw[Int.natCast_add];rfl));(first|rfl|(simp only[noRef,noRefs,Qam,Bool.and_self,Bool.and_true,Bool.true_and,Qab,Qai,Qah,Qal,Qaz,QbT,Qaf,Qap,Qaj,QaY,QaI,Qao,Qar];done)))|(refine Rn.fn ?_ ?_<;>(repeat' (first|exact RnL.nil|refine RnL.cons ?_ ?_|exact Rn.same rfl|exact Rn.x6 rfl|exact Rn.x2 rfl rfl|exact Rn.x5 rfl|exact Rn.x1 rfl rfl))))))):p:=h
theorem QkI:HSpec Tryz.prog 41 [.nilsl] .e (.sl 83 0 0 0 1) (hp [(83,.cells 0 [])]):=by
 refine HSpec.Qb0 100 ok41 rfl ?_
 simp(disch:=first|omega|(simp only[lenW]<;>omega)) only[s41,QjJ,wW,wV,simprocAttr]
 exact⟨.inr trivial,_,rfl,⟨[(83,.nil)],rfl,au0,au5,au6⟩⟩
theorem QkJ:HSpec Tryz.prog 41 [.nsl] .e (.sl 83 0 0 0 1) (hp [(83,.cells 0 [])]):=by
 refine HSpec.Qb0 100 ok41 rfl ?_
 simp(disch:=first|omega|(simp only[lenW]<;>omega)) only[s41,QjK,Qc2,wW,wV,simprocAttr]
 exact⟨.inr trivial,_,rfl,⟨[(83,.blk 103 1)],rfl,au0,au5,au6⟩⟩
theorem clone56 (l:List Nat) (hl:l.length<=1000000):HSpec Tryz.prog 41 [sliN l] .e (.sl 83 0 0 l.length 1) (hp [(83,.cells 0 (ints (nz l)))]):=by
 cases l with
 |nil=>exact HSpec.empty QkI QkJ
 |cons x l=>
  refine HSpec.Qb0 100 ok41 rfl ?_
  have hq:aEq (.nil 2) false (sliN (x::l)) .nilsl=some (.bool false):=rfl
  have hone:(ints (nz (x::l))).all AV.one=true:=by simp[ints,AV.one]
  generalize x::l=q at*
  simp(disch:=first|omega|(simp only[lenW]<;>omega)) only[s41,hq,hone,wW,wV,simprocAttr]
  exact⟨.inr trivial,_,rfl,⟨[(83,.blk 103 1)],rfl,au0,au5,au6⟩⟩
end Go.AM.SE
namespace Go.AM.SE
open Go.Proofs Go.AM.SD
abbrev frzE (es:List Ed) (left:Nat->Bool):Nat->AV:=fun k=>egsN (sOut es left k)
theorem Qc3 (es:List Ed) (left:Nat->Bool) (l:List Nat):noRefs (l.map (frzE es left))=true:=Qcg (fun x=>QaI _) l
theorem Qh4 (l:List Ed):(l.flatMap edC).length=l.length*3:=QcN (f:=edC) (k:=3) (fun _=>rfl) l
theorem Qfb (es:List Ed) (left:Nat->Bool) (v:Nat):(sOut es left v).length<=es.length:=by
 unfold sOut;exact List.length_filter_le _ _
def mks (a:Aut) (i:Nat) (o:List Nat):List Nat:=(List.range i).filter fun j=>a.ms.contains (o.getD j 0)
theorem QlK {a:Aut} {i:Nat} {o:List Nat}:(mks a i o).length<=i:=by
 unfold mks;exact Nat.le_trans (List.length_filter_le _ _) (by simp)
theorem QlL {a:Aut} {i:Nat} {o t:List Nat} (h:i<=o.length):mks a i (o++t)=mks a i o:=by
 unfold mks
 refine List.filter_congr fun j hj=>?_
 have:=List.mem_range.1 hj
 rw[List.getD_eq_getElem?_getD,List.getD_eq_getElem?_getD,List.getElem?_append_left (by omega)]
theorem Qlm {a:Aut} {i v:Nat} {o:List Nat} (h:o[i]?=some v):mks a (i+1) o=mks a i o++if a.ms.contains v then[i]else[]:=by
 unfold mks
 rw[List.range_succ,List.filter_append]
 congr 1
 have:o.getD i 0=v:=by rw[List.getD_eq_getElem?_getD,h];rfl
 rw[List.filter_cons,this];rfl
theorem QgK {i:Nat} {s:OE} {es:List Ed} {j:Nat} {e:Ed} (h:es[j]?=some e):(es.take (j+1)).foldl (sEd i) s=sEd i ((es.take j).foldl (sEd i) s) e:=by
 rw[List.take_add_one,h,Option.toList,List.foldl_append];rfl
theorem QcO {i:Nat}:∀(es:List Ed) (s:OE),(es.foldl (sEd i) s).2.length=s.2.length+es.length
 |[],s=>by simp
 |e::es,s=>by
  rw[List.foldl_cons,QcO es]
  unfold sEd;split<;>simp<;>omega
end Go.AM.SE
namespace Go.AM
variable {P:Program}
theorem HSpec.freeze {f b g len sz : Nat} {args ds : List AV} {h h1 : Heap} (S : HSpec P f args h (.sl b g 0 len sz) h1) (hb : h1.get b = some (.cells g ds)) (hf : flatVs ds = true) (hl : len * sz <= ds.length)
    (hlim:Nat.blt b 1099511627775=true):HSpec P f args h (.fsl (ds.take (len*sz)) len sz) (h1.set b (.dead g)):=by
  have hlim':b<1099511627775:=by simp_all
  obtain⟨hc,hs⟩:=S
  refine⟨hc,fun c w cargs H ha=>(hs c w cargs H ha).mono ?_⟩
  rintro e w' ⟨cv,c',rfl,E,H',V⟩
  have hlive:Live h1 b g:=⟨_,hb,rfl,fun _=>by simp⟩
  let c2:Ctx (okc P):={c' with F:=fun k=>c'.F k\/∃base,c'.ρ b g=some (.loc k base),O:=fun k=>c'.O k/\¬∃base,c'.ρ b g=some (.loc k base)}
  have hset:∀k,(h1.set b (.dead g)).get k=if k=b then some (.dead g)else h1.get k:=fun k=>by
    by_cases e:k=b
    · subst e;rw[QaL hlim',if_pos rfl]
    simp_all [QaK]
  have hlv:∀k y,Live (h1.set b (.dead g)) k y->k≠b/\Live h1 k y:=by
    rintro k y ⟨x,hk,hg,hd⟩
    rw[hset]at hk
    split at hk
    · grind
    · rename_i e;exact⟨e,x,hk,hg,hd⟩
  have E2:Evo c w c2 w':=⟨E.os,E.tape,E.output,E.size,E.shape,E.keep,E.rho,fun k hk=> .inl (E.frz k hk),fun k hk=>by
    rcases hk with hk|⟨base,hk⟩
    · exact E.frzNew k hk
    · rcases E.own k (H'.owned hlive hk) with h | h
      · simp_all
      omega,fun k hk=>E.own k hk.1,E.base⟩
  refine⟨cv,c2,rfl,E2,⟨fun k hk y=>?_,fun k x hk y hlt=>?_,fun k x hk=>?_,fun k y k' y' cb base base' l1 l2 p1 p2=>H'.inj k y k' y' cb base base' (hlv _ _ l1).2 (hlv _ _ l2).2 p1 p2,fun k hF hO=>?_,fun k hF=>?_,fun k hO=>H'.inO k hO.1⟩,?_⟩
  · rw [hset] at hk
    split at hk
    · cases hk
    · exact H'.fresh k hk y
  · rw [hset] at hk
    split at hk
    · rename_i e; subst e; cases hk
      exact H'.later k _ hb y hlt
    · exact H'.later k x hk y hlt
  · rw [hset] at hk
    split at hk
    · cases hk;trivial
    · rename_i e
      refine BRel.mono (c:=c') (c':=c2) (w:=w') (w':=w') ⟨fun _ _ _ h=>h,fun _ h=> .inl h,fun _ _ _ h=>h,fun _ C _ fr h=>⟨C,fr,h,rfl⟩⟩ (fun cb base hd hp=>?_) (H'.blk k x hk)
      have hlk:Live h1 k x.gen:=⟨x,hk,rfl,hd⟩
      exact⟨⟨H'.owned hlk hp,fun⟨base',hp'⟩=>e (H'.inj _ _ _ _ _ _ _ hlk hlive hp hp')⟩,rfl⟩
  · rcases hF with hF | hF
    · exact H'.disj k hF hO.1
    grind
  · rcases hF with hF | ⟨base, hF⟩
    · exact H'.inF k hF
    · exact H'.inO k (H'.owned hlive hF)
  · simp only [VRel] at V
    rcases V with⟨hp,rfl,_,rfl⟩|⟨cb,base,o,cap,C,e,fr,hp,rfl,hlc,hC,hcap⟩
    · simp_all [VRel]
    · obtain ⟨C', e', fr', hO, hC', hfr, hbs, hpre⟩ := H'.here hb hp
      rw[hC]at hC';cases hC'
      have hF:c2.F cb:= .inr ⟨base,hp⟩
      by_cases h0:cap=0
      · have hl0 : len = 0 := by omega
        subst hl0
        simp only[VRel]
        simp_all
      · obtain ⟨rfl, hbd⟩ := hcap.resolve_left h0
        have hp2:=VPre.flat (c':=c2) (w':=w') hf hpre
        have hp3:=VPre_take2 (len*sz) hp2
        simp only[VRel]
        grind
where
  VPre_take2 {c:Ctx (okc P)} {w:World}:∀(n:Nat) {xs:List AV} {vs:List Value},VPre c w xs vs->VPre c w (xs.take n) vs
    |0,xs,vs,h=>by simp[VPre]
    |n+1,[],vs,h=>by simp[VPre]
    | n + 1, x :: xs, vs, h => by
      simp only[VPre]at h
      obtain⟨v,vs',rfl,h1,h2⟩:=h
      simp only[List.take_succ_cons,VPre]
      exact⟨v,vs',rfl,h1,VPre_take2 n h2⟩
end Go.AM
namespace Go.AM
variable {P:Program}
def OnlyD (D:Nat->Prop) (args:List AV):Prop:=∀(ok:Okc) (c c1:Ctx ok) (w:World) (vs:List Value),(∀b g,D b->c1.ρ b g=c.ρ b g)->(∀k,c.F k->c1.F k)->VRels c w args vs->VRels c1 w args vs
theorem OnlyD.nil {D:Nat->Prop}:OnlyD D []:=fun _ c c1 w vs _ _ h=>by grind [VRels]
theorem OnlyD.cons {D:Nat->Prop} {x:AV} {xs:List AV} (hx:OnlyD D [x]) (h:OnlyD D xs):OnlyD D (x::xs):=fun ok c c1 w vs h1 h2 hv=>by
 simp only[VRels]at hv⊢
 obtain⟨v,vs',rfl,h3,h4⟩:=hv
 have:=hx ok c c1 w [v] h1 h2 (by simp only[VRels];simp_all)
 simp only[VRels]at this
 obtain⟨v2,vs2,e,h5,_⟩:=this
 cases e
 exact⟨v,vs',rfl,h5,h _ c c1 w vs' h1 h2 h4⟩
theorem OnlyD.same {D:Nat->Prop} {x:AV} (hn:noRef x=true):OnlyD D [x]:=fun _ c c1 w vs h1 h2 hv=>by
 simp only[VRels]at hv⊢
 obtain⟨v,vs',rfl,h3,h4⟩:=hv
 exact⟨v,vs',rfl,VRel.noRef h2 _ _ hn h3,h4⟩
theorem OnlyD.map {D:Nat->Prop} {b g:Nat} (hb:D b):OnlyD D [.map b g]:=fun _ c c1 w vs h1 h2 hv=>by
 simp only[VRels]at hv⊢
 obtain⟨v,vs',rfl,h3,h4⟩:=hv
 refine⟨v,vs',rfl,?_,h4⟩
 simp_all [VRel]
def NoRefB:Blk->Prop
 | .cells _ cs=>noRefs cs=true
 | .map _ es=>∀e∈es,noRef e.1=true/\noRef e.2=true
 | .dead _=>True
 |_=>False
theorem VPre.noRef2 {ok:Okc} {c c':Ctx ok} {w:World} (hF:∀k,c.F k->c'.F k) {xs:List AV} {vs:List Value} (hn:noRefs xs=true) (h:VPre c w xs vs):VPre c' w xs vs:=VPre.noRef hF _ _ hn h
theorem MRel.noRef2 {ok:Okc} {c c':Ctx ok} {w:World} (hF:∀k,c.F k->c'.F k):∀{xs:List (AV×AV)} {es:List MapEntry} {clock:Nat},(∀e∈xs,noRef e.1=true/\noRef e.2=true)->MRel c w xs es clock->MRel c' w xs es clock
 |[],_,_,_,h=>h
 |(k,x)::r,es,clock,hn,h=>by
  obtain⟨e,es',h1,h2,h3,h4,h5,h6⟩:=h
  obtain⟨q1,q2⟩:=hn (k,x) (by simp)
  exact⟨e,es',h1,VRel.noRef hF _ _ q1 h2,VRel.noRef hF _ _ q2 h3,h4,h5,MRel.noRef2 hF (fun e he=>hn e (by simp[he])) h6⟩
theorem NoRefB.rel {ok:Okc} {c c':Ctx ok} {w:World} {b:Nat} {x:Blk} (hx:NoRefB x) (hF:∀k,c.F k->c'.F k) (hr:∀g,c'.ρ b g=c.ρ b g) (hO:∀k g base,c.ρ b g=some (.loc k base)->(∀j,x≠ .dead j)->x.gen=g->c.O k->c'.O k) (h:BRel c w b x):BRel c' w b x:=by
 cases x with
 |dead g=>trivial
 |map g es=>
  obtain⟨cb,es',clock,h1,h2,h3,h4⟩:=h
  exact⟨cb,es',clock,(hr _).trans h1,hO cb g 0 h1 (fun _=>by simp) rfl h2,h3,MRel.noRef2 hF hx h4.1,h4.2⟩
 |loop=>exact hx.elim
 |cells g cs=>
  rcases h with⟨h1,h2⟩|⟨cb,base,C,e,fr,h1,h2,h3,h4,h5,h6⟩
  ·exact .inl ⟨(hr _).trans h1,h2⟩
  ·exact .inr ⟨cb,base,C,e,fr,(hr _).trans h1,hO cb g base h1 (fun _=>by simp) rfl h2,h3,h4,h5,VPre.noRef2 hF hx h6⟩
theorem HSpec.frame {f : Nat} {args : List AV} {v : AV} {h h1 h1' h' : Heap} (D : Nat -> Prop) [DecidablePred D] (hs : HSpec P f args h1 v h1') (ha : OnlyD D args) (hv : OnlyD D [v])
    (e1:∀k,h1.get k=if D k then h.get k else none) (e2:∀k,¬D k->h1'.get k=none) (e3:∀k,h'.get k=if D k then h1'.get k else h.get k)
    (n1:∀k x,h1.get k=some x->NoRefB x) (n2:∀k x,h1'.get k=some x->NoRefB x):HSpec P f args h v h':=by
  obtain⟨hc,hs⟩:=hs
  refine⟨hc,fun c w cargs H hargs=>?_⟩
  let c1:Ctx (okc P):={ρ:=fun k y=>if D k then c.ρ k y else none,F:=c.F,O:=fun k=>∃b g base,D b/\Live h b g/\c.ρ b g=some (.loc k base),base:=c.base}
  have hr1:∀b y,D b->c1.ρ b y=c.ρ b y:=fun b y hb=>if_pos hb
  have hO1:∀k,c1.O k->c.O k:=fun k ⟨b,g,base,_,hl,hk⟩=>H.owned hl hk
  have hg1:∀{k x},h1.get k=some x->D k/\h.get k=some x:=fun{k x} hk=>by
    simp_all
  have hl1:∀{k y},Live h1 k y->D k/\Live h k y:=fun{k y} ⟨x,hk,hx,hd⟩=>⟨(hg1 hk).1,x,(hg1 hk).2,hx,hd⟩
  have H1:HRel c1 h1 w:=by
    refine⟨fun k hk y=>?_,fun k x hk y hlt=>?_,fun k x hk=>?_,fun k y k' y' cb base base' l1 l2 p1 p2=>?_,fun k hF hO=>H.disj k hF (hO1 k hO),H.inF,fun k hO=>H.inO k (hO1 k hO)⟩
    · rw [e1] at hk
      split at hk
      · rename_i hd;rw[hr1 _ _ hd];exact H.fresh k hk y
      grind
    · obtain ⟨hd, hk⟩ := hg1 hk
      rw[hr1 _ _ hd];exact H.later k _ hk y hlt
    · obtain ⟨hd, hk2⟩ := hg1 hk
      exact NoRefB.rel (c:=c) (c':=c1) (n1 k x hk) (fun _ h=>h) (fun g=>hr1 k g hd) (fun cb g base hp hne hgen _=>⟨k,g,base,hd,⟨x,hk2,hgen,hne⟩,hp⟩) (H.blk k x hk2)
    · obtain ⟨d1, l1⟩ := hl1 l1
      obtain⟨d2,l2⟩:=hl1 l2
      rw[hr1 _ _ d1]at p1
      rw[hr1 _ _ d2]at p2
      exact H.inj _ _ _ _ _ _ _ l1 l2 p1 p2
  refine(hs c1 w cargs H1 (ha _ c c1 w _ (fun b g hb=>hr1 b g hb) (fun _ h=>h) hargs)).mono ?_
  rintro e w' ⟨cv,c',rfl,E,H',V⟩
  let c2:Ctx (okc P):={ρ:=fun k y=>if D k then c'.ρ k y else c.ρ k y,F:=c'.F,O:=fun k=>c'.O k\/(c.O k/\¬c1.O k),base:=c.base}
  have hrD:∀b y,D b->c2.ρ b y=c'.ρ b y:=fun b y hb=>if_pos hb
  have hrN:∀b y,¬D b->c2.ρ b y=c.ρ b y:=fun b y hb=>if_neg hb
  have E2:Evo c w c2 w':=by
    refine⟨E.os,E.tape,E.output,E.size,E.shape,fun k hk hO=>E.keep k hk fun h=>hO (hO1 k h),fun b y p hp=>?_,fun k hk=>E.frz k hk,fun k hk=>?_,fun k hk=>?_,rfl⟩
    · by_cases hd : D b
      · rw[hrD _ _ hd];exact E.rho b y p ((hr1 _ _ hd).trans hp)
      simp_all
    · rcases E.frzNew k hk with h | h | h
      · exact .inl h
      · simp_all
      omega
    · rcases hk with hk | hk
      · rcases E.own k hk with h | h
        · simp_all
        · exact .inr h
      simp_all
  have hg3:∀{k x},h'.get k=some x->(D k/\h1'.get k=some x)\/(¬D k/\h.get k=some x):=fun{k x} hk=>by
    grind
  have hl3:∀{k y},Live h' k y->(D k/\Live h1' k y)\/(¬D k/\Live h k y):=fun{k y} ⟨x,hk,hx,hd⟩=>by
    rcases hg3 hk with⟨q1,q2⟩|⟨q1,q2⟩
    · exact .inl ⟨q1,x,q2,hx,hd⟩
    · exact .inr ⟨q1,x,q2,hx,hd⟩
  have hout:∀{k y cb base},¬D k->Live h k y->c.ρ k y=some (.loc cb base)->¬c1.O cb:=by
    rintro k y cb base hd hl hp ⟨b,g,base',hb,hlb,hpb⟩
    have:=H.inj _ _ _ _ _ _ _ hl hlb hp hpb
    simp_all
  have hcross:∀{k y k' y' cb base base'},D k->Live h1' k y->c'.ρ k y=some (.loc cb base)->¬D k'->Live h k' y'->c.ρ k' y'=some (.loc cb base')->False:=by
    intro k y k' y' cb base base' hd l1 p1 hd' l2 p2
    rcases E.own cb (H'.owned l1 p1)with h|h
    · grind
    · have:=H.inO cb (H.owned l2 p2);omega
  refine⟨cv,c2,rfl,E2,⟨fun k hk y=>?_,fun k x hk y hlt=>?_,fun k x hk=>?_,fun k y k' y' cb base base' l1 l2 p1 p2=>?_,fun k hF hO=>?_,H'.inF,fun k hO=>?_⟩,?_⟩
  · rw [e3] at hk
    split at hk
    · rename_i hd;rw[hrD _ _ hd];exact H'.fresh k hk y
    · rename_i hd;rw[hrN _ _ hd];exact H.fresh k hk y
  · rcases hg3 hk with ⟨hd, hk⟩ | ⟨hd, hk⟩
    · rw[hrD _ _ hd];exact H'.later k x hk y hlt
    · rw[hrN _ _ hd];exact H.later k x hk y hlt
  · rcases hg3 hk with ⟨hd, hk⟩ | ⟨hd, hk⟩
    · exact NoRefB.rel (c:=c') (c':=c2) (n2 k x hk) (fun _ h=>h) (fun g=>hrD k g hd) (fun cb g base hp hne hgen hO=> .inl hO) (H'.blk k x hk)
    · refine BRel.mono (E2.ext H.disj) (fun cb base hne hp => ?_) (H.blk k x hk)
      have hl:Live h k x.gen:=⟨x,hk,rfl,hne⟩
      have hO:=H.owned hl hp
      have hn:=hout hd hl hp
      exact⟨.inr ⟨hO,hn⟩,E.keep cb (H.inO cb hO) hn⟩
  · rcases hl3 l1 with ⟨d1, l1⟩ | ⟨d1, l1⟩
    · rw [hrD _ _ d1] at p1
      rcases hl3 l2 with⟨d2,l2⟩|⟨d2,l2⟩
      · rw [hrD _ _ d2] at p2
        exact H'.inj _ _ _ _ _ _ _ l1 l2 p1 p2
      grind
    · rw [hrN _ _ d1] at p1
      rcases hl3 l2 with⟨d2,l2⟩|⟨d2,l2⟩
      · grind
      · rw [hrN _ _ d2] at p2
        exact H.inj _ _ _ _ _ _ _ l1 l2 p1 p2
  · rcases hO with hO | ⟨hO, hn⟩
    · exact H'.disj k hF hO
    · rcases E.frzNew k hF with h | h | h
      · exact H.disj k h hO
      · exact hn h
      · have:=H.inO k hO;omega
  · rcases hO with hO | ⟨hO, _⟩
    · exact H'.inO k hO
    · exact Nat.lt_of_lt_of_le (H.inO k hO) E.size
  · have h5 : VRels c' w' [v] [cv] := by simp only [VRels]; simp_all
    have h6:=hv _ c' c2 w' [cv] (fun b g hb=>hrD b g hb) (fun _ h=>h) h5
    simp_all [VRels]
theorem Qdd {b:Nat} {x:Blk} (hb:b<1099511627775) (k:Nat):(hp [(b,x)]).get k=if k=b then some x else none:=by
 simp only[hp]
 by_cases e:k=b
 ·subst e;rw[QaL hb,if_pos rfl]
 simp_all [QaK,get_e]
theorem HSpec.frameM {f b g g':Nat} {args:List AV} {xs ys:List (AV×AV)} {v:AV} {h:Heap} (hs:HSpec P f args (hp [(b,.map g xs)]) v (hp [(b,.map g' ys)])) (ha:OnlyD (fun k=>k=b) args) (hv:OnlyD (fun k=>k=b) [v]) (hx:∀e∈xs,noRef e.1=true/\noRef e.2=true) (hy:∀e∈ys,noRef e.1=true/\noRef e.2=true)
  (hb:h.get b=some (.map g xs)) (hlim:Nat.blt b 1099511627775=true):HSpec P f args h v (h.set b (.map g' ys)):=by
 have hlim':b<1099511627775:=by simp_all
 refine HSpec.frame (fun k=>k=b) hs ha hv (fun k=>?_) (fun k hk=>?_) (fun k=>?_) (fun k x hk=>?_) (fun k x hk=>?_)
 ·rw [Qdd hlim']
  simp_all
 ·simp_all [Qdd]
 ·rw [Qdd hlim']
  by_cases e:k=b
  ·subst e;rw[if_pos rfl,if_pos rfl,QaL hlim']
  simp_all [QaK]
 ·rw [Qdd hlim'] at hk
  split at hk
  ·cases hk;exact hx
  ·cases hk
 ·rw [Qdd hlim'] at hk
  split at hk
  ·cases hk;exact hy
  ·cases hk
end Go.AM
namespace Go.AM.SE
open Go.Proofs Go.AM.SD
def mach:Aut:=⟨[0,1,2,3],3,[0],[(0,0,1),(1,1,0),(1,2,2),(2,3,0)]⟩
def mach3:Aut:=⟨[0,1,2,3],3,[0],[(0,0,1),(1,1,0),(1,2,2)]⟩
theorem q1:QOk mach [2] [1,2]:=⟨by decide,by decide,by decide,by decide⟩
theorem q2:QOk mach3 [] [1,2]:=⟨by decide,by decide,by decide,by decide⟩
end Go.AM.SE
namespace Go.AM.SE
open Go.Proofs Go.AM.SD
def u8s (l:List Nat):List AV:=l.map fun x:Nat=> .int .u8 (x:Int)
theorem QaD (l:List Nat):noRefs (u8s l)=true:=Qcg (fun _=>rfl) l
end Go.AM.SE
namespace Go.AM.SO
open Go.Proofs Go.AM.SD Go.AM.SE
def mrg (k:Bool->Bool->Bool):List Nat->List Nat->List Nat
 |[],[]=>[]
 |a::A,[]=>(if k true false=true then[a]else[])++mrg k A []
 |[],b::B=>(if k false true=true then[b]else[])++mrg k [] B
 |a::A,b::B=>if a<b then(if k true false=true then[a]else[])++mrg k A (b::B)
  else if b<a then(if k false true=true then[b]else[])++mrg k (a::A) B
  else(if k true true=true then[a]else[])++mrg k A B
termination_by A B=>A.length+B.length
theorem Qbh {k : Bool -> Bool -> Bool} {x : Nat} : ∀ {A B : List Nat}, A.Pairwise (· < ·) -> B.Pairwise (· < ·) -> (x ∈ mrg k A B ↔ k (decide (x ∈ A)) (decide (x ∈ B)) = true /\ (x ∈ A \/ x ∈ B))
  |[],[],_,_=>by simp[mrg]
  | a :: A, [], hA, hB => by
    have ih:=Qbh (k:=k) (x:=x) (List.pairwise_cons.1 hA).2 hB
    grind [mrg]
  | [], b :: B, hA, hB => by
    have ih:=Qbh (k:=k) (x:=x) hA (List.pairwise_cons.1 hB).2
    grind [mrg]
  | a :: A, b :: B, hA, hB => by
    have hA1:=(List.pairwise_cons.1 hA).1
    have hB1:=(List.pairwise_cons.1 hB).1
    rw[mrg]
    by_cases h1:a<b
    · have ih := Qbh (k := k) (x := x) (List.pairwise_cons.1 hA).2 hB
      grind
    · rw [if_neg h1]
      by_cases h2:b<a
      · have ih := Qbh (k := k) (x := x) hA (List.pairwise_cons.1 hB).2
        grind
      · have e1 : a = b := by omega
        subst e1
        have ih:=Qbh (k:=k) (x:=x) (List.pairwise_cons.1 hA).2 (List.pairwise_cons.1 hB).2
        grind
termination_by A B=>A.length+B.length
theorem QbD {k:Bool->Bool->Bool}:∀{A B:List Nat},A.Pairwise (· < ·)->B.Pairwise (· < ·)->(mrg k A B).Pairwise (· < ·)
 |[],[],_,_=>by simp[mrg]
 |a::A,[],hA,hB=>by
  have ih:=QbD (k:=k) (List.pairwise_cons.1 hA).2 hB
  grind [List.pairwise_cons,mrg,Qbh]
 |[],b::B,hA,hB=>by
  have ih:=QbD (k:=k) hA (List.pairwise_cons.1 hB).2
  grind [List.pairwise_cons,mrg,Qbh]
 | a :: A, b :: B, hA, hB => by
  have hA1:=(List.pairwise_cons.1 hA).1
  have hB1:=(List.pairwise_cons.1 hB).1
  rw[mrg]
  split
  ·rename_i h1
   rw[List.pairwise_append]
   refine⟨by split<;>simp,QbD (List.pairwise_cons.1 hA).2 hB,fun x hx y hy=>?_⟩
   have hx:x=a:=by simp_all
   have:=(Qbh (List.pairwise_cons.1 hA).2 hB).1 hy
   grind
  ·rename_i h1
   split
   ·rename_i h2
    rw[List.pairwise_append]
    refine⟨by split<;>simp,QbD hA (List.pairwise_cons.1 hB).2,fun x hx y hy=>?_⟩
    have hx:x=b:=by simp_all
    have:=(Qbh hA (List.pairwise_cons.1 hB).2).1 hy
    grind
   ·rename_i h2
    have e1:a=b:=by omega
    subst e1
    rw[List.pairwise_append]
    refine⟨by split<;>simp,QbD (List.pairwise_cons.1 hA).2 (List.pairwise_cons.1 hB).2,fun x hx y hy=>?_⟩
    grind [Qbh]
termination_by A B=>A.length+B.length
end Go.AM.SO
namespace Go.AM.SO
open Go.Proofs Go.AM.SD Go.AM.SE
theorem iaddr0 {a:Nat} {A:List Nat}:aIAddr none 1 (sliN (a::A)) (.int .i64 0)=some (.fptr (ints (nz (a::A)))):=by
 simp[aIAddr]
theorem head0 {a:Nat} {A:List Nat}:(ints (nz (a::A))).head?=some (.int .i64 (a:Int)):=rfl
theorem tk1 {b:Nat} {B1:List Nat}:List.take (B1.length+1-1) (List.drop 1 (ints (nz (b::B1))))=ints (nz B1):=by
 simp only[ints,nz,List.map_cons,List.drop_succ_cons,List.drop_zero]
 exact List.take_of_length_le (by simp)
theorem tk2 {b:Nat} {B1:List Nat}:List.take B1.length (List.drop 1 (ints (nz (b::B1))))=ints (nz B1):=by
 simp only[ints,nz,List.map_cons,List.drop_succ_cons,List.drop_zero]
 exact List.take_of_length_le (by simp)
theorem union169 (a b:Bool):PSpec Tryz.prog 133 [.bool a,.bool b] (.bool (a||b)):=by
  refine PSpec.Qak 64 ok133 rfl rfl rfl ?_
  cases a
  · simp (disch := first | omega | (simp only [lenW] <;> omega)) only [s133, wV, simprocAttr]
    exact⟨.inr trivial,_,rfl,by simp[resOf,Qat]⟩
  · simp (disch := first | omega | (simp only [lenW] <;> omega)) only [s133, wV, simprocAttr]
    exact⟨.inr trivial,_,rfl,by simp[resOf,Qat]⟩
theorem minus242 (a b:Bool):PSpec Tryz.prog 261 [.bool a,.bool b] (.bool (a&& !b)):=by
  refine PSpec.Qak 64 ok261 rfl rfl rfl ?_
  cases a
  · simp (disch := first | omega | (simp only [lenW] <;> omega)) only [s261, wV, simprocAttr]
    exact⟨.inr trivial,_,rfl,by simp[resOf,Qat]⟩
  · simp (disch := first | omega | (simp only [lenW] <;> omega)) only [s261, wV, simprocAttr]
    exact⟨.inr trivial,_,rfl,by simp[resOf,Qat]⟩
theorem merge168 (K : Nat) (k : Bool -> Bool -> Bool) (hk : ∀ a b, PSpec Tryz.prog K [.bool a, .bool b] (.bool (k a b))) (A B : List Nat) (hA : A.length <= 1000000) (hB : B.length <= 1000000) :
    PSpec Tryz.prog 132 [sliN A,sliN B,.fn K [] []] (sliN (mrg k A B)):=by
  refine PSpec.of_rn 64 ok132 rfl (by(try simp only[noRefs,Qab,Qai,Qah,Qal,Qaf,noRef,Bool.and_self,Bool.and_true])<;>rfl) (Qaj _) ?_
  simp(disch:=first|omega|(simp only[lenW]<;>omega)) only[s132,wV,simprocAttr]
  refine Qa3 120 (fun t:List Nat×List Nat×List Nat=>[(0,sliN t.1),(1,sliN t.2.1),(2,.fn K [] []),(7,.sl 50 0 0 t.2.2.length 1)]) (fun t=>[(50,.cells 0 (ints (nz t.2.2)))]) (fun t=>mrg k A B=t.2.2++mrg k t.1 t.2.1/\t.1.length+t.2.1.length+t.2.2.length<=2000000) (fun t=>t.1.length+t.2.1.length) (A,B,[]) ⟨[(50,.nil)],rfl,au0,au1,au2⟩ ⟨by simp,by simp;omega⟩ ?_
  rintro⟨A',B',out⟩ ⟨hm,hl⟩
  dsimp only at hm hl
  rcases A' with _|⟨a,A1⟩<;>rcases B' with _|⟨b,B1⟩
  · simp (disch := first | omega | (simp only [lenW] <;> omega)) only [List.length_nil, List.map_nil, wV, simprocAttr]
    refine⟨.inr trivial,_,rfl,?_⟩
    rw[hm,mrg,List.append_nil]
    exact Rn.fz0 rfl (by simp[ints]) (RnL.same (Qab _))
  · have h1 : (0 : Int) < (B1.length : Int) + 1 := by omega
    have h2:¬(B1.length:Int)+1=0:=by omega
    simp only[List.length_nil,List.length_cons]at hl
    simp(disch:=first|omega|(simp only[lenW]<;>omega)) only[List.length_nil,List.length_cons,h1,h2,iaddr0,tk1,tk2,head0,Nat.add_sub_cancel,wV,simprocAttr]
    refine cp (hk false true) ?_
    rw[mrg]at hm
    cases hkb:k false true
    · simp (disch := first | omega | (simp only [lenW] <;> omega)) only [wV, simprocAttr]
      rw[if_neg (by simp[hkb]),List.nil_append]at hm
      exact⟨(([]:List Nat),(B1:List Nat),out),by simp<;>omega,⟨hm,by simp;omega⟩,⟨[(50,.blk 50 0)],rfl,au0,au1,au2⟩⟩
    · simp (disch := first | omega | (simp only [lenW] <;> omega)) only [wV, simprocAttr]
      rw[if_pos hkb,<-List.append_assoc]at hm
      refine⟨(([]:List Nat),(B1:List Nat),out++[b]),by simp<;>omega,⟨hm,by simp;omega⟩,?_⟩
      rw[Qbe,QaS,List.length_append]
      exact⟨[(50,.blk 50 1)],rfl,au0,au1,au2⟩
  · have h1 : (0 : Int) < (A1.length : Int) + 1 := by omega
    have h2:¬(A1.length:Int)+1=0:=by omega
    simp only[List.length_nil,List.length_cons]at hl
    simp(disch:=first|omega|(simp only[lenW]<;>omega)) only[List.length_nil,List.length_cons,h1,h2,iaddr0,tk1,tk2,head0,Nat.add_sub_cancel,wV,simprocAttr]
    refine cp (hk true false) ?_
    rw[mrg]at hm
    cases hkb:k true false
    · simp (disch := first | omega | (simp only [lenW] <;> omega)) only [wV, simprocAttr]
      rw[if_neg (by simp[hkb]),List.nil_append]at hm
      exact⟨((A1:List Nat),([]:List Nat),out),by simp<;>omega,⟨hm,by simp;omega⟩,⟨[(50,.blk 50 0)],rfl,au0,au1,au2⟩⟩
    · simp (disch := first | omega | (simp only [lenW] <;> omega)) only [wV, simprocAttr]
      rw[if_pos hkb,<-List.append_assoc]at hm
      refine⟨((A1:List Nat),([]:List Nat),out++[a]),by simp<;>omega,⟨hm,by simp;omega⟩,?_⟩
      rw[Qbe,QaS,List.length_append]
      exact⟨[(50,.blk 50 1)],rfl,au0,au1,au2⟩
  · have h1 : (0 : Int) < (A1.length : Int) + 1 := by omega
    have h2:¬(A1.length:Int)+1=0:=by omega
    have h3:(0:Int)<(B1.length:Int)+1:=by omega
    have h4:¬(B1.length:Int)+1=0:=by omega
    by_cases hab:a<b
    · have h5 : (a : Int) <= (b : Int) := by omega
      have h6:¬(b:Int)<=(a:Int):=by omega
      simp only[List.length_nil,List.length_cons]at hl
      simp(disch:=first|omega|(simp only[lenW]<;>omega)) only[List.length_nil,List.length_cons,h1,h2,h3,h4,h5,h6,iaddr0,tk1,tk2,head0,Nat.add_sub_cancel,wV,simprocAttr]
      refine cp (hk true false) ?_
      rw[mrg,if_pos hab]at hm
      cases hkb:k true false
      · simp (disch := first | omega | (simp only [lenW] <;> omega)) only [wV, simprocAttr]
        rw[if_neg (by simp[hkb]),List.nil_append]at hm
        exact⟨((A1:List Nat),(b::B1:List Nat),out),by simp<;>omega,⟨hm,by simp;omega⟩,⟨[(50,.blk 50 0)],rfl,au0,au1,au2⟩⟩
      · simp (disch := first | omega | (simp only [lenW] <;> omega)) only [wV, simprocAttr]
        rw[if_pos hkb,<-List.append_assoc]at hm
        refine⟨((A1:List Nat),(b::B1:List Nat),out++[a]),by simp<;>omega,⟨hm,by simp;omega⟩,?_⟩
        rw[Qbe,QaS,List.length_append]
        exact⟨[(50,.blk 50 1)],rfl,au0,au1,au2⟩
    · by_cases hba : b < a
      · have h5 : ¬ (a : Int) <= (b : Int) := by omega
        have h6:(b:Int)<=(a:Int):=by omega
        simp only[List.length_nil,List.length_cons]at hl
        simp(disch:=first|omega|(simp only[lenW]<;>omega)) only[List.length_nil,List.length_cons,h1,h2,h3,h4,h5,h6,iaddr0,tk1,tk2,head0,Nat.add_sub_cancel,wV,simprocAttr]
        refine cp (hk false true) ?_
        rw[mrg,if_neg hab,if_pos hba]at hm
        cases hkb:k false true
        · simp (disch := first | omega | (simp only [lenW] <;> omega)) only [wV, simprocAttr]
          rw[if_neg (by simp[hkb]),List.nil_append]at hm
          exact⟨((a::A1:List Nat),(B1:List Nat),out),by simp<;>omega,⟨hm,by simp;omega⟩,⟨[(50,.blk 50 0)],rfl,au0,au1,au2⟩⟩
        · simp (disch := first | omega | (simp only [lenW] <;> omega)) only [wV, simprocAttr]
          rw[if_pos hkb,<-List.append_assoc]at hm
          refine⟨((a::A1:List Nat),(B1:List Nat),out++[b]),by simp<;>omega,⟨hm,by simp;omega⟩,?_⟩
          rw[Qbe,QaS,List.length_append]
          exact⟨[(50,.blk 50 1)],rfl,au0,au1,au2⟩
      · have e1 : a = b := by omega
        subst e1
        have h5:(a:Int)<=(a:Int):=by omega
        simp only[List.length_nil,List.length_cons]at hl
        simp(disch:=first|omega|(simp only[lenW]<;>omega)) only[List.length_nil,List.length_cons,h1,h2,h3,h4,h5,iaddr0,tk1,tk2,head0,Nat.add_sub_cancel,wV,simprocAttr]
        refine cp (hk true true) ?_
        rw[mrg,if_neg hab,if_neg hba]at hm
        cases hkb:k true true
        · simp (disch := first | omega | (simp only [lenW] <;> omega)) only [wV, simprocAttr]
          rw[if_neg (by simp[hkb]),List.nil_append]at hm
          exact⟨((A1:List Nat),(B1:List Nat),out),by simp<;>omega,⟨hm,by simp;omega⟩,⟨[(50,.blk 50 0)],rfl,au0,au1,au2⟩⟩
        · simp (disch := first | omega | (simp only [lenW] <;> omega)) only [wV, simprocAttr]
          rw[if_pos hkb,<-List.append_assoc]at hm
          refine⟨((A1:List Nat),(B1:List Nat),out++[a]),by simp<;>omega,⟨hm,by simp;omega⟩,?_⟩
          rw[Qbe,QaS,List.length_append]
          exact⟨[(50,.blk 50 1)],rfl,au0,au1,au2⟩
theorem union84 (A B:List Nat) (hA:A.length<=1000000) (hB:B.length<=1000000):PSpec Tryz.prog 75 [sliN A,sliN B] (sliN (mrg (fun a b=>a||b) A B)):=by
 refine PSpec.of_rn 64 ok75 rfl (by(try simp only[noRefs,Qab,Qai,Qah,Qal,Qaf,noRef,Bool.and_self,Bool.and_true])<;>rfl) (Qaj _) ?_
 simp(disch:=first|omega|(simp only[lenW]<;>omega)) only[s75,wV,simprocAttr]
 refine cp (merge168 133 _ union169 A B hA hB) ?_
 simp(disch:=first|omega|(simp only[lenW]<;>omega)) only[wV,simprocAttr]
 exact⟨.inr trivial,_,rfl,Rn.same (Qaj _)⟩
theorem minus219 (A B:List Nat) (hA:A.length<=1000000) (hB:B.length<=1000000):PSpec Tryz.prog 215 [sliN A,sliN B] (sliN (mrg (fun a b=>a&& !b) A B)):=by
 refine PSpec.of_rn 64 ok215 rfl (by(try simp only[noRefs,Qab,Qai,Qah,Qal,Qaf,noRef,Bool.and_self,Bool.and_true])<;>rfl) (Qaj _) ?_
 simp(disch:=first|omega|(simp only[lenW]<;>omega)) only[s215,wV,simprocAttr]
 refine cp (merge168 261 _ minus242 A B hA hB) ?_
 simp(disch:=first|omega|(simp only[lenW]<;>omega)) only[wV,simprocAttr]
 exact⟨.inr trivial,_,rfl,Rn.same (Qaj _)⟩
theorem subset167 (A B:List Nat) (hA:A.length<=1000000) (hB:B.length<=1000000):PSpec Tryz.prog 131 [sliN A,sliN B] (.bool (decide ((mrg (fun a b=>a&& !b) A B).length=0))):=by
  refine PSpec.Qak 64 ok131 rfl (by(try simp only[noRefs,Qab,Qai,Qah,Qal,Qaf,noRef,Bool.and_self,Bool.and_true])<;>rfl) rfl ?_
  simp(disch:=first|omega|(simp only[lenW]<;>omega)) only[s131,wV,simprocAttr]
  refine cp (minus219 A B hA hB) ?_
  by_cases h:(mrg (fun a b=>a&& !b) A B).length=0
  · have h' : (((mrg (fun a b => a && !b) A B).length : Nat) : Int) = 0 := by omega
    simp(disch:=first|omega|(simp only[lenW]<;>omega)) only[h',wV,simprocAttr]
    exact⟨.inr trivial,_,rfl,by simp[resOf,Qat,h]⟩
  · have h' : ¬ (((mrg (fun a b => a && !b) A B).length : Nat) : Int) = 0 := by omega
    simp(disch:=first|omega|(simp only[lenW]<;>omega)) only[h',wV,simprocAttr]
    exact⟨.inr trivial,_,rfl,by simp[resOf,Qat,h]⟩
end Go.AM.SO
namespace Go.AM.SE
open Go.Proofs Go.AM.SD
theorem shr1 {i j:Nat}:aBin .shr (.int .u64 ((i:Int)+(j:Int))) (.int .u64 1)=some (.int .u64 (((i+j)/2:Nat):Int)):=by
 have h:(((i:Int)+(j:Int)).fdiv (2^(min (1:Int).toNat 64)))=(((i+j)/2:Nat):Int):=by
  rw[show min (1:Int).toNat 64=1 from rfl,Int.fdiv_eq_ediv_of_nonneg _ (by decide)];omega
 show(if(1:Int)<0 then none else some (AV.int .u64 (((i:Int)+(j:Int)).fdiv (2^(min (1:Int).toNat 64)))))=_
 rw[if_neg (by decide),h]
def lbN (l:List Nat) (t:Nat):Nat:=l.countP fun x=>decide (x<t)
theorem lb_eq:∀{l:List Nat} {t i:Nat},i<=l.length->(∀j,j<i->l.getD j 0<t)->(∀j,i<=j->j<l.length->¬l.getD j 0<t)->lbN l t=i
 |[],t,i,hi,_,_=>by simp at hi;subst hi;rfl
 |x::l,t,0,_,_,h2=>by
  unfold lbN
  rw[List.countP_eq_zero]
  intro y hy
  obtain⟨q,hq,hql⟩:=Qh0 hy
  have:=h2 q (Nat.zero_le _) hql
  rw[List.getD_eq_getElem?_getD,hq]at this
  simpa using this
 |x::l,t,i+1,hi,h1,h2=>by
  have hx:x<t:=by have:=h1 0 (by omega);simpa using this
  have:=lb_eq (l:=l) (t:=t) (i:=i) (by simpa using hi) (fun j hj=>by have:=h1 (j+1) (by omega);simpa using this) (fun j hj hl=>by have:=h2 (j+1) (by omega) (by simpa using hl);simpa using this)
  unfold lbN at this⊢
  rw[List.countP_cons,this,if_pos (by simpa using hx)]
theorem lb_le {l:List Nat} {t:Nat}:lbN l t<=l.length:=List.countP_le_length
theorem Qcb {l:List Nat} (h:l.Pairwise (· <= ·)) {p q:Nat} (hpq:p<=q) (hq:q<l.length):l.getD p 0<=l.getD q 0:=by
 rw[List.getD_eq_getElem?_getD,List.getD_eq_getElem?_getD,List.getElem?_eq_getElem (by omega),List.getElem?_eq_getElem hq]
 rcases Nat.lt_or_eq_of_le hpq with h1|h1
 ·exact List.pairwise_iff_getElem.1 h p q (by omega) hq h1
 ·subst h1;exact Nat.le_refl _
theorem Qh5 {l:List Nat} (h:l.Pairwise (· <= ·)) {t i:Nat} (h1:∀j,j<i->l.getD j 0<t) (h2:∀j,i<=j->j<l.length->¬l.getD j 0<t):l.contains t=decide (i<l.length/\l.getD i 0=t):=by
 rw[Bool.eq_iff_iff,decide_eq_true_iff,List.contains_iff_mem]
 constructor
 ·intro hm
  obtain⟨q,hq,hql⟩:=Qh0 hm
  have hqd:l.getD q 0=t:=by rw[List.getD_eq_getElem?_getD,hq];rfl
  have hiq:i<=q:=by
   refine Nat.le_of_not_lt fun h3=>?_
   have:=h1 q h3;omega
  have h4:=Qcb h hiq hql
  have h5:=h2 i (Nat.le_refl _) (by omega)
  exact⟨by omega,by omega⟩
 ·rintro ⟨hi, e⟩
  rw[<-e,List.getD_eq_getElem?_getD,List.getElem?_eq_getElem hi]
  exact List.getElem_mem hi
theorem nan81 (x:Int):PSpec Tryz.prog 238 [.int .i64 x] (.bool false):=by
 refine PSpec.Qak 64 ok238 rfl (by(try simp only[noRefs,QaD,Qao,Qar,Qab,Qai,Qah,Qal,Qaz,Qaf,noRef,Bool.and_self,Bool.and_true])<;>rfl) rfl ?_
 simp(disch:=first|omega|(simp only[lenW]<;>omega)) only[s238,wW,wV,simprocAttr]
 exact⟨.inr trivial,_,rfl,rfl⟩
theorem nan66 (x:Int):PSpec Tryz.prog 262 [.int .i64 x] (.bool false):=by
 refine PSpec.Qak 64 ok262 rfl (by(try simp only[noRefs,QaD,Qao,Qar,Qab,Qai,Qah,Qal,Qaz,Qaf,noRef,Bool.and_self,Bool.and_true])<;>rfl) rfl ?_
 simp(disch:=first|omega|(simp only[lenW]<;>omega)) only[s262,wW,wV,simprocAttr]
 exact⟨.inr trivial,_,rfl,rfl⟩
theorem less65 (x y:Int):PSpec Tryz.prog 171 [.int .i64 x,.int .i64 y] (.bool (decide (x<y))):=by
 refine PSpec.Qak 64 ok171 rfl (by(try simp only[noRefs,QaD,Qao,Qar,Qab,Qai,Qah,Qal,Qaz,Qaf,noRef,Bool.and_self,Bool.and_true])<;>rfl) rfl ?_
 simp(disch:=first|omega|(simp only[lenW]<;>omega)) only[s171,wW,wV,simprocAttr]
 refine cp (nan81 x) ?_
 simp(disch:=first|omega|(simp only[lenW]<;>omega)) only[wW,wV,simprocAttr]
 exact⟨.inr trivial,_,rfl,rfl⟩
theorem _root_.Go.AM.au7 {p:Prop} (h:p:=by repeat' (first|exact RB.nil|(refine RnL.same ?_;first|rfl|(simp only[noRef,noRefs,Qam,Bool.and_self,Bool.and_true,Bool.true_and,Qab,QaD,Qai,Qah,Qal,Qaz,QbT,Qaf,Qap,Qaj,QaY,QaI,Qao,Qar,Qc3];done))|exact RnM.keyM rfl|exact RnL.nil|exact(True.intro:RnM _ _ _ [] [])|refine RnL.cons ?_ ?_|(refine Rn.same ?_;first|rfl|(simp only[noRef,noRefs,Qam,Bool.and_self,Bool.and_true,Bool.true_and,Qab,QaD,Qai,Qah,Qal,Qaz,QbT,Qaf,Qap,Qaj,QaY,QaI,Qao,Qar,Qc3];done))|exact Rn.x1 rfl rfl|exact Rn.x2 rfl rfl|exact Rn.x3 rfl rfl|exact Rn.x4 rfl rfl|exact Rn.x5 rfl|exact Rn.x6 rfl|exact Rn.x7 rfl|refine RB.newnil rfl rfl ?_|refine RB.cells rfl rfl rfl ?_ ?_|refine RB.map rfl rfl rfl ?_ ?_|refine RB.cellsB rfl rfl ?_ ?_|refine RB.mapB rfl rfl ?_ ?_)):p:=h
theorem _root_.Go.AM.au8 {p:Prop} (h:p:=by repeat (first|exact RT.nil|(refine RT.cons ?_ ?_; · (first|exact Rn.any|exact Rn.x1 rfl rfl|exact Rn.x2 rfl rfl|exact Rn.x3 rfl rfl|exact Rn.x4 rfl rfl|exact Rn.x5 rfl|exact Rn.x6 rfl|exact Rn.x7 rfl|(refine Rn.slot ?_ ?_;(first|rfl|(rw[Int.natCast_add];rfl));(first|rfl|(simp only[noRef,noRefs,Qam,Bool.and_self,Bool.and_true,Bool.true_and,Qab,QaD,Qai,Qah,Qal,Qaz,QbT,Qaf,Qap,Qaj,QaY,QaI,Qao,Qar,Qc3];done)))|(refine Rn.fn ?_ ?_<;>(repeat' (first|exact RnL.nil|refine RnL.cons ?_ ?_|exact Rn.same rfl|exact Rn.x6 rfl|exact Rn.x2 rfl rfl|exact Rn.x5 rfl|exact Rn.x1 rfl rfl))))))):p:=h
theorem find57 (l : List Nat) (t : Nat) (hs : l.Pairwise (· <= ·)) (hl : l.length <= 1000000) : PSpec Tryz.prog 218 [sliN l, .int .i64 (t : Int)] (.tup [.int .i64 (lbN l t : Int), .bool (l.contains t)]) := by
  refine PSpec.Qak 64 ok218 rfl (by(try simp only[noRefs,QaD,Qao,Qar,Qab,Qai,Qah,Qal,Qaz,Qaf,noRef,Bool.and_self,Bool.and_true])<;>rfl) rfl ?_
  simp(disch:=first|omega|(simp only[lenW]<;>omega)) only[s218,wW,wV,simprocAttr]
  refine QaF 100 (fun p:Nat×Nat=>[(0,sliN l),(1,.int .i64 (t:Int)),(6,.int .i64 l.length),(7,.int .i64 p.1),(8,.int .i64 p.2)]) (fun _=>[])
    (fun p=>p.1<=p.2/\p.2<=l.length/\(∀q,q<p.1->l.getD q 0<t)/\∀q,p.2<=q->q<l.length->¬l.getD q 0<t) (fun p=>p.2-p.1) (0,l.length) 0 140
    (fun i:Nat=>[(0,sliN l),(1,.int .i64 (t:Int)),(6,.int .i64 l.length),(7,.int .i64 i)]) (fun _=>[])
    (fun i=>i<=l.length/\(∀q,q<i->l.getD q 0<t)/\∀q,i<=q->q<l.length->¬l.getD q 0<t) ?_ ⟨Nat.zero_le _,Nat.le_refl _,fun q hq=>absurd hq (Nat.not_lt_zero _),fun q h1 h2=>by omega⟩ ?_ ?_
  · exact⟨[],rfl,au0,au7,au8⟩
  · rintro ⟨i, j⟩ ⟨hij, hj, h1, h2⟩
    dsimp only at hij hj h1 h2⊢
    by_cases hlt:i<j
    · obtain ⟨k, hk, hk1, hk2⟩ : ∃ k : Nat, aBin .shr (.int .u64 ((i : Int) + (j : Int))) (.int .u64 1) = some (.int .u64 (k : Int)) /\ i <= k /\ k < j := ⟨(i + j) / 2, shr1, by omega, by omega⟩
      have hkl:k<l.length:=by omega
      have hkx:l[k]?=some (l.getD k 0):=by rw[List.getElem?_eq_getElem hkl];simp[hkl]
      simp(disch:=first|omega|(simp only[lenW]<;>omega)) only[hlt,hk,hkl,Qec hkx,wW,wV,simprocAttr]
      refine cp (less65 _ _) ?_
      by_cases hc:l.getD k 0<t
      · rw [decide_eq_true (by omega)]
        simp(disch:=first|omega|(simp only[lenW]<;>omega)) only[wW,wV,simprocAttr]
        refine⟨(k+1,j),by dsimp only;omega,⟨by dsimp only;omega,hj,fun q hq=>?_,h2⟩,⟨[],rfl,au0,au7,au8⟩⟩
        have:=Qcb hs (p:=q) (q:=k) (by dsimp only at hq;omega) hkl
        omega
      · rw [decide_eq_false (by omega)]
        simp(disch:=first|omega|(simp only[lenW]<;>omega)) only[wW,wV,simprocAttr]
        refine⟨(i,k),by dsimp only;omega,⟨hk1,by dsimp only;omega,h1,fun q hq hql=>?_⟩,⟨[],rfl,au0,au7,au8⟩⟩
        have:=Qcb hs (p:=k) (q:=q) hq hql
        omega
    · have e : i = j := by omega
      subst e
      simp(disch:=first|omega|(simp only[lenW]<;>omega)) only[hlt,wW,wV,simprocAttr]
      exact⟨i,⟨hj,h1,h2⟩,⟨[],rfl,au0,au7,au8⟩⟩
  rintro i ⟨hi,h1,h2⟩
  rw[lb_eq hi h1 h2,Qh5 hs h1 h2]
  by_cases hlt:i<l.length
  · have hx : l[i]? = some (l.getD i 0) := by rw [List.getElem?_eq_getElem hlt]; simp [hlt]
    by_cases he:l.getD i 0=t
    · rw [decide_eq_true ⟨hlt, he⟩]
      rw[he]at hx
      simp(disch:=first|omega|(simp only[lenW]<;>omega)) only[hlt,Qec hx,wW,wV,simprocAttr]
      exact⟨.inr trivial,_,rfl,rfl⟩
    · rw [decide_eq_false fun h => he h.2]
      generalize l.getD i 0=y at*
      have he':¬(y:Int)=(t:Int):=by omega
      simp(disch:=first|omega|(simp only[lenW]<;>omega)) only[hlt,Qec hx,he',wW,wV,simprocAttr]
      refine cp (nan66 _) ?_
      simp(disch:=first|omega|(simp only[lenW]<;>omega)) only[wW,wV,simprocAttr]
      exact⟨.inr trivial,_,rfl,rfl⟩
  · rw [decide_eq_false fun h => hlt h.1]
    simp(disch:=first|omega|(simp only[lenW]<;>omega)) only[hlt,wW,wV,simprocAttr]
    exact⟨.inr trivial,_,rfl,rfl⟩
end Go.AM.SE
namespace Go.AM.SE
open Go.Proofs Go.AM.SD
abbrev edV (e:Ed):AV:= .agg [.int .i64 (e.1:Int),.int .i64 (e.2.1:Int),.int .i64 (e.2.2:Int)]
theorem QkK (x y:Ed):aEq (.flat true [.i,.i,.i]) true (edV x) (edV y)=some (.bool (!decide (x=y))):=by
 have:∀n m:Nat,decide ((n:Int)=(m:Int))=decide (n=m):=fun n m=>decide_eq_decide.2 (by omega)
 obtain⟨a,b,c⟩:=x
 obtain⟨a',b',c'⟩:=y
 simp only[aEq,eqCells,eqCell,if_true]
 simp only[Prod.mk.injEq,Bool.decide_and,this]
 cases decide (a=a')<;>cases decide (b=b')<;>cases decide (c=c')<;>rfl
theorem eq41 (a b : List Int) (hl : b.length <= 1000000) : PSpec Tryz.prog 36 [sli a, sli b] (.bool (decide (a = b))) := by
  refine PSpec.Qak 64 ok36 rfl (by(try simp only[noRefs,QaD,Qao,Qar,Qab,Qai,Qah,Qal,Qaz,Qaf,noRef,Bool.and_self,Bool.and_true])<;>rfl) rfl ?_
  by_cases hab:a.length=b.length
  · simp (disch := first | omega | (simp only [lenW] <;> omega)) only [s36, hab, wW, wV, simprocAttr]
    refine Qa3 100 (fun i:Nat=>[(0,sli a),(1,sli b),(12,.int .i64 b.length),(13,.int .i64 i)]) (fun _=>[]) (fun i=>i<=b.length/\∀j,j<i->a[j]?=b[j]?) (fun i=>b.length-i) 0 ⟨[],rfl,au0,au7,au8⟩ ⟨Nat.zero_le _,fun j hj=>absurd hj (Nat.not_lt_zero _)⟩ ?_
    rintro i ⟨hi,hb⟩
    by_cases hlt:i<b.length
    · obtain ⟨x, hx⟩ := Qas (l := a) (i := i) (by omega)
      obtain⟨y,hy⟩:=Qas (l:=b) (i:=i) (by omega)
      have hlt2:i<a.length:=by omega
      by_cases h0:x=y
      · have hq : True := by trivial
        simp(disch:=first|omega|(simp only[lenW]<;>omega)) only[hlt,hlt2,Qaw hx,Qaw hy,h0,hq,wW,wV,simprocAttr]
        refine⟨i+1,by omega,⟨by omega,fun j hj=>?_⟩,⟨[],rfl,au0,au7,au8⟩⟩
        by_cases e:j=i
        · subst e;rw[hx,hy,h0]
        · exact hb j (by omega)
      · have hq : True := by trivial
        simp(disch:=first|omega|(simp only[lenW]<;>omega)) only[hlt,hlt2,Qaw hx,Qaw hy,h0,hq,wW,wV,simprocAttr]
        refine⟨.inr trivial,_,rfl,?_⟩
        have:a≠b:=fun e=>by subst e;rw[hx]at hy;cases hy;exact h0 rfl
        simp[resOf,Qat,this]
    · have : a = b := List.ext_getElem? fun j => by
        by_cases hj:j<i
        · exact hb j hj
        · rw[List.getElem?_eq_none (by omega),List.getElem?_eq_none (by omega)]
      simp(disch:=first|omega|(simp only[lenW]<;>omega)) only[hlt,wW,wV,simprocAttr]
      exact⟨.inr trivial,_,rfl,by simp[resOf,Qat,this]⟩
  · simp (disch := first | omega | (simp only [lenW] <;> omega)) only [s36, hab, wW, wV, simprocAttr]
    have:a≠b:=fun e=>hab (by rw[e])
    exact⟨.inr trivial,_,rfl,by simp[resOf,Qat,this]⟩
theorem eq55 (a b : List Ed) (hl : b.length <= 10000000) : PSpec Tryz.prog 48 [egsN a, egsN b] (.bool (decide (a = b))) := by
  refine PSpec.Qak 64 ok48 rfl (by(try simp only[noRefs,QaD,Qao,Qar,Qab,Qai,Qah,Qal,Qaz,Qaf,noRef,Bool.and_self,Bool.and_true])<;>rfl) rfl ?_
  by_cases hab:a.length=b.length
  · simp (disch := first | omega | (simp only [lenW] <;> omega)) only [s48, hab, wW, wV, simprocAttr]
    refine Qa3 100 (fun i:Nat=>[(0,egsN a),(1,egsN b),(12,.int .i64 b.length),(13,.int .i64 i)]) (fun _=>[]) (fun i=>i<=b.length/\∀j,j<i->a[j]?=b[j]?) (fun i=>b.length-i) 0 ⟨[],rfl,au0,au7,au8⟩ ⟨Nat.zero_le _,fun j hj=>absurd hj (Nat.not_lt_zero _)⟩ ?_
    rintro i ⟨hi,hb⟩
    by_cases hlt:i<b.length
    · obtain ⟨x, hx⟩ := Qas (l := a) (i := i) (by omega)
      obtain⟨y,hy⟩:=Qas (l:=b) (i:=i) (by omega)
      have hlt2:i<a.length:=by omega
      by_cases h0:x=y
      · have hq : aEq (.flat true [.i, .i, .i]) true (edV y) (edV y) = some (.bool false) := by rw [QkK]; simp
        simp(disch:=first|omega|(simp only[lenW]<;>omega)) only[hlt,hlt2,QaU hx,QaU hy,h0,hq,wW,wV,simprocAttr]
        refine⟨i+1,by omega,⟨by omega,fun j hj=>?_⟩,⟨[],rfl,au0,au7,au8⟩⟩
        by_cases e:j=i
        · subst e;rw[hx,hy,h0]
        · exact hb j (by omega)
      · have hq : aEq (.flat true [.i, .i, .i]) true (edV x) (edV y) = some (.bool true) := by rw [QkK]; simp [h0]
        simp(disch:=first|omega|(simp only[lenW]<;>omega)) only[hlt,hlt2,QaU hx,QaU hy,h0,hq,wW,wV,simprocAttr]
        refine⟨.inr trivial,_,rfl,?_⟩
        have:a≠b:=fun e=>by subst e;rw[hx]at hy;cases hy;exact h0 rfl
        simp[resOf,Qat,this]
    · have : a = b := List.ext_getElem? fun j => by
        by_cases hj:j<i
        · exact hb j hj
        · rw[List.getElem?_eq_none (by omega),List.getElem?_eq_none (by omega)]
      simp(disch:=first|omega|(simp only[lenW]<;>omega)) only[hlt,wW,wV,simprocAttr]
      exact⟨.inr trivial,_,rfl,by simp[resOf,Qat,this]⟩
  · simp (disch := first | omega | (simp only [lenW] <;> omega)) only [s48, hab, wW, wV, simprocAttr]
    have:a≠b:=fun e=>hab (by rw[e])
    exact⟨.inr trivial,_,rfl,by simp[resOf,Qat,this]⟩
theorem Ql6 {a b : List Nat} : decide (nz a = nz b) = decide (a = b) := by
  refine decide_eq_decide.2 ⟨fun h=>?_,fun h=>by rw[h]⟩
  have:∀a b:List Nat,nz a=nz b->a=b:=by
    intro a
    induction a with
    | nil => intro b h; cases b with
      |nil=>rfl
      |cons=>simp at h
    | cons x a ih => intro b h; cases b with
      |nil=>simp at h
      | cons y b =>
        simp only[nz,List.map_cons,List.cons.injEq]at h
        rw[ih b h.2,show x=y by omega]
  exact this a b h
theorem eq41N (a b:List Nat) (hl:b.length<=1000000):PSpec Tryz.prog 36 [sliN a,sliN b] (.bool (decide (a=b))):=by
 have:=eq41 (nz a) (nz b) (by simpa using hl)
 rw[Qdc,Qdc,Ql6]at this;exact this
def autB (x y:Aut):Bool:=decide (x.n=y.n)&&(decide (x.al=y.al)&&(decide (x.ms=y.ms)&&decide (x.es=y.es)))
structure AOk (r:Aut):Prop where
 al:r.al.length<=1000000
 ms:r.ms.length<=1000000
 es:r.es.length<=10000000
theorem eq43 (x y:Aut) (hx:AOk x) (hy:AOk y):PSpec Tryz.prog 112 [aV x,aV y] (.bool (autB x y)):=by
 refine PSpec.Qak 64 ok112 rfl (by(try simp only[noRefs,QaD,Qao,Qar,Qab,Qai,Qah,Qal,Qaz,Qaf,noRef,Bool.and_self,Bool.and_true])<;>rfl) rfl ?_
 have c1:=eq41N x.al y.al hy.al
 have c2:=eq41N x.ms y.ms hy.ms
 have c3:=eq55 x.es y.es hy.es
 unfold autB
 by_cases h1:x.n=y.n
 ·rw [decide_eq_true h1, Bool.true_and]
  generalize decide (x.al=y.al)=b1 at*
  generalize decide (x.ms=y.ms)=b2 at*
  generalize decide (x.es=y.es)=b3 at*
  simp(disch:=first|omega|(simp only[lenW]<;>omega)) only[s112,h1,wW,wV,simprocAttr]
  refine cp c1 ?_
  cases b1 with
  |false=>
   simp(disch:=first|omega|(simp only[lenW]<;>omega)) only[wW,wV,simprocAttr]
   exact⟨.inr trivial,_,rfl,rfl⟩
  | true =>
   simp(disch:=first|omega|(simp only[lenW]<;>omega)) only[wW,wV,simprocAttr]
   refine cp c2 ?_
   cases b2 with
   |false=>
    simp(disch:=first|omega|(simp only[lenW]<;>omega)) only[wW,wV,simprocAttr]
    exact⟨.inr trivial,_,rfl,rfl⟩
   |true=>
    simp(disch:=first|omega|(simp only[lenW]<;>omega)) only[wW,wV,simprocAttr]
    refine cp c3 ?_
    simp(disch:=first|omega|(simp only[lenW]<;>omega)) only[wW,wV,simprocAttr]
    exact⟨.inr trivial,_,rfl,rfl⟩
 ·rw [decide_eq_false h1, Bool.false_and]
  simp(disch:=first|omega|(simp only[lenW]<;>omega)) only[s112,h1,wW,wV,simprocAttr]
  exact⟨.inr trivial,_,rfl,rfl⟩
end Go.AM.SE
namespace Go.AM.SE
open Go.Proofs Go.AM.SD
abbrev froms (es:List Ed):List Nat:=es.map (·.1)
theorem QgL:∀(l:List Ed) (i:Nat),(l.flatMap edC).drop (i*3)=(l.drop i).flatMap edC
 |l,0=>by simp
 |[],i+1=>by simp
 |e::l,i+1=>by
  rw[List.flatMap_cons,Nat.succ_mul,List.drop_succ_cons]
  show List.drop (i*3+3) (_::_::_::l.flatMap edC)=_
  rw[List.drop_succ_cons,List.drop_succ_cons,List.drop_succ_cons]
  exact QgL l i
theorem QgM:∀(l:List Ed) (i:Nat),(l.flatMap edC).take (i*3)=(l.take i).flatMap edC
 |l,0=>by simp
 |[],i+1=>by simp
 |e::l,i+1=>by
  rw[List.flatMap_cons,Nat.succ_mul,List.take_succ_cons,List.flatMap_cons]
  show List.take (i*3+3) (_::_::_::l.flatMap edC)=_
  rw[List.take_succ_cons,List.take_succ_cons,List.take_succ_cons,QgM l i];rfl
theorem Qji {x t:Nat} {l:List Nat}:lbN (x::l) t=lbN l t+if x<t then 1 else 0:=by
 unfold lbN;rw[List.countP_cons];simp
theorem QfZ {l:List Nat} {t:Nat} (h:∀x∈l,t<=x):lbN l t=0:=by
 unfold lbN
 rw[List.countP_eq_zero]
 intro x hx;have:=h x hx;simp;omega
theorem QkL:∀{es:List Ed},es.Pairwise (fun a b=>a.1<=b.1)->∀v:Nat,(es.drop (lbN (froms es) v)).take (lbN (froms es) (v+1)-lbN (froms es) v)=sOut es (fun _=>true) v
 |[],_,_=>by simp[sOut]
 | e :: es, h, v => by
  rw[List.pairwise_cons]at h
  have ih:=QkL h.2 v
  have ef:froms (e::es)=e.1::froms es:=rfl
  have so:sOut (e::es) (fun _=>true) v=if e.1=v then e::sOut es (fun _=>true) v else sOut es (fun _=>true) v:=by
   unfold sOut;rw[List.filter_cons];simp
  rw[ef,Qji,Qji,so]
  rcases Nat.lt_trichotomy e.1 v with h1|h1|h1
  ·rw[if_pos h1,if_pos (by omega),if_neg (by omega),List.drop_succ_cons,Nat.add_sub_add_right,ih]
  ·have hz : lbN (froms es) v = 0 := QfZ fun x hx => by
    obtain⟨y,hy,rfl⟩:=List.mem_map.1 hx
    have:=h.1 y hy;omega
   rw[hz]at ih⊢
   have i1:¬e.1<v:=by omega
   have i2:e.1<v+1:=by omega
   simp only[if_neg i1,if_pos i2,if_pos h1,Nat.add_zero,List.drop_zero,Nat.sub_zero,List.take_succ_cons]
   rw[List.drop_zero,Nat.sub_zero]at ih
   rw[ih]
  ·have hz : lbN (froms es) v = 0 := QfZ fun x hx => by
    obtain⟨y,hy,rfl⟩:=List.mem_map.1 hx
    have:=h.1 y hy;omega
   have hz2:lbN (froms es) (v+1)=0:=QfZ fun x hx=>by
    obtain⟨y,hy,rfl⟩:=List.mem_map.1 hx
    have:=h.1 y hy;omega
   rw[hz,hz2]at ih⊢
   rw[if_neg (by omega),if_neg (by omega),if_neg (by omega)]
   simpa using ih
theorem sub229 (e:Ed) (t:Nat) (he:e.1<=1000000) (ht:t<=1000000):PSpec Tryz.prog 256 [edV e,.int .i64 (t:Int)] (.int .i64 ((e.1:Int)-(t:Int))):=by
 refine PSpec.Qak 64 ok256 rfl (by(try simp only[noRefs,QaD,Qao,Qar,Qab,Qai,Qah,Qal,Qaz,Qaf,noRef,Bool.and_self,Bool.and_true])<;>rfl) rfl ?_
 simp(disch:=first|omega|(simp only[lenW]<;>omega)) only[s256,wW,wV,simprocAttr]
 exact⟨.inr trivial,_,rfl,rfl⟩
theorem sub230 (e:Ed) (t:Nat) (he:e.1<=1000000) (ht:t<=1000000):PSpec Tryz.prog 257 [edV e,.int .i64 (t:Int)] (.int .i64 ((e.1:Int)-(t:Int))):=by
 refine PSpec.Qak 64 ok257 rfl (by(try simp only[noRefs,QaD,Qao,Qar,Qab,Qai,Qah,Qal,Qaz,Qaf,noRef,Bool.and_self,Bool.and_true])<;>rfl) rfl ?_
 simp(disch:=first|omega|(simp only[lenW]<;>omega)) only[s257,wW,wV,simprocAttr]
 exact⟨.inr trivial,_,rfl,rfl⟩
theorem find67 (es : List Ed) (t : Nat) (hs : (froms es).Pairwise (· <= ·)) (hb : ∀ e ∈ es, e.1 <= 1000000) (ht : t <= 1000000) (hl : es.length <= 1000000) : PSpec Tryz.prog 255 [egsN es, .int .i64 (t : Int), .fn 256 [] []] (.tup [.int .i64 (lbN (froms es) t : Int), .bool ((froms es).contains t)]) := by
  refine PSpec.Qak 64 ok255 rfl (by(try simp only[noRefs,QaD,Qao,Qar,Qab,Qai,Qah,Qal,Qaz,Qaf,noRef,Bool.and_self,Bool.and_true])<;>rfl) rfl ?_
  have hfl:(froms es).length=es.length:=by simp
  simp(disch:=first|omega|(simp only[lenW]<;>omega)) only[s255,wW,wV,simprocAttr]
  refine QaF 100 (fun p:Nat×Nat=>[(0,egsN es),(1,.int .i64 (t:Int)),(2,.fn 256 [] []),(8,.int .i64 es.length),(9,.int .i64 p.1),(10,.int .i64 p.2)]) (fun _=>[])
    (fun p=>p.1<=p.2/\p.2<=es.length/\(∀q,q<p.1->(froms es).getD q 0<t)/\∀q,p.2<=q->q<es.length->¬(froms es).getD q 0<t) (fun p=>p.2-p.1) (0,es.length) 0 140
    (fun i:Nat=>[(0,egsN es),(1,.int .i64 (t:Int)),(2,.fn 256 [] []),(8,.int .i64 es.length),(9,.int .i64 i)]) (fun _=>[])
    (fun i=>i<=es.length/\(∀q,q<i->(froms es).getD q 0<t)/\∀q,i<=q->q<es.length->¬(froms es).getD q 0<t) ?_ ⟨Nat.zero_le _,Nat.le_refl _,fun q hq=>absurd hq (Nat.not_lt_zero _),fun q h1 h2=>by omega⟩ ?_ ?_
  · exact⟨[],rfl,au0,au7,au8⟩
  · rintro ⟨i, j⟩ ⟨hij, hj, h1, h2⟩
    dsimp only at hij hj h1 h2⊢
    by_cases hlt:i<j
    · obtain ⟨k, hk, hk1, hk2⟩ : ∃ k : Nat, aBin .shr (.int .u64 ((i : Int) + (j : Int))) (.int .u64 1) = some (.int .u64 (k : Int)) /\ i <= k /\ k < j := ⟨(i + j) / 2, shr1, by omega, by omega⟩
      have hkl:k<es.length:=by omega
      obtain⟨e,he⟩:=Qas hkl
      have hke:(froms es).getD k 0=e.1:=by rw[List.getD_eq_getElem?_getD,List.getElem?_map,he];rfl
      have heb:=hb e (List.mem_of_getElem? he)
      simp(disch:=first|omega|(simp only[lenW]<;>omega)) only[hlt,hk,hkl,QaU he,wW,wV,simprocAttr]
      refine cp (sub229 e t heb ht) ?_
      by_cases hc:e.1<t
      · have hc' : (e.1 : Int) - (t : Int) < 0 := by omega
        simp(disch:=first|omega|(simp only[lenW]<;>omega)) only[hc',wW,wV,simprocAttr]
        refine⟨(k+1,j),by dsimp only;omega,⟨by dsimp only;omega,hj,fun q hq=>?_,h2⟩,⟨[],rfl,au0,au7,au8⟩⟩
        have:=Qcb hs (p:=q) (q:=k) (by dsimp only at hq;omega) (by omega)
        omega
      · have hc' : ¬ (e.1 : Int) - (t : Int) < 0 := by omega
        simp(disch:=first|omega|(simp only[lenW]<;>omega)) only[hc',wW,wV,simprocAttr]
        refine⟨(i,k),by dsimp only;omega,⟨hk1,by dsimp only;omega,h1,fun q hq hql=>?_⟩,⟨[],rfl,au0,au7,au8⟩⟩
        have:=Qcb hs (p:=k) (q:=q) hq (by omega)
        omega
    · have e : i = j := by omega
      subst e
      simp(disch:=first|omega|(simp only[lenW]<;>omega)) only[hlt,wW,wV,simprocAttr]
      exact⟨i,⟨hj,h1,h2⟩,⟨[],rfl,au0,au7,au8⟩⟩
  rintro i ⟨hi,h1,h2⟩
  rw[lb_eq (by omega) h1 fun q a b=>h2 q a (by omega),Qh5 hs h1 fun q a b=>h2 q a (by omega)]
  by_cases hlt:i<es.length
  · obtain ⟨e, he⟩ := Qas hlt
    have hke:(froms es).getD i 0=e.1:=by rw[List.getD_eq_getElem?_getD,List.getElem?_map,he];rfl
    have heb:=hb e (List.mem_of_getElem? he)
    rw[hke]
    by_cases hc:e.1=t
    · rw [decide_eq_true ⟨by omega, hc⟩]
      have hc':(e.1:Int)-(t:Int)=0:=by omega
      simp(disch:=first|omega|(simp only[lenW]<;>omega)) only[hlt,QaU he,wW,wV,simprocAttr]
      refine cp (sub229 e t heb ht) ?_
      simp(disch:=first|omega|(simp only[lenW]<;>omega)) only[hc',wW,wV,simprocAttr]
      exact⟨.inr trivial,_,rfl,rfl⟩
    · rw [decide_eq_false fun h => hc h.2]
      have hc':¬(e.1:Int)-(t:Int)=0:=by omega
      simp(disch:=first|omega|(simp only[lenW]<;>omega)) only[hlt,QaU he,wW,wV,simprocAttr]
      refine cp (sub229 e t heb ht) ?_
      simp(disch:=first|omega|(simp only[lenW]<;>omega)) only[hc',wW,wV,simprocAttr]
      exact⟨.inr trivial,_,rfl,rfl⟩
  · rw [decide_eq_false fun h => hlt (by omega)]
    simp(disch:=first|omega|(simp only[lenW]<;>omega)) only[hlt,wW,wV,simprocAttr]
    exact⟨.inr trivial,_,rfl,rfl⟩
theorem find67b (es : List Ed) (t : Nat) (hs : (froms es).Pairwise (· <= ·)) (hb : ∀ e ∈ es, e.1 <= 1000000) (ht : t <= 1000000) (hl : es.length <= 1000000) : PSpec Tryz.prog 255 [egsN es, .int .i64 (t : Int), .fn 257 [] []] (.tup [.int .i64 (lbN (froms es) t : Int), .bool ((froms es).contains t)]) := by
  refine PSpec.Qak 64 ok255 rfl (by(try simp only[noRefs,QaD,Qao,Qar,Qab,Qai,Qah,Qal,Qaz,Qaf,noRef,Bool.and_self,Bool.and_true])<;>rfl) rfl ?_
  have hfl:(froms es).length=es.length:=by simp
  simp(disch:=first|omega|(simp only[lenW]<;>omega)) only[s255,wW,wV,simprocAttr]
  refine QaF 100 (fun p:Nat×Nat=>[(0,egsN es),(1,.int .i64 (t:Int)),(2,.fn 257 [] []),(8,.int .i64 es.length),(9,.int .i64 p.1),(10,.int .i64 p.2)]) (fun _=>[])
    (fun p=>p.1<=p.2/\p.2<=es.length/\(∀q,q<p.1->(froms es).getD q 0<t)/\∀q,p.2<=q->q<es.length->¬(froms es).getD q 0<t) (fun p=>p.2-p.1) (0,es.length) 0 140
    (fun i:Nat=>[(0,egsN es),(1,.int .i64 (t:Int)),(2,.fn 257 [] []),(8,.int .i64 es.length),(9,.int .i64 i)]) (fun _=>[])
    (fun i=>i<=es.length/\(∀q,q<i->(froms es).getD q 0<t)/\∀q,i<=q->q<es.length->¬(froms es).getD q 0<t) ?_ ⟨Nat.zero_le _,Nat.le_refl _,fun q hq=>absurd hq (Nat.not_lt_zero _),fun q h1 h2=>by omega⟩ ?_ ?_
  · exact⟨[],rfl,au0,au7,au8⟩
  · rintro ⟨i, j⟩ ⟨hij, hj, h1, h2⟩
    dsimp only at hij hj h1 h2⊢
    by_cases hlt:i<j
    · obtain ⟨k, hk, hk1, hk2⟩ : ∃ k : Nat, aBin .shr (.int .u64 ((i : Int) + (j : Int))) (.int .u64 1) = some (.int .u64 (k : Int)) /\ i <= k /\ k < j := ⟨(i + j) / 2, shr1, by omega, by omega⟩
      have hkl:k<es.length:=by omega
      obtain⟨e,he⟩:=Qas hkl
      have hke:(froms es).getD k 0=e.1:=by rw[List.getD_eq_getElem?_getD,List.getElem?_map,he];rfl
      have heb:=hb e (List.mem_of_getElem? he)
      simp(disch:=first|omega|(simp only[lenW]<;>omega)) only[hlt,hk,hkl,QaU he,wW,wV,simprocAttr]
      refine cp (sub230 e t heb ht) ?_
      by_cases hc:e.1<t
      · have hc' : (e.1 : Int) - (t : Int) < 0 := by omega
        simp(disch:=first|omega|(simp only[lenW]<;>omega)) only[hc',wW,wV,simprocAttr]
        refine⟨(k+1,j),by dsimp only;omega,⟨by dsimp only;omega,hj,fun q hq=>?_,h2⟩,⟨[],rfl,au0,au7,au8⟩⟩
        have:=Qcb hs (p:=q) (q:=k) (by dsimp only at hq;omega) (by omega)
        omega
      · have hc' : ¬ (e.1 : Int) - (t : Int) < 0 := by omega
        simp(disch:=first|omega|(simp only[lenW]<;>omega)) only[hc',wW,wV,simprocAttr]
        refine⟨(i,k),by dsimp only;omega,⟨hk1,by dsimp only;omega,h1,fun q hq hql=>?_⟩,⟨[],rfl,au0,au7,au8⟩⟩
        have:=Qcb hs (p:=k) (q:=q) hq (by omega)
        omega
    · have e : i = j := by omega
      subst e
      simp(disch:=first|omega|(simp only[lenW]<;>omega)) only[hlt,wW,wV,simprocAttr]
      exact⟨i,⟨hj,h1,h2⟩,⟨[],rfl,au0,au7,au8⟩⟩
  rintro i ⟨hi,h1,h2⟩
  rw[lb_eq (by omega) h1 fun q a b=>h2 q a (by omega),Qh5 hs h1 fun q a b=>h2 q a (by omega)]
  by_cases hlt:i<es.length
  · obtain ⟨e, he⟩ := Qas hlt
    have hke:(froms es).getD i 0=e.1:=by rw[List.getD_eq_getElem?_getD,List.getElem?_map,he];rfl
    have heb:=hb e (List.mem_of_getElem? he)
    rw[hke]
    by_cases hc:e.1=t
    · rw [decide_eq_true ⟨by omega, hc⟩]
      have hc':(e.1:Int)-(t:Int)=0:=by omega
      simp(disch:=first|omega|(simp only[lenW]<;>omega)) only[hlt,QaU he,wW,wV,simprocAttr]
      refine cp (sub230 e t heb ht) ?_
      simp(disch:=first|omega|(simp only[lenW]<;>omega)) only[hc',wW,wV,simprocAttr]
      exact⟨.inr trivial,_,rfl,rfl⟩
    · rw [decide_eq_false fun h => hc h.2]
      have hc':¬(e.1:Int)-(t:Int)=0:=by omega
      simp(disch:=first|omega|(simp only[lenW]<;>omega)) only[hlt,QaU he,wW,wV,simprocAttr]
      refine cp (sub230 e t heb ht) ?_
      simp(disch:=first|omega|(simp only[lenW]<;>omega)) only[hc',wW,wV,simprocAttr]
      exact⟨.inr trivial,_,rfl,rfl⟩
  · rw [decide_eq_false fun h => hlt (by omega)]
    simp(disch:=first|omega|(simp only[lenW]<;>omega)) only[hlt,wW,wV,simprocAttr]
    exact⟨.inr trivial,_,rfl,rfl⟩
theorem out58 (a:Aut) (v:Nat) (h:WfA a) (hel:a.es.length<=1000000) (hv:v<=100000):PSpec Tryz.prog 205 [aV a,.int .i64 (v:Int)] (egsN (sOut a.es (fun _=>true) v)):=by
 have hs:(froms a.es).Pairwise (· <= ·):=by rw[List.pairwise_map];exact h.srt
 have hb:∀e∈a.es,e.1<=1000000:=fun e he=>by have:=(h.esn e he).1;have:=h.n5;omega
 have f1:=find67 a.es v hs hb (by omega) hel
 have f2:=find67b a.es (v+1) hs hb (by omega) hel
 have e1:((v+1:Nat):Int)=(v:Int)+1:=by omega
 rw[e1]at f2
 have ho:=QkL h.srt v
 have l1:=lb_le (l:=froms a.es) (t:=v+1)
 rw[List.length_map]at l1
 have hm:lbN (froms a.es) v<=lbN (froms a.es) (v+1):=List.countP_mono_left fun x _ hx=>by simp at hx⊢;omega
 generalize (froms a.es).contains v=b1 at*
 generalize (froms a.es).contains (v+1)=b2 at*
 generalize lbN (froms a.es) v=p at*
 generalize lbN (froms a.es) (v+1)=q at*
 have hlen:q-p=(sOut a.es (fun _=>true) v).length:=by rw[<-ho,List.length_take,List.length_drop];omega
 have hpq:(p:Int)<=(q:Int):=by omega
 have hql:(q:Int)<=(a.es.length:Int):=by omega
 refine PSpec.of_rn 64 ok205 rfl (by(try simp only[noRefs,QaD,Qao,Qar,Qab,Qai,Qah,Qal,Qaz,Qaf,noRef,Bool.and_self,Bool.and_true])<;>rfl) (QaI _) ?_
 simp(disch:=first|omega|(simp only[lenW]<;>omega)) only[s205,wW,wV,simprocAttr]
 refine cp f1 ?_
 simp(disch:=first|omega|(simp only[lenW]<;>omega)) only[wW,wV,simprocAttr]
 refine cp f2 ?_
 simp(disch:=first|omega|(simp only[lenW]<;>omega)) only[hpq,hql,wW,wV,simprocAttr]
 refine⟨.inr trivial,_,rfl,?_⟩
 rw[QgL,QgM,ho,hlen]
 exact Rn.same (QaI _)
end Go.AM.SE
namespace Go.AM.SE
open Go.Proofs Go.AM.SD
abbrev rsA (a:Aut):List AV:=[sliN a.al,.int .i64 (a.n:Int),sliN a.ms,egsN a.es]
abbrev rsN:List AV:=[.nilsl,.int .i64 0,.nilsl,.nilsl]
end Go.AM.SE
namespace Go.AM.SE
open Go.Proofs Go.AM.SD
def pl (n:Nat) (o:List Nat):List Int:=(List.range n).map fun x=>if o.contains x then((SD.idx o x:Nat):Int)else-1
theorem QfL {n:Nat} {o:List Nat}:(pl n o).length=n:=by simp[pl]
theorem QfM {n:Nat} {o:List Nat} {x:Nat} (hx:x<n):(pl n o).getD x 0=if o.contains x then((SD.idx o x:Nat):Int)else-1:=by
 unfold pl;rw[List.getD_eq_getElem?_getD,List.getElem?_map,List.getElem?_range hx];rfl
theorem QkM {n:Nat} {o:List Nat} {x:Nat} (hx:x∉o):(pl n o).set x (o.length:Int)=pl n (o++[x]):=by
 refine List.ext_getElem (by simp[pl]) fun j h1 h2=>?_
 have hj:j<n:=by simpa[pl]using h2
 rw[List.getElem_set]
 simp only[pl,List.getElem_map,List.getElem_range]
 by_cases e:x=j
 ·subst e
  rw[if_pos rfl,if_pos (by simp),SD.Qd9 hx]
 ·rw [if_neg e]
  by_cases hm:j∈o
  ·rw[if_pos (by simpa using hm),if_pos (by simp[hm]),SD.Qd8 hm]
  ·have e2 : ¬ j = x := fun h => e h.symm
   rw[if_neg (by simpa using hm),if_neg (by simp[hm,e2])]
theorem Qln {n:Nat} (h0:0<n):(List.replicate n (-1:Int)).set 0 0=pl n [0]:=by
 refine List.ext_getElem (by simp[pl]) fun j h1 h2=>?_
 have hj:j<n:=by simpa[pl]using h2
 rw[List.getElem_set]
 simp only[pl,List.getElem_map,List.getElem_range,List.getElem_replicate]
 by_cases e:0=j
 ·subst e;rw[if_pos rfl,if_pos (by simp)];rfl
 ·have e2 : ¬ j = 0 := fun h => e h.symm
  rw[if_neg e,if_neg (by simp[e2])]
abbrev cnB (a:Aut) (m e:Nat):List AV:=[.sl 83 0 0 a.al.length 1,.int .i64 0,.sl 77 0 0 m 1,.sl 76 0 0 e 3]
abbrev tru:Nat->Bool:=fun _=>true
theorem canonical44 (a : Aut) (h : WfA a) (hel : a.es.length <= 1000000) : PSpec Tryz.prog 214 [aV a] (aV (restr a tru)) := by
  have hn5:=h.n5
  have hal:a.al.length<=32:=Qbk 32 a.al (by rw[List.nodup_iff_pairwise_ne];exact h.al.imp fun h=>by omega) h.al5
  have hml:a.ms.length<=a.n:=Qbk a.n a.ms h.nd h.msn
  have hmsP:a.ms.Pairwise (· <= ·):=h.ms.imp fun h=>by omega
  have hn':(a.n:Int)<=140737488355328:=by omega
  have hn8:(8:Int)*(a.n:Int)<=140737488355328:=by omega
  refine PSpec.of_rn 40 ok214 rfl (by(try simp only[noRefs,QaD,Qao,Qar,Qab,Qai,Qah,Qal,Qaz,Qaf,noRef,Bool.and_self,Bool.and_true])<;>rfl) (Qli _) ?_
  simp(disch:=first|omega|(simp only[lenW]<;>omega)) only[s214,wW,wV,simprocAttr]
  refine ch (HSpec.of_O (b:=83) (by(try simp only[noRefs,QaD,Qao,Qar,Qab,Qai,Qah,Qal,Qaz,Qaf,noRef,Bool.and_self,Bool.and_true])<;>rfl) (clone56 a.al (by omega)) (by repeat (first|exact Fresh.e|exact Fresh.le (by assumption) (by omega)|refine Fresh.set ?_ (by omega) (by omega))) rfl) ?_
  by_cases h0:a.n=0
  · have h0' : (a.n : Int) = 0 := by omega
    have e:sAll a tru=([],[]):=by unfold sAll;rw[h0];rfl
    have hr:restr a tru=⟨a.al,0,[],[]⟩:=by unfold restr;rw[e];rfl
    simp(disch:=first|omega|(simp only[lenW]<;>omega)) only[h0',wW,wV,simprocAttr]
    refine⟨.inr trivial,_,rfl,?_⟩
    rw[hr]
    exact Rn.agg (RnL.cons (Rn.fz0 (g:=0) rfl (by simp[ints]) (RnL.same (Qab _))) (RnL.cons (Rn.same rfl) (RnL.cons Rn.nilK (RnL.cons Rn.nilK RnL.nil))))
  have h0':¬(a.n:Int)=0:=by omega
  have h0p:0<a.n:=by omega
  have h0n:(0:Int)<(a.n:Int):=by omega
  simp(disch:=first|omega|(simp only[lenW]<;>omega)) only[h0',hn',hn8,Qll,wW,wV,simprocAttr]
  refine QaF 100 (fun i:Nat=>[(1,.ptr 50 0 0),(2,.ptr 60 0 0),(3,.ptr 69 0 0),(4,.sl 78 0 0 a.n 1),(24,.int .i64 a.n),(25,.int .i64 i)])
    (fun i=>[(50,.cells 0 (rsA a)),(60,.cells 0 rsN),(69,.cells 0 [.sl 83 0 0 a.al.length 1,.int .i64 0,.nilsl,.nilsl]),(83,.cells 0 (ints (nz a.al))),(78,.cells 0 (ints (List.replicate i (-1)++List.replicate (a.n-i) 0)))])
    (fun i=>i<=a.n) (fun i=>a.n-i) 0 0 120
    (fun _:Unit=>[(1,.ptr 50 0 0),(2,.ptr 60 0 0),(3,.ptr 69 0 0),(4,.sl 78 0 0 a.n 1)])
    (fun _=>[(50,.cells 0 (rsA a)),(60,.cells 0 rsN),(69,.cells 0 [.sl 83 0 0 a.al.length 1,.int .i64 0,.nilsl,.nilsl]),(83,.cells 0 (ints (nz a.al))),(78,.cells 0 (ints (List.replicate a.n (-1))))]) (fun _=>True) ?_ (Nat.zero_le _) ?_ ?_
  · exact⟨[(50,.blk 40 0),(60,.blk 41 0),(69,.blk 46 0),(83,.blk 83 0),(78,.blk 53 0)],rfl,au0,au7,au8⟩
  · rintro i hi
    by_cases hlt:i<a.n
    · have h1 : i + 1 <= i + (a.n - i) := by omega
      simp(disch:=first|omega|(simp only[lenW]<;>omega)) only[hlt,h1,Qdt,QkH hlt,wW,wV,simprocAttr]
      exact⟨i+1,by omega,by omega,⟨[(50,.blk 50 0),(60,.blk 60 0),(69,.blk 69 0),(83,.blk 83 0),(78,.blk 78 0)],rfl,au0,au7,au8⟩⟩
    · have e : i = a.n := by omega
      subst e
      have e2:List.replicate a.n (-1:Int)++List.replicate (a.n-a.n) 0=List.replicate a.n (-1):=by simp
      simp(disch:=first|omega|(simp only[lenW]<;>omega)) only[hlt,wW,wV,simprocAttr]
      refine⟨(),?_⟩
      rw[e2]
      exact⟨[(50,.blk 50 0),(60,.blk 60 0),(69,.blk 69 0),(83,.blk 83 0),(78,.blk 78 0)],rfl,au0,au7,au8⟩
  rintro _ _
  have hp1:1<=a.n:=h0p
  have hps:=Qln h0p
  simp(disch:=first|omega|(simp only[lenW]<;>omega)) only[h0n,hp1,Qdt,hps,wW,wV,simprocAttr]
  have hsi:SI a.n a.es tru 0 (([0],[]):OE):=⟨⟨by simp,fun x hx=>by simp at hx;omega⟩,fun _ _=>rfl,Nat.zero_le _,fun j v hj=>by omega,by simp⟩
  have hq0:sQ a.es tru (a.n+1) 0 ([0],[])=sAll a tru:=by
    unfold sAll;rw[if_pos (by simp[h0p])]
  refine QaF 180 (fun t:Nat×OE=>[(1,.ptr 50 0 0),(2,.ptr 60 0 0),(3,.ptr 69 0 0),(4,.sl 78 0 0 a.n 1),(6,.sl 75 0 0 t.2.1.length 1),(7,.int .i64 t.1)])
    (fun t=>[(50,.cells 0 (rsA a)),(60,.cells 0 rsN),(69,.cells 0 (cnB a (mks a t.1 t.2.1).length t.2.2.length)),(83,.cells 0 (ints (nz a.al))),(78,.cells 0 (ints (pl a.n t.2.1))),(75,.cells 0 (ints (nz t.2.1))),(76,.cells 0 (t.2.2.flatMap edC)),(77,.cells 0 (ints (nz (mks a t.1 t.2.1))))])
    (fun t=>t.1<=a.n/\SI a.n a.es tru t.1 t.2/\t.2.2.length<=t.1*1000000/\sQ a.es tru (a.n+1-t.1) t.1 t.2=sAll a tru) (fun t=>a.n+1-t.1) (0,([0],[])) 2 260
    (fun _:Unit=>[(2,.ptr 60 0 0),(3,.ptr 69 0 0),(6,.sl 75 0 0 (sAll a tru).1.length 1)])
    (fun _=>[(60,.cells 0 rsN),(69,.cells 0 (cnB a (restr a tru).ms.length (restr a tru).es.length)),(83,.cells 0 (ints (nz a.al))),(75,.cells 0 (ints (nz (sAll a tru).1))),(76,.cells 0 ((restr a tru).es.flatMap edC)),(77,.cells 0 (ints (nz (restr a tru).ms)))]) (fun _=>True) ?_ ⟨Nat.zero_le _,hsi,Nat.zero_le _,hq0⟩ ?_ ?_
  · dsimp only
    have hms0:mks a 0 [0]=[]:=rfl
    rw[hms0]
    exact⟨[(50,.blk 50 0),(60,.blk 60 0),(69,.blk 69 0),(83,.blk 83 0),(78,.blk 78 0),(75,.blk 123 0),(76,.nil),(77,.nil)],rfl,au0,au7,au8⟩
  · rintro ⟨i, s⟩ ⟨hi, hsi, hsl, hq⟩
    dsimp only at hi hsi hsl hq⊢
    have hfl:=hsi.fi.len
    have hile:=hsi.le
    by_cases hlt:i<s.1.length
    · obtain ⟨v, hv⟩ := Qas hlt
      have hvn:=hsi.fi.lt v (List.mem_of_getElem? hv)
      have hin':i<a.n:=by omega
      have hsi':=hsi.step h.esn hv
      have hq':sQ a.es tru (a.n+1-(i+1)) (i+1) (sRow a.es tru i v s)=sAll a tru:=by
        rw[<-hq,show a.n+1-i=(a.n+1-(i+1))+1 by omega]
        simp only[sQ,hv]
      have hrow:=fun j=>Qdq (n:=a.n) (left:=tru) i ((sOut a.es tru v).take j) s (fun e he=>⟨(h.esn e (Qa2.1 (List.mem_of_mem_take he)).1).2,rfl⟩) hsi.fi hsi.lft
      have hol:=Qfb a.es tru v
      have hmn:=Qlm (a:=a) hv
      have hmsl:=@QlK a i s.1
      have hmapp:mks a (i+1) (sRow a.es tru i v s).1=mks a (i+1) s.1:=by
        obtain⟨_,_,⟨t,ht⟩,_⟩:=Qdq (n:=a.n) (left:=tru) i (sOut a.es tru v) s (fun e he=>⟨(h.esn e (Qa2.1 he).1).2,rfl⟩) hsi.fi hsi.lft
        have ht:(sRow a.es tru i v s).1=s.1++t:=ht
        rw[ht,QlL (by omega)]
      have hc:=find57 a.ms v hmsP (by omega)
      have ho:=out58 a v h hel (by omega)
      generalize hM0:mks a i s.1=M0 at*
      generalize hM:mks a (i+1) s.1=M at*
      simp(disch:=first|omega|(simp only[lenW]<;>omega)) only[hlt,Qfa (nz_at hv),wW,wV,simprocAttr]
      refine cp hc ?_
      by_cases hmv:a.ms.contains v=true
      · rw [if_pos hmv] at hmn
        rw[hmv]
        simp(disch:=first|omega|(simp only[lenW]<;>omega)) only[hlt,Qfa (nz_at hv),wW,wV,simprocAttr]
        refine cp ho ?_
        simp(disch:=first|omega|(simp only[lenW]<;>omega)) only[wW,wV,simprocAttr]
        refine QaF 300 (fun j:Nat=>[(1,.ptr 50 0 0),(2,.ptr 60 0 0),(3,.ptr 69 0 0),(4,.sl 78 0 0 a.n 1),(6,.sl 75 0 0 (((sOut a.es tru v).take j).foldl (sEd i) s).1.length 1),(7,.int .i64 i),(63,egsN (sOut a.es tru v)),(64,.int .i64 (sOut a.es tru v).length),(65,.int .i64 j)])
          (fun j=>[(50,.cells 0 (rsA a)),(60,.cells 0 rsN),(69,.cells 0 (cnB a M.length (((sOut a.es tru v).take j).foldl (sEd i) s).2.length)),(83,.cells 0 (ints (nz a.al))),(78,.cells 0 (ints (pl a.n (((sOut a.es tru v).take j).foldl (sEd i) s).1))),(75,.cells 0 (ints (nz (((sOut a.es tru v).take j).foldl (sEd i) s).1))),(76,.cells 0 ((((sOut a.es tru v).take j).foldl (sEd i) s).2.flatMap edC)),(77,.cells 0 (ints (nz M)))])
          (fun j=>j<=(sOut a.es tru v).length) (fun j=>(sOut a.es tru v).length-j) 0 4 400
          (fun _:Unit=>[(1,.ptr 50 0 0),(2,.ptr 60 0 0),(3,.ptr 69 0 0),(4,.sl 78 0 0 a.n 1),(6,.sl 75 0 0 (sRow a.es tru i v s).1.length 1),(7,.int .i64 i)])
          (fun _=>[(50,.cells 0 (rsA a)),(60,.cells 0 rsN),(69,.cells 0 (cnB a M.length (sRow a.es tru i v s).2.length)),(83,.cells 0 (ints (nz a.al))),(78,.cells 0 (ints (pl a.n (sRow a.es tru i v s).1))),(75,.cells 0 (ints (nz (sRow a.es tru i v s).1))),(76,.cells 0 ((sRow a.es tru i v s).2.flatMap edC)),(77,.cells 0 (ints (nz M)))]) (fun _=>True) ?_ (Nat.zero_le _) ?_ ?_
        · rw [hmn, List.length_append, Qbe, QaS]
          exact⟨[(50,.blk 50 0),(60,.blk 60 0),(69,.blk 69 0),(83,.blk 83 0),(78,.blk 78 0),(75,.blk 75 0),(76,.blk 76 0),(77,.blk 77 1)],rfl,au0,au7,au8⟩
        · rintro j hj
          by_cases hjl:j<(sOut a.es tru v).length
          · obtain ⟨e, he⟩ := Qas hjl
            have hem:=Qa2.1 (List.mem_of_getElem? he)
            have hto:=(h.esn e hem.1).2
            obtain⟨k1,_,_,_,_⟩:=hrow j
            have hfi:=k1.len
            have hstep:=QgK (i:=i) (s:=s) he
            have hsl2:=QcO (i:=i) ((sOut a.es tru v).take j) s
            rw[List.length_take]at hsl2
            generalize (((sOut a.es tru v).take j).foldl (sEd i) s)=t at*
            have hel2:=Qh4 t.2
            have hpl:=QfL (n:=a.n) (o:=t.1)
            have hpg:=QfM (o:=t.1) hto
            have hpt:e.2.2<(pl a.n t.1).length:=by omega
            have hp1:e.2.2+1<=(pl a.n t.1).length:=by omega
            by_cases hc:e.2.2∈t.1
            · have h2 : sEd i t e = (t.1, t.2 ++ [(i, e.2.1, SD.idx t.1 e.2.2)]) := if_pos (by simpa using hc)
              rw[h2]at hstep
              rw[if_pos (by simpa using hc)]at hpg
              have h3:¬((SD.idx t.1 e.2.2:Nat):Int)<0:=by omega
              generalize SD.idx t.1 e.2.2=q at*
              simp(disch:=first|omega|(simp only[lenW]<;>omega)) only[hjl,QaU he,hto,QbS hpt,hpg,h3,hel2,wW,wV,simprocAttr]
              refine⟨j+1,by omega,by omega,?_⟩
              rw[hstep,List.flatMap_append,List.length_append]
              exact⟨[(50,.blk 50 0),(60,.blk 60 0),(69,.blk 69 0),(83,.blk 83 0),(78,.blk 78 0),(75,.blk 75 0),(76,.blk 76 1),(77,.blk 77 0)],rfl,au0,au7,au8⟩
            · have h2 : sEd i t e = (t.1 ++ [e.2.2], t.2 ++ [(i, e.2.1, t.1.length)]) := if_neg (by simpa using hc)
              rw[h2]at hstep
              rw[if_neg (by simpa using hc)]at hpg
              have hps:=QkM (n:=a.n) hc
              have h3:(-1:Int)<0:=by decide
              have hpl2:e.2.2<(pl a.n (t.1++[e.2.2])).length:=by rw[QfL];exact hto
              have hpg2:(pl a.n (t.1++[e.2.2])).getD e.2.2 0=(t.1.length:Int):=by
                rw[QfM hto,if_pos (by simp),SD.Qd9 hc]
              simp(disch:=first|omega|(simp only[lenW]<;>omega)) only[hjl,QaU he,hto,QbS hpt,hpg,h3,hel2,hp1,Qdt,hps,QbS hpl2,hpg2,wW,wV,simprocAttr]
              refine⟨j+1,by omega,by omega,?_⟩
              rw[hstep,List.flatMap_append,List.length_append]
              dsimp only
              rw[List.length_append,Qbe,QaS]
              exact⟨[(50,.blk 50 0),(60,.blk 60 0),(69,.blk 69 0),(83,.blk 83 0),(78,.blk 78 0),(75,.blk 75 1),(76,.blk 76 1),(77,.blk 77 0)],rfl,au0,au7,au8⟩
          · have e : j = (sOut a.es tru v).length := by omega
            subst e
            simp(disch:=first|omega|(simp only[lenW]<;>omega)) only[hjl,wW,wV,simprocAttr]
            refine⟨(),?_⟩
            exact⟨[(50,.blk 50 0),(60,.blk 60 0),(69,.blk 69 0),(83,.blk 83 0),(78,.blk 78 0),(75,.blk 75 0),(76,.blk 76 0),(77,.blk 77 0)],rfl,au0,au7,au8⟩
        rintro _ _
        have hsl3:(sRow a.es tru i v s).2.length=s.2.length+(sOut a.es tru v).length:=QcO _ _
        have hol3:=Qfb a.es tru v
        simp(disch:=first|omega|(simp only[lenW]<;>omega)) only[wW,wV,simprocAttr]
        refine⟨(i+1,sRow a.es tru i v s),by dsimp only;omega,⟨hin',hsi',by dsimp only;omega,hq'⟩,?_⟩
        dsimp only
        rw[hmapp]
        exact⟨[(50,.blk 50 0),(60,.blk 60 0),(69,.blk 69 0),(83,.blk 83 0),(78,.blk 78 0),(75,.blk 75 0),(76,.blk 76 0),(77,.blk 77 0)],rfl,au0,au7,au8⟩
      · rw [if_neg hmv, List.append_nil] at hmn
        rw[Bool.not_eq_true]at hmv
        rw[hmv]
        simp(disch:=first|omega|(simp only[lenW]<;>omega)) only[hlt,Qfa (nz_at hv),wW,wV,simprocAttr]
        refine cp ho ?_
        simp(disch:=first|omega|(simp only[lenW]<;>omega)) only[wW,wV,simprocAttr]
        refine QaF 300 (fun j:Nat=>[(1,.ptr 50 0 0),(2,.ptr 60 0 0),(3,.ptr 69 0 0),(4,.sl 78 0 0 a.n 1),(6,.sl 75 0 0 (((sOut a.es tru v).take j).foldl (sEd i) s).1.length 1),(7,.int .i64 i),(63,egsN (sOut a.es tru v)),(64,.int .i64 (sOut a.es tru v).length),(65,.int .i64 j)])
          (fun j=>[(50,.cells 0 (rsA a)),(60,.cells 0 rsN),(69,.cells 0 (cnB a M.length (((sOut a.es tru v).take j).foldl (sEd i) s).2.length)),(83,.cells 0 (ints (nz a.al))),(78,.cells 0 (ints (pl a.n (((sOut a.es tru v).take j).foldl (sEd i) s).1))),(75,.cells 0 (ints (nz (((sOut a.es tru v).take j).foldl (sEd i) s).1))),(76,.cells 0 ((((sOut a.es tru v).take j).foldl (sEd i) s).2.flatMap edC)),(77,.cells 0 (ints (nz M)))])
          (fun j=>j<=(sOut a.es tru v).length) (fun j=>(sOut a.es tru v).length-j) 0 4 400
          (fun _:Unit=>[(1,.ptr 50 0 0),(2,.ptr 60 0 0),(3,.ptr 69 0 0),(4,.sl 78 0 0 a.n 1),(6,.sl 75 0 0 (sRow a.es tru i v s).1.length 1),(7,.int .i64 i)])
          (fun _=>[(50,.cells 0 (rsA a)),(60,.cells 0 rsN),(69,.cells 0 (cnB a M.length (sRow a.es tru i v s).2.length)),(83,.cells 0 (ints (nz a.al))),(78,.cells 0 (ints (pl a.n (sRow a.es tru i v s).1))),(75,.cells 0 (ints (nz (sRow a.es tru i v s).1))),(76,.cells 0 ((sRow a.es tru i v s).2.flatMap edC)),(77,.cells 0 (ints (nz M)))]) (fun _=>True) ?_ (Nat.zero_le _) ?_ ?_
        · rw [hmn]
          exact⟨[(50,.blk 50 0),(60,.blk 60 0),(69,.blk 69 0),(83,.blk 83 0),(78,.blk 78 0),(75,.blk 75 0),(76,.blk 76 0),(77,.blk 77 0)],rfl,au0,au7,au8⟩
        · rintro j hj
          by_cases hjl:j<(sOut a.es tru v).length
          · obtain ⟨e, he⟩ := Qas hjl
            have hem:=Qa2.1 (List.mem_of_getElem? he)
            have hto:=(h.esn e hem.1).2
            obtain⟨k1,_,_,_,_⟩:=hrow j
            have hfi:=k1.len
            have hstep:=QgK (i:=i) (s:=s) he
            have hsl2:=QcO (i:=i) ((sOut a.es tru v).take j) s
            rw[List.length_take]at hsl2
            generalize (((sOut a.es tru v).take j).foldl (sEd i) s)=t at*
            have hel2:=Qh4 t.2
            have hpl:=QfL (n:=a.n) (o:=t.1)
            have hpg:=QfM (o:=t.1) hto
            have hpt:e.2.2<(pl a.n t.1).length:=by omega
            have hp1:e.2.2+1<=(pl a.n t.1).length:=by omega
            by_cases hc:e.2.2∈t.1
            · have h2 : sEd i t e = (t.1, t.2 ++ [(i, e.2.1, SD.idx t.1 e.2.2)]) := if_pos (by simpa using hc)
              rw[h2]at hstep
              rw[if_pos (by simpa using hc)]at hpg
              have h3:¬((SD.idx t.1 e.2.2:Nat):Int)<0:=by omega
              generalize SD.idx t.1 e.2.2=q at*
              simp(disch:=first|omega|(simp only[lenW]<;>omega)) only[hjl,QaU he,hto,QbS hpt,hpg,h3,hel2,wW,wV,simprocAttr]
              refine⟨j+1,by omega,by omega,?_⟩
              rw[hstep,List.flatMap_append,List.length_append]
              exact⟨[(50,.blk 50 0),(60,.blk 60 0),(69,.blk 69 0),(83,.blk 83 0),(78,.blk 78 0),(75,.blk 75 0),(76,.blk 76 1),(77,.blk 77 0)],rfl,au0,au7,au8⟩
            · have h2 : sEd i t e = (t.1 ++ [e.2.2], t.2 ++ [(i, e.2.1, t.1.length)]) := if_neg (by simpa using hc)
              rw[h2]at hstep
              rw[if_neg (by simpa using hc)]at hpg
              have hps:=QkM (n:=a.n) hc
              have h3:(-1:Int)<0:=by decide
              have hpl2:e.2.2<(pl a.n (t.1++[e.2.2])).length:=by rw[QfL];exact hto
              have hpg2:(pl a.n (t.1++[e.2.2])).getD e.2.2 0=(t.1.length:Int):=by
                rw[QfM hto,if_pos (by simp),SD.Qd9 hc]
              simp(disch:=first|omega|(simp only[lenW]<;>omega)) only[hjl,QaU he,hto,QbS hpt,hpg,h3,hel2,hp1,Qdt,hps,QbS hpl2,hpg2,wW,wV,simprocAttr]
              refine⟨j+1,by omega,by omega,?_⟩
              rw[hstep,List.flatMap_append,List.length_append]
              dsimp only
              rw[List.length_append,Qbe,QaS]
              exact⟨[(50,.blk 50 0),(60,.blk 60 0),(69,.blk 69 0),(83,.blk 83 0),(78,.blk 78 0),(75,.blk 75 1),(76,.blk 76 1),(77,.blk 77 0)],rfl,au0,au7,au8⟩
          · have e : j = (sOut a.es tru v).length := by omega
            subst e
            simp(disch:=first|omega|(simp only[lenW]<;>omega)) only[hjl,wW,wV,simprocAttr]
            refine⟨(),?_⟩
            exact⟨[(50,.blk 50 0),(60,.blk 60 0),(69,.blk 69 0),(83,.blk 83 0),(78,.blk 78 0),(75,.blk 75 0),(76,.blk 76 0),(77,.blk 77 0)],rfl,au0,au7,au8⟩
        rintro _ _
        have hsl3:(sRow a.es tru i v s).2.length=s.2.length+(sOut a.es tru v).length:=QcO _ _
        have hol3:=Qfb a.es tru v
        simp(disch:=first|omega|(simp only[lenW]<;>omega)) only[wW,wV,simprocAttr]
        refine⟨(i+1,sRow a.es tru i v s),by dsimp only;omega,⟨hin',hsi',by dsimp only;omega,hq'⟩,?_⟩
        dsimp only
        rw[hmapp]
        exact⟨[(50,.blk 50 0),(60,.blk 60 0),(69,.blk 69 0),(83,.blk 83 0),(78,.blk 78 0),(75,.blk 75 0),(76,.blk 76 0),(77,.blk 77 0)],rfl,au0,au7,au8⟩
    · have hv : s.1[i]? = none := List.getElem?_eq_none (by omega)
      have hqf:s=sAll a tru:=by
        rw[<-hq,show a.n+1-i=(a.n-i)+1 by omega]
        simp only[sQ,hv]
      have hil:i=s.1.length:=by omega
      have hmf:mks a i s.1=(restr a tru).ms:=by rw[hil,hqf];rfl
      have hef:s.2=(restr a tru).es:=by rw[hqf];rfl
      simp(disch:=first|omega|(simp only[lenW]<;>omega)) only[hlt,wW,wV,simprocAttr]
      refine⟨(),?_⟩
      rw[hmf,hef,<-hqf]
      exact⟨[(60,.blk 60 0),(69,.blk 69 0),(83,.blk 83 0),(75,.blk 75 0),(76,.blk 76 0),(77,.blk 77 0)],rfl,au0,au7,au8⟩
  rintro _ _
  have hra:(restr a tru).al=a.al:=rfl
  have hrn2:(restr a tru).n=(sAll a tru).1.length:=rfl
  simp(disch:=first|omega|(simp only[lenW]<;>omega)) only[wW,wV,simprocAttr]
  refine⟨.inr trivial,_,rfl,?_⟩
  exact Rn.agg (RnL.cons (Rn.fz0 (g:=0) rfl (by simp[ints,hra]) (RnL.same (Qab _))) (RnL.cons (Rn.same rfl) (RnL.cons (Rn.fz0 (g:=0) rfl (by simp[ints]) (RnL.same (Qab _))) (RnL.cons (Rn.fz0 (g:=0) rfl (Qh4 _) (RnL.same (Qah _))) RnL.nil))))
end Go.AM.SE
namespace Go.AM
variable {P:Program}
def mapS (f:List UInt8->AV) (l:List (List UInt8)):List (AV×AV):=l.map fun x=>(.str x,f x)
def updS (f:List UInt8->AV) (x:List UInt8) (v:AV):List UInt8->AV:=fun y=>if y=x then v else f y
theorem Qd3 {x y:List UInt8}:keyEq false [.s] (.str x) (.str y)=some (decide (x=y)):=by
 simp_all [keyEq,eqCells,eqCell]
theorem QgN {f:List UInt8->AV} {x:List UInt8}:∀(l:List (List UInt8)) (i:Nat),x∈l->aFind false [.s] (.str x) (mapS f l) i=some (some (i+l.findIdx (· ==x),f x))
 | y :: l, i, hx => by
  show(match keyEq false [.s] (.str x) (.str y)with|some true=>_|some false=>_|none=>_)=_
  rw[Qd3,List.findIdx_cons]
  by_cases e:x=y
  ·subst e;simp
  ·have h2 : (y == x) = false := by grind
   rw[decide_eq_false e,h2]
   show aFind false [.s] (.str x) (mapS f l) (i+1)=_
   rw[QgN l (i+1) ((List.mem_cons.1 hx).resolve_left e)]
   grind
theorem Qdu {f:List UInt8->AV} {x:List UInt8}:∀(l:List (List UInt8)) (i:Nat),x∉l->aFind false [.s] (.str x) (mapS f l) i=some none
 |[],_,_=>rfl
 |y::l,i,hx=>by
  simp only[List.mem_cons,not_or]at hx
  show(match keyEq false [.s] (.str x) (.str y)with|some true=>_|some false=>_|none=>_)=_
  rw[Qd3,decide_eq_false hx.1]
  exact Qdu l (i+1) hx.2
theorem Qlo {f:List UInt8->AV} {x:List UInt8} {v:AV} {l:List (List UInt8)} (hx:x∉l):mapS f l++[(.str x,v)]=mapS (updS f x v) (l++[x]):=by
 grind [mapS,updS,List.map_congr_left]
theorem Qd4 {x:List UInt8}:keyOK false [.s] (.str x)=true:=by unfold keyOK;rw[Qd3]
section
variable {N:NM} {d:Option Nat} {r:List SOper} {dead:List Nat} {fs:List Fr} {n:Nat} {T:Tmps} {h:Heap} {Q:QC}
theorem QeP {f:List UInt8->AV} {x:List UInt8} {l:List (List UInt8)} {b g:Nat} {z:AV} {ok:Bool} (hb:h.get b=some (.map g (mapS f l))) (hx:x∈l)
  (hk:wR P N r dead fs (n+1) (putD T d (if ok then .tup [f x,.bool true]else f x)) h Q):wM P N (aLookup false [.s] z ok (.map b g) (.str x)) d r dead fs n T h Q:=by
 refine⟨_,h,?_,hk⟩
 simp_all [aLookup,Qd4,HM.entries,HM.run,QgN]
theorem Qd5 {f:List UInt8->AV} {x:List UInt8} {l:List (List UInt8)} {b g:Nat} {z:AV} {ok:Bool} (hb:h.get b=some (.map g (mapS f l))) (hx:x∉l)
  (hk:wR P N r dead fs (n+1) (putD T d (if ok then .tup [z,.bool false]else z)) h Q):wM P N (aLookup false [.s] z ok (.map b g) (.str x)) d r dead fs n T h Q:=by
 refine⟨_,h,?_,hk⟩
 simp_all [aLookup,Qd4,HM.entries,HM.run,Qdu]
theorem QcP {f:List UInt8->AV} {x:List UInt8} {l:List (List UInt8)} {b g:Nat} {v:AV} (hb:h.get b=some (.map g (mapS f l))) (hx:x∉l) (hl:b<1099511627775)
  (hk:wR P N r dead fs (n+1) (putD T d .any) (h.set b (.map g (mapS (updS f x v) (l++[x])))) Q):wM P N (aMapUpd false [.s] (.map b g) (.str x) v) d r dead fs n T h Q:=by
 refine⟨_,_,?_,hk⟩
 have hg:Nat.beq g g=true:=by simp
 have hl':Nat.blt b lim=true:=by simp[Nat.blt];exact hl
 unfold aMapUpd
 rw[if_pos Qd4]
 simp only[HM.entries,HM.run,hb,hg,cond_true,Qdu l 0 hx,hl',Qlo hx]
end
theorem RnM.mapS {m:Nat} {π:Nat->Option Src} {h:Heap} {f g:List UInt8->AV}:∀{l:List (List UInt8)},(∀x∈l,Rn m π h (f x) (g x))->RnM m π h (mapS f l) (mapS g l)
 |[],_=>trivial
 |x::l,hf=>⟨⟨Rn.same rfl,hf x (by simp)⟩,RnM.mapS (l:=l) fun y hy=>hf y (by simp[hy])⟩
end Go.AM
namespace Go.AM.SO
open Go.Proofs Go.AM.SD Go.AM.SE
abbrev yes:List UInt8->AV:=fun _=> .bool true
theorem Qfc {x:List UInt8}:updS yes x (.bool true)=yes:=by
 funext y;simp[updS]
end Go.AM.SO
namespace Go.AM.SO
open Go.Proofs Go.AM.SD Go.AM.SE
structure Evn where
 nm:List UInt8
 c:Bool
 o:Bool
 f:Bool
 flt:Int
def evnC (e:Evn):List AV:=[.str e.nm,.bool e.c,.bool e.o,.bool e.f,.int .i64 e.flt]
abbrev evns (l:List Evn):AV:= .fsl (l.flatMap evnC) l.length 5
theorem QjL (l:List Evn):noRefs (l.flatMap evnC)=true:=QaA (fun _=>rfl) l
theorem Qdv (l:List Evn):noRef (evns l)=true:=by rw[evns,noRef];exact QjL l
theorem Qlp {l:List Evn} {i:Nat} {x:Evn} (h:l[i]?=some x):(l.flatMap evnC).drop (i*5)= .str x.nm:: .bool x.c:: .bool x.o:: .bool x.f:: .int .i64 x.flt::(l.drop (i+1)).flatMap evnC:=Qbl (f:=evnC) (k:=5) (fun _=>rfl) h
def ev0:Evn:=⟨[],false,false,false,0⟩
def evnE (l:List Evn) (i:Nat):Int:=
 let x:=l.getD i ev0
 if nmOk x.nm=false then 7 else if x.nm∈(l.take i).map Evn.nm then 8 else if x.flt<0\/4<x.flt then 2 else if x.flt≠0/\(x.c=true\/x.o=true)then 13 else 0
def evErr (l:List Evn):Int:=if 32<l.length then 3 else fe (evnE l) l.length
theorem QlM {l:List Evn} {i:Nat} {x:Evn} (h:l[i]?=some x):(l.take (i+1)).map Evn.nm=(l.take i).map Evn.nm++[x.nm]:=by
 rw[List.take_add_one,h,List.map_append];rfl
theorem check82X (l : List Evn) (hl : l.length <= 9223372036854775807) (hn : ∀ x ∈ l, x.nm.length <= 9223372036854775807) : PSpec Tryz.prog 73 [evns l] (.int .i64 (evErr l)) := by
  refine PSpec.Qak 64 ok73 rfl (by rw[noRefs,Qdv];rfl) rfl ?_
  have hno:=Qdv l
  unfold evErr
  by_cases h32:32<l.length
  · have q : (32 : Int) < (l.length : Int) := by omega
    rw[if_pos h32]
    simp(disch:=first|omega|exact PairsOK.mk rfl|(simp only[lenW]<;>omega)) only[s73,q,wW,wV,simprocAttr]
    exact⟨.inr trivial,_,rfl,rfl⟩
  have q:¬(32:Int)<(l.length:Int):=by omega
  rw[if_neg h32]
  simp(disch:=first|omega|exact PairsOK.mk rfl|(simp only[lenW]<;>omega)) only[s73,q,wW,wV,simprocAttr]
  refine Qa3 100 (fun i:Nat=>[(10,evns l),(11,.int .i64 l.length),(12,.int .i64 i),(3,.map 68 0)]) (fun i=>[(68,.map 0 (mapS yes ((l.take i).map Evn.nm)))]) (fun i=>i<=l.length/\∀j,j<i->evnE l j=0) (fun i=>l.length-i) 0 ?_ ⟨Nat.zero_le _,fun j hj=>absurd hj (Nat.not_lt_zero _)⟩ ?_
  · refine⟨[(68,.blk 68 0)],rfl,RO.zero,RB.map rfl rfl rfl trivial RB.nil,RT.cons (Rn.same hno) au4⟩
  rintro i ⟨hi,hb⟩
  by_cases hlt:i<l.length
  · obtain ⟨x, hx⟩ := Qas hlt
    have hdr:=Qlp hx
    have hdl:5<=((l.flatMap evnC).drop (i*5)).length:=by rw[hdr];simp
    have hN:=name135 x.nm (hn x (List.mem_of_getElem? hx))
    have hs:=QlM hx
    have at0:∀e:Int,evnE l i=e->e≠0->fe (evnE l) l.length=e:=fun e h h0=>fe_at h h0 hb hlt
    have up:evnE l i=0->∀j,j<i+1->evnE l j=0:=fe_up hb
    have ke:evnE l i=if nmOk x.nm=false then 7 else if x.nm∈(l.take i).map Evn.nm then 8 else if x.flt<0\/4<x.flt then 2 else if x.flt≠0/\(x.c=true\/x.o=true)then 13 else 0:=by unfold evnE;rw[QaB hx]
    rw[ke]at at0 up
    clear ke
    generalize hnms:(l.take i).map Evn.nm=N at*
    obtain⟨nm,c,o,f,flt⟩:=x
    dsimp only at*
    simp(disch:=first|omega|exact PairsOK.mk rfl|(simp only[lenW]<;>omega)) only[hlt,hdr,hdl,wW,wV,simprocAttr]
    refine cp hN ?_
    cases ho:nmOk nm with
    | false =>
      simp(disch:=first|omega|exact PairsOK.mk rfl|(simp only[lenW]<;>omega)) only[wW,wV,simprocAttr]
      exact⟨.inr trivial,_,rfl,by rw[at0 7 (by rw[if_pos ho]) (by decide)];rfl⟩
    | true =>
      have ho':¬nmOk nm=false:=by rw[ho];decide
      simp(disch:=first|omega|exact PairsOK.mk rfl|(simp only[lenW]<;>omega)) only[wW,wV,simprocAttr]
      by_cases hm:nm∈N
      · refine QeP rfl hm ?_
        simp(disch:=first|omega|exact PairsOK.mk rfl|(simp only[lenW]<;>omega)) only[yes,wW,wV,simprocAttr]
        exact⟨.inr trivial,_,rfl,by rw[at0 8 (by rw[if_neg ho',if_pos hm]) (by decide)];rfl⟩
      refine Qd5 rfl hm ?_
      by_cases k1:flt<0
      · simp (disch := first | omega | exact PairsOK.mk rfl | (simp only [lenW] <;> omega)) only [k1, wW, wV, simprocAttr]
        exact⟨.inr trivial,_,rfl,by rw[at0 2 (by rw[if_neg ho',if_neg hm,if_pos (by omega)]) (by decide)];rfl⟩
      by_cases k2:4<flt
      · simp (disch := first | omega | exact PairsOK.mk rfl | (simp only [lenW] <;> omega)) only [k1, k2, wW, wV, simprocAttr]
        exact⟨.inr trivial,_,rfl,by rw[at0 2 (by rw[if_neg ho',if_neg hm,if_pos (by omega)]) (by decide)];rfl⟩
      by_cases k3:flt=0
      · simp (disch := first | omega | exact PairsOK.mk rfl | (simp only [lenW] <;> omega)) only [k1, k2, k3, wW, wV, simprocAttr]
        refine QcP gg hm (by omega) ?_
        simp(disch:=first|omega|exact PairsOK.mk rfl|(simp only[lenW]<;>omega)) only[Qfc,wW,wV,simprocAttr]
        refine⟨i+1,by omega,⟨by omega,up (by rw[if_neg ho',if_neg hm,if_neg (by omega),if_neg (fun h=>h.1 k3)])⟩,?_⟩
        rw[hs]
        refine⟨[(68,.blk 68 0)],rfl,RO.zero,?_,RT.cons (Rn.same hno) au4⟩
        exact RB.map rfl rfl gg (RnM.mapS fun _ _=>Rn.same rfl) RB.nil
      · cases c with
        | true =>
          simp(disch:=first|omega|exact PairsOK.mk rfl|(simp only[lenW]<;>omega)) only[k1,k2,k3,wW,wV,simprocAttr]
          exact⟨.inr trivial,_,rfl,by rw[at0 13 (by rw[if_neg ho',if_neg hm,if_neg (by omega),if_pos ⟨k3,.inl rfl⟩]) (by decide)];rfl⟩
        | false =>
          cases o with
          | true =>
            simp(disch:=first|omega|exact PairsOK.mk rfl|(simp only[lenW]<;>omega)) only[k1,k2,k3,wW,wV,simprocAttr]
            exact⟨.inr trivial,_,rfl,by rw[at0 13 (by rw[if_neg ho',if_neg hm,if_neg (by omega),if_pos ⟨k3,.inr rfl⟩]) (by decide)];rfl⟩
          | false =>
            simp(disch:=first|omega|exact PairsOK.mk rfl|(simp only[lenW]<;>omega)) only[k1,k2,k3,wW,wV,simprocAttr]
            refine QcP gg hm (by omega) ?_
            simp(disch:=first|omega|exact PairsOK.mk rfl|(simp only[lenW]<;>omega)) only[Qfc,wW,wV,simprocAttr]
            refine⟨i+1,by omega,⟨by omega,up (by rw[if_neg ho',if_neg hm,if_neg (by omega),if_neg (fun h=>h.2.elim (fun h=>by cases h) fun h=>by cases h)])⟩,?_⟩
            rw[hs]
            refine⟨[(68,.blk 68 0)],rfl,RO.zero,?_,RT.cons (Rn.same hno) au4⟩
            exact RB.map rfl rfl gg (RnM.mapS fun _ _=>Rn.same rfl) RB.nil
  · simp (disch := first | omega | exact PairsOK.mk rfl | (simp only [lenW] <;> omega)) only [hlt, wW, wV, simprocAttr]
    exact⟨.inr trivial,_,rfl,by rw[Qbb fun j hj=>hb j (by omega)];rfl⟩
end Go.AM.SO
namespace Go.AM.SO
open Go.Proofs Go.AM.SD Go.AM.SE
def natA (a:Au):Aut:=⟨a.al.map Int.toNat,a.n.toNat,a.ms.map Int.toNat,a.es.map fun e=>(e.fr.toNat,e.ev.toNat,e.to.toNat)⟩
theorem Qh6 {l:List Int} (h:∀x∈l,0<=x):nz (l.map Int.toNat)=l:=by
 rw[nz,List.map_map]
 conv=>rhs;rw[<-List.map_id l]
 refine List.map_congr_left fun x hx=>?_
 have:=h x hx
 simp;omega
theorem Qd6 {l:List Int} {n:Int} (h:SetOk l n):(l.map Int.toNat).Pairwise (· < ·):=by
 rw[List.pairwise_map]
 refine h.2.imp_of_mem fun{x y} hx hy hxy=>?_
 have:=(h.1 x hx).1
 omega
theorem Ql7 {a:Au} (h:edgErr a=0) {i:Nat} {x:Eg} (hx:a.es[i]?=some x):(0<=x.fr/\x.fr<a.n/\0<=x.to/\x.to<a.n/\x.ev∈a.al)/\∀y,0<i->a.es[i-1]?=some y->y.fr<x.fr\/y.fr=x.fr/\y.ev<x.ev:=by
 have:=QfY h i (List.getElem?_eq_some_iff.1 hx).1
 unfold edgE at this
 dsimp only at this
 rw[QaB hx]at this
 split at this
 ·cases this
 ·split at this
  ·cases this
  ·split at this
   ·cases this
   ·rename_i q1 q2 q3
    refine⟨⟨by omega,by omega,by omega,by omega,by simpa using q2⟩,fun y h0 hy=>?_⟩
    rw[QaB hy]at q3
    omega
theorem QkN {α:Type} {R:α->α->Prop} (ht:∀a b c,R a b->R b c->R a c):∀{l:List α},(∀(i:Nat) x y,l[i]?=some x->l[i+1]?=some y->R x y)->l.Pairwise R
 |[],_=>List.Pairwise.nil
 |[x],_=>by simp
 |x::y::l,h=>by
  have ih:=QkN ht (l:=y::l) fun i a b ha hb=>h (i+1) a b (by simpa using ha) (by simpa using hb)
  rw[List.pairwise_cons]
  refine⟨fun z hz=>?_,ih⟩
  have hxy:=h 0 x y rfl rfl
  rcases List.mem_cons.1 hz with rfl|hz
  ·exact hxy
  ·exact ht _ _ _ hxy ((List.pairwise_cons.1 ih).1 z hz)
theorem Qfd {a : Au} (h : auErr a = 0) (hn : a.n <= 1000) : au (natA a) = a /\ WfA (natA a) := by
  unfold auErr at h
  split at h
  · rename_i q;exact absurd h q
  rename_i h1
  split at h
  · cases h
  rename_i h2
  split at h
  · cases h
  rename_i h3
  split at h
  · rename_i q;exact absurd h q
  rename_i h4
  have s1:=Qd2 (by simpa using h1)
  have s2:=Qd2 (by simpa using h4)
  have he:=fun(i:Nat) x hx=>Ql7 h (i:=i) (x:=x) hx
  have hem:∀x∈a.es,0<=x.fr/\x.fr<a.n/\0<=x.to/\x.to<a.n/\x.ev∈a.al:=fun x hx=>by
    obtain⟨i,hi,rfl⟩:=List.getElem_of_mem hx
    exact(he i _ (List.getElem?_eq_getElem hi)).1
  have hev:∀x∈a.es,0<=x.ev:=fun x hx=>(s1.1 x.ev (hem x hx).2.2.2.2).1
  constructor
  · show (⟨nz _, _, nz _, _⟩ : Au) = a
    obtain⟨al,n,ms,es⟩:=a
    simp only[natA,Au.mk.injEq]at*
    refine⟨Qh6 fun x hx=>(s1.1 x hx).1,by omega,Qh6 fun x hx=>(s2.1 x hx).1,?_⟩
    rw[List.map_map]
    conv=>rhs;rw[<-List.map_id es]
    refine List.map_congr_left fun x hx=>?_
    have q:=hem x hx
    have q2:=hev x hx
    obtain⟨f,v,t⟩:=x
    simp only[Function.comp,eg,id,Eg.mk.injEq]at*
    omega
  · refine ⟨Qd6 s1, fun x hx => ?_, by show a.n.toNat <= 4096; omega, Qd6 s2, fun x hx => ?_, ?_, fun e hx => ?_, fun e hx => ?_⟩
    · obtain ⟨y, hy, rfl⟩ := List.mem_map.1 (show x ∈ a.al.map Int.toNat from hx)
      have:=s1.1 y hy
      omega
    · obtain ⟨y, hy, rfl⟩ := List.mem_map.1 (show x ∈ a.ms.map Int.toNat from hx)
      have:=s2.1 y hy
      show y.toNat<a.n.toNat
      omega
    · show (a.es.map _).Pairwise _
      rw[List.pairwise_map]
      have hp:a.es.Pairwise fun x y=>x.fr<y.fr\/x.fr=y.fr/\x.ev<y.ev:=QkN (fun a b c h1 h2=>by omega) fun i x y hx hy=>by
        have:=(he (i+1) y hy).2 x (by omega) (by simpa using hx)
        omega
      refine hp.imp_of_mem fun{x y} hx hy hxy=>?_
      have q1:=hem x hx
      have q2:=hem y hy
      have q3:=hev x hx
      have q4:=hev y hy
      show x.fr.toNat<y.fr.toNat\/x.fr.toNat=y.fr.toNat/\x.ev.toNat<y.ev.toNat
      omega
    · obtain ⟨y, hy, rfl⟩ := List.mem_map.1 (show e ∈ a.es.map _ from hx)
      have q:=hem y hy
      show y.fr.toNat<a.n.toNat/\y.to.toNat<a.n.toNat
      omega
    · obtain ⟨y, hy, rfl⟩ := List.mem_map.1 (show e ∈ a.es.map _ from hx)
      exact List.mem_map.2 ⟨y.ev,(hem y hy).2.2.2.2,rfl⟩
theorem QiA {a:Aut} (h:WfA a):AOk (restr a tru):=by
 have w:=Qlc (left:=tru) h
 have:=Qbp w.al w.al5
 have:=Qbp w.ms w.msn
 have:=WfA.el1 w
 have:=w.n5
 exact⟨by omega,by omega,by omega⟩
def caB (a:Au):Bool:=decide (auErr a=0)&&autB (natA a) (restr (natA a) tru)
theorem isCanon60X (a:Au) (h1:a.al.length<=9223372036854775807) (h2:a.ms.length<=9223372036854775807) (h3:a.es.length<=9000) (hn:a.n<=1000):PSpec Tryz.prog 129 [auV a] (.bool (caB a)):=by
  refine PSpec.Qak 64 ok129 rfl (by(try simp only[noRefs,Qab,Qai,Qah,Qal,Qaf,noRef,Bool.and_self,Bool.and_true])<;>rfl) rfl ?_
  have hC:=check37X a h1 h2 (by omega)
  unfold caB
  by_cases h0:auErr a=0
  · obtain ⟨e, hw⟩ := Qfd h0 hn
    have hel:(natA a).es.length<=9000:=by show(a.es.map _).length<=_;rw[List.length_map];exact h3
    have hml:(natA a).ms.length<=(natA a).n:=Qbk _ _ hw.nd hw.msn
    have hal:=Qbp hw.al hw.al5
    have hn5:=hw.n5
    have hk:=canonical44 (natA a) hw (by omega)
    have hq:=eq43 (natA a) (restr (natA a) tru) ⟨by omega,by omega,by omega⟩ (QiA hw)
    have ea:aV (natA a)=auV a:=by rw[<-Ql5,e]
    rw[ea]at hk hq
    rw[h0]at hC
    simp(disch:=first|omega|exact PairsOK.mk rfl|(simp only[lenW]<;>omega)) only[s129,wV,simprocAttr]
    refine cp hC ?_
    simp(disch:=first|omega|exact PairsOK.mk rfl|(simp only[lenW]<;>omega)) only[wV,simprocAttr]
    refine cp hk ?_
    simp(disch:=first|omega|exact PairsOK.mk rfl|(simp only[lenW]<;>omega)) only[wV,simprocAttr]
    refine cp hq ?_
    simp(disch:=first|omega|exact PairsOK.mk rfl|(simp only[lenW]<;>omega)) only[wV,simprocAttr]
    exact⟨.inr trivial,_,rfl,by simp[h0,resOf,Qat]⟩
  · simp (disch := first | omega | exact PairsOK.mk rfl | (simp only [lenW] <;> omega)) only [s129, wV, simprocAttr]
    refine cp hC ?_
    simp(disch:=first|omega|exact PairsOK.mk rfl|(simp only[lenW]<;>omega)) only[h0,wV,simprocAttr]
    exact⟨.inr trivial,_,rfl,by simp[h0,resOf,Qat]⟩
end Go.AM.SO
namespace Go.AM.SU
open Go.Proofs Go.AM.SD Go.AM.SE
theorem chc {P:Program} {N:NM} {r:List SOper} {dead:List Nat} {fs:List Fr} {n:Nat} {T:Tmps} {h h1:Heap} {Q:QC} {d:Option Nat} {f:Nat} {args a c:List AV} {v:AV} (hp:HSpec P f (a++args++c) h v h1) (k:wR P N r dead fs (n+1) (putD T d v) h1 Q):wCall P N .heap (.fn f a c) args d r dead fs n T h Q:=⟨v,h1,hp,k⟩
end Go.AM.SU
namespace Go.AM.SO
open Go.Proofs Go.AM.SD Go.AM.SE
def itC (ch:UInt8) (x:Nat×Aut):List AV:=[.str [ch,UInt8.ofNat (48+x.1)],sliN x.2.al,.int .i64 (x.2.n:Int),sliN x.2.ms,egsN x.2.es]
def loC (x:Nat×Nat):List AV:=[.int .i64 (x.1:Int),.int .i64 (x.2:Int)]
abbrev los (l:List (Nat×Nat)):AV:= .fsl (l.flatMap loC) l.length 2
def exC (x:Nat×List (Nat×Nat)):List AV:=[.str [101,UInt8.ofNat (48+x.1)],los x.2]
def teC (x:Nat×Int):List AV:=[.int .i64 (x.1:Int),.int .i64 x.2]
abbrev tes (l:List (Nat×Int)):AV:= .fsl (l.flatMap teC) l.length 2
def coC (x:List (Nat×Int)×Int):List AV:=[.str [107],tes x.1,.int .i64 x.2]
structure Pln where
 L:List Nat
 X:List Nat
 xn:Nat
 f0:Int
 f1:Int
 f2:Int
 bd:Int
variable (p:Pln)
variable {p}
end Go.AM.SO
namespace Go.AM.SU
open Go.Proofs Go.AM.SD Go.AM.SE Go.AM.SO
theorem QkO (l:List (Nat×Int)):noRefs (l.flatMap teC)=true:=QaA (fun _=>rfl) l
end Go.AM.SU
namespace Go.AM.SU
open Go.Proofs Go.AM.SD Go.AM.SE Go.AM.SO
section
variable {p:Pln}
theorem Qmd {ch:UInt8} (l:List (Nat×Aut)):noRefs (l.flatMap (itC ch))=true:=QaA (fun x=>by simp only[itC,noRefs,noRef,Qab,Qah];rfl) l
theorem QkP (l:List (Nat×Nat)):noRefs (l.flatMap loC)=true:=QaA (fun _=>rfl) l
theorem Qme (l:List (Nat×List (Nat×Nat))):noRefs (l.flatMap exC)=true:=QaA (fun x=>by simp only[exC,noRefs,noRef,QkP];rfl) l
theorem Qmf (l:List (List (Nat×Int)×Int)):noRefs (l.flatMap coC)=true:=QaA (fun x=>by simp only[coC,noRefs,noRef,QkO];rfl) l
theorem Qcp {x y:List AV} (hx:noRefs x=true) (hy:noRefs y=true):noRefs (x++y)=true:=by rw[Qam,hx,hy];rfl
end
end Go.AM.SU
namespace Go.AM.SQ
open Go.Proofs
set_option maxHeartbeats 4000000
noncomputable section
def cf:YA.Cf:={most:= .pure,always:=[135].map fun k=>(k,.heap)}
def s76:SFn:=by
 refine(?f:YA.Yt Tryz.prog cf 76 [[0,2],[15,16,17],[1,18],[2,18,19],[],[23,24,25],[4,26,27,28],[1,20,21,22,30,29,41,40,39,38,31],[2,31,32],[20,21,22,30,29,41,40,39,38,33,34,35,36,37],[1,42],[2,42,43],[],[47,48,49,50],[5,51],[7,52,53,54,55],[56],[1,44,45,46,6,8,57,58],[2,6,8,57,59,60,61],[62],[1,44,45,46,9,63,64],[2,9,63,65],[44,45,46,66],[],[70,71,72,73],[10,74],[12,75,76,77,78],[79],[1,67,68,69,11,13,80,81],[2,11,13,80,82,83,84],[85],[1,67,68,69,14,86,87],[2,14,86,88],[1,67,68,69]]) ?s ?h
 case h=>exact YA.rr
 exact fun s _=>s
theorem ok76:okFn Tryz.prog 76 s76=true:=by kernel_rfl
end
end Go.AM.SQ
namespace Go.AM.SO
open Go.Proofs Go.AM.SD Go.AM.SE
theorem QcQ {α:Type} {f:α->List AV} (hf:∀x,(f x).all AV.one=true):∀l:List α,(l.flatMap f).all AV.one=true
 |[]=>rfl
 |x::l=>by rw[List.flatMap_cons,List.all_append,hf,QcQ hf l];rfl
theorem take_succ' {α:Type} {l:List α} {i:Nat} {x:α} (h:l[i]?=some x):l.take (i+1)=l.take i++[x]:=by
 rw[List.take_add_one,h];rfl
end Go.AM.SO
namespace Go.AM.SO
open Go.Proofs Go.AM.SD Go.AM.SE
def idxQ {α:Type} (q:α->Bool) (l:List α):Int:=if l.any q then(l.findIdx q:Int)else-1
theorem QkQ {α:Type} {q:α->Bool} {l:List α} (h:∀x∈l,q x=false):idxQ q l= -1:=by
 unfold idxQ
 rw[if_neg]
 rw[List.any_eq_true]
 rintro⟨x,hx,hq⟩
 rw[h x hx]at hq;cases hq
theorem QlN {α:Type} {q:α->Bool} {l:List α} {i:Nat} {x:α} (hx:l[i]?=some x) (hq:q x=true) (hb:∀(j:Nat) y,j<i->l[j]?=some y->q y=false):idxQ q l=i:=by
 have hlt:i<l.length:=by
  rcases Nat.lt_or_ge i l.length with h|h
  ·exact h
  ·rw[List.getElem?_eq_none h]at hx;cases hx
 have h1:l.any q=true:=List.any_eq_true.2 ⟨x,List.mem_of_getElem? hx,hq⟩
 have h2:l.findIdx q=i:=by
  rw[List.findIdx_eq hlt]
  refine⟨by rw[List.getElem?_eq_getElem hlt]at hx;cases hx;exact hq,fun j hj=>hb j l[j] hj (List.getElem?_eq_getElem (by omega))⟩
 unfold idxQ
 rw[if_pos h1,h2]
theorem QlO {α:Type} {q:α->Bool} {l:List α}:decide (0<=idxQ q l)=l.any q:=by
 unfold idxQ
 cases h:l.any q
 ·simp
 ·simp
theorem Qbz {K:Nat} {cap:List AV} (h:noRefs cap=true):noRef (.fn K [] cap)=true:=by
 simp only[noRef,noRefs,h];rfl
theorem index110 {K : Nat} {cap : List AV} (q : Nat -> Bool) (l : List Nat) (hl : l.length <= 1000000) (hc : noRefs cap = true) (hk : ∀ x ∈ l, PSpec Tryz.prog K (.int .i64 (x : Int) :: cap) (.bool (q x))) : PSpec Tryz.prog 97 [sliN l, .fn K [] cap] (.int .i64 (idxQ q l)) := by
  refine PSpec.Qak 64 ok97 rfl (by rw[noRefs,noRefs,Qbz hc,(Qaj _)];rfl) rfl ?_
  have hfn:=Qbz (K:=K) hc
  have hln:=(show(ints (nz l)).length=l.length*1 by simp[ints])
  simp(disch:=first|omega|(simp only[lenW]<;>omega)) only[s97,List.append_nil,wW,wV,simprocAttr]
  refine Qa3 100 (fun i:Nat=>[(0,sliN l),(1,.fn K [] cap),(7,.int .i64 l.length),(8,.int .i64 i)]) (fun _=>[]) (fun i=>i<=l.length/\∀(j:Nat) y,j<i->l[j]?=some y->q y=false) (fun i=>l.length-i) 0 ?_ ⟨Nat.zero_le _,fun j y hj=>absurd hj (Nat.not_lt_zero _)⟩ ?_
  · exact⟨[],rfl,RO.zero,RB.nil,RT.cons (Rn.same (Qaj _)) (RT.cons (Rn.same hfn) (RT.cons (Rn.same rfl) (RT.cons (Rn.same rfl) RT.nil)))⟩
  rintro i ⟨hi,hb⟩
  by_cases hlt:i<l.length
  · obtain ⟨x, hx⟩ := Qas hlt
    have hn:=hk x (List.mem_of_getElem? hx)
    have hdr:=Qec hx
    have hdl:1<=(List.drop (i*1) (ints (nz l))).length:=by rw[List.length_drop,hln];omega
    cases hq:q x
    · rw [hq] at hn
      simp(disch:=first|omega|(simp only[lenW]<;>omega)) only[hlt,hdr,hdl,List.head?_cons,List.append_nil,wW,wV,simprocAttr]
      refine⟨_,by simpa using hn,?_⟩
      simp(disch:=first|omega|(simp only[lenW]<;>omega)) only[List.append_nil,wW,wV,simprocAttr]
      refine⟨i+1,by omega,⟨by omega,fun j y hj hy=>?_⟩,?_⟩
      · by_cases e : j = i
        · subst e;rw[hx]at hy;cases hy;exact hq
        · exact hb j y (by omega) hy
      · exact⟨[],rfl,RO.zero,RB.nil,RT.cons (Rn.same (Qaj _)) (RT.cons (Rn.same hfn) (RT.cons (Rn.same rfl) (RT.cons (Rn.same rfl) RT.nil)))⟩
    · rw [hq] at hn
      simp(disch:=first|omega|(simp only[lenW]<;>omega)) only[hlt,hdr,hdl,List.head?_cons,List.append_nil,wW,wV,simprocAttr]
      refine⟨_,by simpa using hn,?_⟩
      simp(disch:=first|omega|(simp only[lenW]<;>omega)) only[List.append_nil,wW,wV,simprocAttr]
      refine⟨.inr trivial,_,rfl,?_⟩
      rw[QlN hx hq hb];rfl
  · simp (disch := first | omega | (simp only [lenW] <;> omega)) only [hlt, List.append_nil, wW, wV, simprocAttr]
    refine⟨.inr trivial,_,rfl,?_⟩
    rw[QkQ fun x hx=>by
      obtain⟨j,hj,hjl⟩:=List.getElem_of_mem hx
      exact hb j x (by omega) (by rw[List.getElem?_eq_getElem hj,hjl])];rfl
theorem contains36 {K:Nat} {cap:List AV} (q:Nat->Bool) (l:List Nat) (hl:l.length<=1000000) (hc:noRefs cap=true) (hk:∀x∈l,PSpec Tryz.prog K (.int .i64 (x:Int)::cap) (.bool (q x))):PSpec Tryz.prog 46 [sliN l,.fn K [] cap] (.bool (l.any q)):=by
 refine PSpec.Qak 64 ok46 rfl (by rw[noRefs,noRefs,Qbz hc,Qaj];rfl) rfl ?_
 simp(disch:=first|omega|(simp only[lenW]<;>omega)) only[s46,List.append_nil,wW,wV,simprocAttr]
 refine cp (index110 q l hl hc hk) ?_
 have e:=@QlO Nat q l
 cases h:l.any q
 ·rw [h, decide_eq_false_iff_not] at e
  simp(disch:=first|omega|(simp only[lenW]<;>omega)) only[e,List.append_nil,wW,wV,simprocAttr]
  exact⟨.inr trivial,_,rfl,rfl⟩
 ·rw [h, decide_eq_true_eq] at e
  simp(disch:=first|omega|(simp only[lenW]<;>omega)) only[e,List.append_nil,wW,wV,simprocAttr]
  exact⟨.inr trivial,_,rfl,rfl⟩
end Go.AM.SO
namespace Go.AM.SR
open Go.Proofs
set_option maxHeartbeats 4000000
noncomputable section
def cf:YA.Cf:={most:= .pure,always:=[46].map fun k=>(k,.heap)}
def s74:SFn:=by
 refine(?f:YA.Yt Tryz.prog cf 74 [[0,1,8],[11,12,13,14],[2,3,4,5,10],[10,16,17,18,19],[2,3,4,5,15],[8,3,15,20,21,22],[23,24,25],[26],[2,4,5,9,27,28],[8,9,27,30,31,32,33],[2,4,5,29],[29,35,36,37,38],[2,4,5,34],[5,34,40,41,42,43,44],[2,4,39],[2,4,39,46,47,48,49,50,51],[45],[45]]) ?s ?h
 case h=>exact YA.rr
 exact fun s _=>s
theorem ok74:okFn Tryz.prog 74 s74=true:=by kernel_rfl
end
end Go.AM.SR
namespace Go.AM.SO
open Go.Proofs Go.AM.SD Go.AM.SE
abbrev nmsB (l:List (List UInt8)):Blk:= .map 0 (mapS yes l)
end Go.AM.SO
namespace Go.AM.SO
open Go.Proofs Go.AM.SD Go.AM.SE
abbrev Itn:=List UInt8×Au
def itV (x:Itn):List AV:=[.str x.1,sli x.2.al,.int .i64 x.2.n,sli x.2.ms,egs x.2.es]
structure ItOk (x:Itn):Prop where
 nm:x.1.length<=9223372036854775807
 al:x.2.al.length<=9223372036854775807
 ms:x.2.ms.length<=9223372036854775807
 es:x.2.es.length<=9000
 n:x.2.n<=1000
def minB (A B:List Nat):Bool:=decide ((mrg (fun a b=>a&& !b) A B).length=0)
def itE2 (E:Int) (B:List Nat) (a:Au):Int:=
 if auErr a≠0 then auErr a else if caB a=false then 6 else if a.n=0 then 12 else if(natA a).al.any (fun x=>decide (E<=(x:Int)))=true then 2 else if minB (natA a).al B=false then 9 else 0
def itEr (E:Int) (B:List Nat) (N:List (List UInt8)) (x:Itn):Int:=if nmOk x.1=false then 7 else if x.1∈N then 8 else itE2 E B x.2
def itNs (N:List (List UInt8)) (x:Itn):List (List UInt8):=if nmOk x.1=false\/x.1∈N then N else N++[x.1]
theorem QkR {E:Int} {B:List Nat} {N:List (List UInt8)} {x:Itn} (h:nmOk x.1=false):itEr E B N x=7/\itNs N x=N:=⟨if_pos h,if_pos (.inl h)⟩
theorem QkS {E:Int} {B:List Nat} {N:List (List UInt8)} {x:Itn} (h:nmOk x.1=true) (hm:x.1∈N):itEr E B N x=8/\itNs N x=N:=by
 have h':¬nmOk x.1=false:=by rw[h];decide
 exact⟨(if_neg h').trans (if_pos hm),if_pos (.inr hm)⟩
theorem QkT {E:Int} {B:List Nat} {N:List (List UInt8)} {x:Itn} (h:nmOk x.1=true) (hm:x.1∉N):itEr E B N x=itE2 E B x.2/\itNs N x=N++[x.1]:=by
 have h':¬nmOk x.1=false:=by rw[h];decide
 exact⟨(if_neg h').trans (if_neg hm),if_neg fun k=>k.elim h' hm⟩
theorem ge166X (x:Nat) (E:Int):PSpec Tryz.prog 130 [.int .i64 (x:Int),.fptr [.int .i64 E]] (.bool (decide (E<=(x:Int)))):=by
 refine PSpec.Qak 64 ok130 rfl rfl rfl ?_
 simp(disch:=first|omega|exact PairsOK.mk rfl|(simp only[lenW]<;>omega)) only[s130,wW,wV,simprocAttr]
 exact⟨.inr trivial,_,rfl,rfl⟩
theorem QfN (x:Itn):noRefs (itV x)=true:=by
 unfold itV;simp only[noRefs,noRef,Qap,QaY,Qab,Qai,Bool.and_true,Bool.true_and]
theorem _root_.Go.AM.au9 {p:Prop} (h:p:=by repeat (first|exact RT.nil|(refine RT.cons ?_ ?_; · (first|exact Rn.any|exact Rn.x1 rfl rfl|exact Rn.x2 rfl rfl|exact Rn.x3 rfl rfl|exact Rn.x4 rfl rfl|exact Rn.x5 rfl|exact Rn.x6 rfl|exact Rn.x7 rfl|(refine Rn.slot ?_ ?_;(first|rfl|(rw[Int.natCast_add];rfl));(first|rfl|(simp only[noRef,noRefs,Qam,Bool.and_self,Bool.and_true,Bool.true_and,Qab,Qap,Qaj,QaY];done)))|(refine Rn.fn ?_ ?_<;>(repeat' (first|exact RnL.nil|refine RnL.cons ?_ ?_|exact Rn.same rfl|exact Rn.x6 rfl|exact Rn.x2 rfl rfl|exact Rn.x5 rfl|exact Rn.x1 rfl rfl))))))):p:=h
theorem item83X (x : Itn) (E : Int) (B : List Nat) (N : List (List UInt8)) (h : ItOk x) (hnl : N.length <= 100) (hBl : B.length <= 1000000) :
    HSpec Tryz.prog 74 [.agg (itV x),.int .i64 E,sliN B,.map 68 0] (hp [(68,nmsB N)]) (.int .i64 (itEr E B N x)) (hp [(68,nmsB (itNs N x))]):=by
  obtain⟨nm,a⟩:=x
  have hN:=name135 nm h.nm
  have hC:=check37X a h.al h.ms (by have:=h.es;dsimp only at this;omega)
  have hI:=isCanon60X a h.al h.ms h.es h.n
  refine HSpec.QhU (m:=69) 100 SR.ok74 rfl rfl rfl ?_
  have k7:=@QkR E B N (nm,a)
  have k8:=@QkS E B N (nm,a)
  have k9:=@QkT E B N (nm,a)
  dsimp only[itV]at*
  generalize itEr E B N (nm,a)=rE at*
  generalize itNs N (nm,a)=rN at*
  simp(disch:=first|omega|exact PairsOK.mk rfl|(simp only[lenW]<;>omega)) only[SR.s74,wW,wV,simprocAttr]
  refine cp hN ?_
  cases ho:nmOk nm with
  | false =>
    obtain⟨rfl,rfl⟩:=k7 ho
    simp(disch:=first|omega|exact PairsOK.mk rfl|(simp only[lenW]<;>omega)) only[wW,wV,simprocAttr]
    refine⟨.inr trivial,_,rfl,rfl,?_⟩
    refine⟨[(68,.nil)],rfl,au0,?_,au9⟩
    exact RB.mapB rfl gg (RnM.mapS fun _ _=>Rn.same rfl) RB.nil
  | true =>
    simp(disch:=first|omega|exact PairsOK.mk rfl|(simp only[lenW]<;>omega)) only[wW,wV,simprocAttr]
    by_cases hn:nm∈N
    · obtain ⟨rfl, rfl⟩ := k8 ho hn
      refine QeP gg hn ?_
      simp(disch:=first|omega|exact PairsOK.mk rfl|(simp only[lenW]<;>omega)) only[yes,wW,wV,simprocAttr]
      refine⟨.inr trivial,_,rfl,rfl,?_⟩
      refine⟨[(68,.nil)],rfl,au0,?_,au9⟩
      exact RB.mapB rfl gg (RnM.mapS fun _ _=>Rn.same rfl) RB.nil
    obtain⟨rfl,rfl⟩:=k9 ho hn
    refine Qd5 gg hn ?_
    simp(disch:=first|omega|exact PairsOK.mk rfl|(simp only[lenW]<;>omega)) only[wW,wV,simprocAttr]
    refine QcP gg hn (by omega) ?_
    simp(disch:=first|omega|exact PairsOK.mk rfl|(simp only[lenW]<;>omega)) only[Qfc,wW,wV,simprocAttr]
    refine cp hC ?_
    unfold itE2
    by_cases h0:auErr a=0
    · obtain ⟨ea, hw⟩ := Qfd h0 h.n
      rw[h0]
      simp(disch:=first|omega|exact PairsOK.mk rfl|(simp only[lenW]<;>omega)) only[wW,wV,simprocAttr]
      refine cp hI ?_
      cases hc:caB a with
      | false =>
        simp(disch:=first|omega|exact PairsOK.mk rfl|(simp only[lenW]<;>omega)) only[wW,wV,simprocAttr]
        refine⟨.inr trivial,_,rfl,rfl,?_⟩
        refine⟨[(68,.nil)],rfl,au0,?_,au9⟩
        exact RB.mapB rfl gg (RnM.mapS fun _ _=>Rn.same rfl) RB.nil
      | true =>
        by_cases hz:a.n=0
        · simp (disch := first | omega | exact PairsOK.mk rfl | (simp only [lenW] <;> omega)) only [hz, wW, wV, simprocAttr]
          refine⟨.inr trivial,_,rfl,rfl,?_⟩
          refine⟨[(68,.nil)],rfl,au0,?_,au9⟩
          exact RB.mapB rfl gg (RnM.mapS fun _ _=>Rn.same rfl) RB.nil
        · have hal := Qbp hw.al hw.al5
          have h36:=contains36 (K:=130) (cap:=[.fptr [.int .i64 E]]) (fun x=>decide (E<=(x:Int))) (natA a).al (by omega) rfl (fun x _=>ge166X x E)
          have eal:sli a.al=sliN (natA a).al:=by rw[<-Qdc];exact congrArg (fun b=>sli b.al) ea.symm
          rw[<-eal]at h36
          have hsub:=subset167 (natA a).al B (by omega) hBl
          rw[<-eal]at hsub
          cases hq:(natA a).al.any (fun x=>decide (E<=(x:Int)))with
          | true =>
            rw[hq]at h36
            simp(disch:=first|omega|exact PairsOK.mk rfl|(simp only[lenW]<;>omega)) only[hz,wW,wV,simprocAttr]
            refine SU.chc (HSpec.lend (FrzL.cons (FrzTo.same _) (FrzL.cons (FrzTo.fn FrzL.nil (FrzL.cons (FrzTo.ptr (g:=0) (cs:=[.int .i64 E]) gg (FrzL.same _)) FrzL.nil)) FrzL.nil)) h36 rfl) ?_
            simp(disch:=first|omega|exact PairsOK.mk rfl|(simp only[lenW]<;>omega)) only[wW,wV,simprocAttr]
            refine⟨.inr trivial,_,rfl,rfl,?_⟩
            refine⟨[(68,.nil)],rfl,au0,?_,au9⟩
            exact RB.mapB rfl gg (RnM.mapS fun _ _=>Rn.same rfl) RB.nil
          | false =>
            rw[hq]at h36
            simp(disch:=first|omega|exact PairsOK.mk rfl|(simp only[lenW]<;>omega)) only[hz,wW,wV,simprocAttr]
            refine SU.chc (HSpec.lend (FrzL.cons (FrzTo.same _) (FrzL.cons (FrzTo.fn FrzL.nil (FrzL.cons (FrzTo.ptr (g:=0) (cs:=[.int .i64 E]) gg (FrzL.same _)) FrzL.nil)) FrzL.nil)) h36 rfl) ?_
            simp(disch:=first|omega|exact PairsOK.mk rfl|(simp only[lenW]<;>omega)) only[wW,wV,simprocAttr]
            refine cp hsub ?_
            unfold minB
            generalize decide ((mrg (fun a b=>a&& !b) (natA a).al B).length=0)=bb at*
            cases bb with
            | false =>
              simp(disch:=first|omega|exact PairsOK.mk rfl|(simp only[lenW]<;>omega)) only[wW,wV,simprocAttr]
              refine⟨.inr trivial,_,rfl,rfl,?_⟩
              refine⟨[(68,.nil)],rfl,au0,?_,au9⟩
              exact RB.mapB rfl gg (RnM.mapS fun _ _=>Rn.same rfl) RB.nil
            | true =>
              simp(disch:=first|omega|exact PairsOK.mk rfl|(simp only[lenW]<;>omega)) only[wW,wV,simprocAttr]
              refine⟨.inr trivial,_,rfl,rfl,?_⟩
              refine⟨[(68,.nil)],rfl,au0,?_,au9⟩
              exact RB.mapB rfl gg (RnM.mapS fun _ _=>Rn.same rfl) RB.nil
    · simp (disch := first | omega | exact PairsOK.mk rfl | (simp only [lenW] <;> omega)) only [h0, wW, wV, simprocAttr]
      refine⟨.inr trivial,_,rfl,rfl,?_⟩
      refine⟨[(68,.nil)],rfl,au0,?_,au9⟩
      exact RB.mapB rfl gg (RnM.mapS fun _ _=>Rn.same rfl) RB.nil
theorem item83XF {h:Heap} (x:Itn) (E:Int) (B:List Nat) (N:List (List UInt8)) (hx:ItOk x) (hnl:N.length<=100) (hBl:B.length<=1000000) (h68:h.get 68=some (nmsB N)):
  HSpec Tryz.prog 74 [.agg (itV x),.int .i64 E,sliN B,.map 68 0] h (.int .i64 (itEr E B N x)) (h.set 68 (nmsB (itNs N x))):=by
 have hm:∀(l:List (List UInt8)),∀e∈mapS yes l,noRef e.1=true/\noRef e.2=true:=fun l e he=>by
  unfold mapS at he
  obtain⟨x,_,rfl⟩:=List.mem_map.1 he
  exact⟨rfl,rfl⟩
 exact HSpec.frameM (item83X x E B N hx hnl hBl) (OnlyD.cons (OnlyD.same (by rw[noRef];exact QfN x)) (OnlyD.cons (OnlyD.same rfl) (OnlyD.cons (OnlyD.same (Qaj _)) (OnlyD.cons (OnlyD.map rfl) OnlyD.nil)))) (OnlyD.same rfl) (hm _) (hm _) h68 rfl
end Go.AM.SO
namespace Go.AM.SO
open Go.Proofs Go.AM.SD Go.AM.SE
def prZ (x:Int×Int):List AV:=[.int .i64 x.1,.int .i64 x.2]
abbrev prs (l:List (Int×Int)):AV:= .fsl (l.flatMap prZ) l.length 2
theorem QcU (l:List (Int×Int)):noRefs (l.flatMap prZ)=true:=QaA (fun _=>rfl) l
theorem QaV (l:List (Int×Int)):noRef (prs l)=true:=by rw[prs,noRef];exact QcU l
theorem Qcn (l:List (Int×Int)):(l.flatMap prZ).length=l.length*2:=QcN (k:=2) (fun _=>rfl) l
theorem Qed {l:List (Int×Int)} {i:Nat} {x:Int×Int} (h:l[i]?=some x):(l.flatMap prZ).drop (i*2)= .int .i64 x.1:: .int .i64 x.2::(l.drop (i+1)).flatMap prZ:=Qbl (f:=prZ) (k:=2) (fun _=>rfl) h
theorem Qjj (l:List (Int×Int)):flatVs (l.flatMap prZ)=true:=by
 induction l with
 |nil=>rfl
 |cons x l ih=>rw[List.flatMap_cons];simp only[prZ,List.cons_append,List.nil_append,flatVs,ih,Bool.and_true];rfl
theorem Qh7:aEqN false .nilsl= .ret (.bool true):=rfl
theorem Qh8:aEqN false .nsl= .ret (.bool false):=rfl
theorem _root_.Go.AM.au10 {p:Prop} (h:p:=by repeat' (first|exact RB.nil|(refine RnL.same ?_;first|rfl|(simp only[noRef,noRefs,Qam,Bool.and_self,Bool.and_true,Bool.true_and,Qab,Qap,Qaj,QbH,Qbq,Qbr];done))|exact RnM.keyM rfl|exact RnL.nil|exact(True.intro:RnM _ _ _ [] [])|refine RnL.cons ?_ ?_|(refine Rn.same ?_;first|rfl|(simp only[noRef,noRefs,Qam,Bool.and_self,Bool.and_true,Bool.true_and,Qab,Qap,Qaj,QbH,Qbq,Qbr];done))|exact Rn.x1 rfl rfl|exact Rn.x2 rfl rfl|exact Rn.x3 rfl rfl|exact Rn.x4 rfl rfl|exact Rn.x5 rfl|exact Rn.x6 rfl|exact Rn.x7 rfl|refine RB.newnil rfl rfl ?_|refine RB.cells rfl rfl rfl ?_ ?_|refine RB.map rfl rfl rfl ?_ ?_|refine RB.cellsB rfl rfl ?_ ?_|refine RB.mapB rfl rfl ?_ ?_)):p:=h
theorem _root_.Go.AM.au11 {p:Prop} (h:p:=by repeat (first|exact RT.nil|(refine RT.cons ?_ ?_; · (first|exact Rn.any|exact Rn.x1 rfl rfl|exact Rn.x2 rfl rfl|exact Rn.x3 rfl rfl|exact Rn.x4 rfl rfl|exact Rn.x5 rfl|exact Rn.x6 rfl|exact Rn.x7 rfl|(refine Rn.slot ?_ ?_;(first|rfl|(rw[Int.natCast_add];rfl));(first|rfl|(simp only[noRef,noRefs,Qam,Bool.and_self,Bool.and_true,Bool.true_and,Qab,Qap,Qaj,QbH,Qbq,Qbr];done)))|(refine Rn.fn ?_ ?_<;>(repeat' (first|exact RnL.nil|refine RnL.cons ?_ ?_|exact Rn.same rfl|exact Rn.x6 rfl|exact Rn.x2 rfl rfl|exact Rn.x5 rfl|exact Rn.x1 rfl rfl))))))):p:=h
theorem Qh9:HSpec Tryz.prog 139 [.nilsl] .e (.sl 83 0 0 0 2) (hp [(83,.cells 0 [])]):=by
 refine HSpec.Qb0 100 ok139 rfl ?_
 simp(disch:=first|omega|exact PairsOK.mk rfl|(simp only[lenW]<;>omega)) only[s139,Qh7,wW,wV,simprocAttr]
 exact⟨.inr trivial,_,rfl,⟨[(83,.nil)],rfl,au0,au10,au11⟩⟩
theorem Qia:HSpec Tryz.prog 139 [.nsl] .e (.sl 83 0 0 0 2) (hp [(83,.cells 0 [])]):=by
 refine HSpec.Qb0 100 ok139 rfl ?_
 simp(disch:=first|omega|exact PairsOK.mk rfl|(simp only[lenW]<;>omega)) only[s139,Qh8,Qc2,wW,wV,simprocAttr]
 exact⟨.inr trivial,_,rfl,⟨[(83,.blk 103 1)],rfl,au0,au10,au11⟩⟩
theorem clone148H (l:List (Int×Int)) (hl:l.length<=8796093021952):HSpec Tryz.prog 139 [prs l] .e (.sl 83 0 0 l.length 2) (hp [(83,.cells 0 (l.flatMap prZ))]):=by
 cases l with
 |nil=>exact HSpec.empty Qh9 Qia
 |cons x l=>
  refine HSpec.Qb0 100 ok139 rfl ?_
  have hq:aEqN false (prs (x::l))= .ret (.bool false):=rfl
  have hone:((x::l).flatMap prZ).all AV.one=true:=QcQ (fun _=>rfl) _
  have hn:=QaV (x::l)
  have hnl:=QcU (x::l)
  have hln:=Qcn (x::l)
  generalize x::l=q at*
  simp(disch:=first|omega|exact PairsOK.mk rfl|(simp only[lenW]<;>omega)) only[s139,hq,hone,hln,wW,wV,simprocAttr]
  refine⟨.inr trivial,_,rfl,?_⟩
  refine⟨[(83,.blk 103 1)],rfl,au0,?_,au11⟩
  exact RB.cells rfl rfl gg (RnL.same hnl) RB.nil
theorem clone148X (l:List (Int×Int)) (hl:l.length<=8796093021952):PSpec Tryz.prog 139 [prs l] (prs l):=by
 have h:=(clone148H l hl).freeze (b:=83) (g:=0) (ds:=l.flatMap prZ) gg (Qjj l) (by rw[Qcn];exact Nat.le_refl _) rfl
 have e:(l.flatMap prZ).take (l.length*2)=l.flatMap prZ:=by rw[List.take_of_length_le (by rw[Qcn];exact Nat.le_refl _)]
 rw[e]at h
 exact⟨by rw[noRefs,QaV];rfl,QaV l,_,h⟩
theorem Qib:HSpec Tryz.prog 140 [.nilsl] .e (.sl 83 0 0 0 2) (hp [(83,.cells 0 [])]):=by
 refine HSpec.Qb0 100 ok140 rfl ?_
 simp(disch:=first|omega|exact PairsOK.mk rfl|(simp only[lenW]<;>omega)) only[s140,Qh7,wW,wV,simprocAttr]
 exact⟨.inr trivial,_,rfl,⟨[(83,.nil)],rfl,au0,au10,au11⟩⟩
theorem Qic:HSpec Tryz.prog 140 [.nsl] .e (.sl 83 0 0 0 2) (hp [(83,.cells 0 [])]):=by
 refine HSpec.Qb0 100 ok140 rfl ?_
 simp(disch:=first|omega|exact PairsOK.mk rfl|(simp only[lenW]<;>omega)) only[s140,Qh8,Qc2,wW,wV,simprocAttr]
 exact⟨.inr trivial,_,rfl,⟨[(83,.blk 103 1)],rfl,au0,au10,au11⟩⟩
theorem clone149H (l:List (Int×Int)) (hl:l.length<=8796093021952):HSpec Tryz.prog 140 [prs l] .e (.sl 83 0 0 l.length 2) (hp [(83,.cells 0 (l.flatMap prZ))]):=by
 cases l with
 |nil=>exact HSpec.empty Qib Qic
 |cons x l=>
  refine HSpec.Qb0 100 ok140 rfl ?_
  have hq:aEqN false (prs (x::l))= .ret (.bool false):=rfl
  have hone:((x::l).flatMap prZ).all AV.one=true:=QcQ (fun _=>rfl) _
  have hn:=QaV (x::l)
  have hnl:=QcU (x::l)
  have hln:=Qcn (x::l)
  generalize x::l=q at*
  simp(disch:=first|omega|exact PairsOK.mk rfl|(simp only[lenW]<;>omega)) only[s140,hq,hone,hln,wW,wV,simprocAttr]
  refine⟨.inr trivial,_,rfl,?_⟩
  refine⟨[(83,.blk 103 1)],rfl,au0,?_,au11⟩
  exact RB.cells rfl rfl gg (RnL.same hnl) RB.nil
theorem clone149X (l:List (Int×Int)) (hl:l.length<=8796093021952):PSpec Tryz.prog 140 [prs l] (prs l):=by
 have h:=(clone149H l hl).freeze (b:=83) (g:=0) (ds:=l.flatMap prZ) gg (Qjj l) (by rw[Qcn];exact Nat.le_refl _) rfl
 have e:(l.flatMap prZ).take (l.length*2)=l.flatMap prZ:=by rw[List.take_of_length_le (by rw[Qcn];exact Nat.le_refl _)]
 rw[e]at h
 exact⟨by rw[noRefs,QaV];rfl,QaV l,_,h⟩
abbrev Exn:=List UInt8×List (Int×Int)
abbrev Con:=List UInt8×List (Int×Int)×Int
structure CelN where
 ev:List Evn
 cs:List Itn
 rs:List Itn
 xs:List Exn
 ks:List Con
abbrev itsV (l:List Itn):AV:= .fsl (l.flatMap itV) l.length 5
theorem QbH (l:List Itn):noRefs (l.flatMap itV)=true:=QaA QfN l
theorem Qdw (l:List Itn):noRef (itsV l)=true:=by rw[itsV,noRef];exact QbH l
theorem Qee (l:List Itn):(l.flatMap itV).length=l.length*5:=QcN (k:=5) (fun _=>rfl) l
theorem Qdx {l:List Itn} {i:Nat} {x:Itn} (h:l[i]?=some x):(l.flatMap itV).drop (i*5)= .str x.1::sli x.2.al:: .int .i64 x.2.n::sli x.2.ms::egs x.2.es::(l.drop (i+1)).flatMap itV:=Qbl (f:=itV) (k:=5) (fun _=>rfl) h
def exZ (x:Exn):List AV:=[.str x.1,prs x.2]
abbrev exsZ (l:List Exn):AV:= .fsl (l.flatMap exZ) l.length 2
theorem Qbq (l:List Exn):noRefs (l.flatMap exZ)=true:=QaA (fun x=>by unfold exZ;rw[noRefs,noRefs,QaV];rfl) l
theorem QbE (l:List Exn):noRef (exsZ l)=true:=by rw[exsZ,noRef];exact Qbq l
theorem Qef (l:List Exn):(l.flatMap exZ).length=l.length*2:=QcN (k:=2) (fun _=>rfl) l
theorem Qfe {l:List Exn} {i:Nat} {x:Exn} (h:l[i]?=some x):(l.flatMap exZ).drop (i*2)= .str x.1::prs x.2::(l.drop (i+1)).flatMap exZ:=Qbl (f:=exZ) (k:=2) (fun _=>rfl) h
theorem QlP {x:Exn}:List.flatMap exZ [x]=[.str x.1,prs x.2]:=rfl
def coZ (x:Con):List AV:=[.str x.1,prs x.2.1,.int .i64 x.2.2]
abbrev cosZ (l:List Con):AV:= .fsl (l.flatMap coZ) l.length 3
theorem Qbr (l:List Con):noRefs (l.flatMap coZ)=true:=QaA (fun x=>by unfold coZ;rw[noRefs,noRefs,QaV];rfl) l
theorem Qdy (l:List Con):noRef (cosZ l)=true:=by rw[cosZ,noRef];exact Qbr l
theorem Qeg (l:List Con):(l.flatMap coZ).length=l.length*3:=QcN (k:=3) (fun _=>rfl) l
theorem Qff {l:List Con} {i:Nat} {x:Con} (h:l[i]?=some x):(l.flatMap coZ).drop (i*3)= .str x.1::prs x.2.1:: .int .i64 x.2.2::(l.drop (i+1)).flatMap coZ:=Qbl (f:=coZ) (k:=3) (fun _=>rfl) h
theorem QlQ {x:Con}:List.flatMap coZ [x]=[.str x.1,prs x.2.1,.int .i64 x.2.2]:=rfl
abbrev celZ (c:CelN):AV:= .agg [evns c.ev,itsV c.cs,itsV c.rs,exsZ c.xs,cosZ c.ks]
theorem QaC (c:CelN):noRefs [evns c.ev,itsV c.cs,itsV c.rs,exsZ c.xs,cosZ c.ks]=true:=by
 rw[noRefs,noRefs,noRefs,noRefs,noRefs,Qdv,Qdw,Qdw,QbE,Qdy];rfl
def szZ (c:CelN):List Int:=c.cs.map (·.2.n)
abbrev cdK (S:List Int) (xs:List Exn) (ks:List Con):List AV:=[sli S,exsZ xs,cosZ ks]
abbrev cdZ (S:List Int) (xs:List Exn) (ks:List Con):AV:= .agg (cdK S xs ks)
theorem Qb1 {S:List Int} {xs:List Exn} {ks:List Con}:noRefs (cdK S xs ks)=true:=by
 rw[cdK,noRefs,noRefs,noRefs,Qap,QbE,Qdy];rfl
theorem conds85X (c:CelN) (hc3:c.cs.length<=1000) (hx2:c.xs.length<=1000) (hk1:c.ks.length<=1000) (hxl:∀x∈c.xs,x.2.length<=8796093021952) (hkl:∀x∈c.ks,x.2.1.length<=8796093021952):PSpec Tryz.prog 77 [celZ c] (cdZ (szZ c) c.xs c.ks):=by
  have hnr:=QaC c
  refine PSpec.of_rn 64 ok77 rfl (by rw[noRefs,celZ,noRef,hnr];rfl) (by rw[noRef];exact Qb1) ?_
  have hci:=Qee c.cs
  have hxi:=Qef c.xs
  have hki:=Qeg c.ks
  have hsz:(szZ c).length=c.cs.length:=by simp[szZ]
  simp(disch:=first|omega|exact PairsOK.mk rfl|(simp only[lenW]<;>omega)) only[s77,wW,wV,simprocAttr]
  refine QaF 100 (fun i:Nat=>[(1,.ptr 50 0 0),(2,.ptr 51 0 0),(3,.ptr 52 0 0),(12,itsV c.cs),(13,.int .i64 c.cs.length),(14,.int .i64 i)]) (fun i=>[(50,.cells 0 [evns c.ev,itsV c.cs,itsV c.rs,exsZ c.xs,cosZ c.ks]),(51,.cells 0 [.nilsl,.nilsl,.nilsl]),(52,.cells 0 [.sl 76 0 0 ((szZ c).take i).length 1,.nilsl,.nilsl]),(76,.cells 0 (ints ((szZ c).take i)))]) (fun i=>i<=c.cs.length) (fun i=>c.cs.length-i) 0 0 160
    (fun _:Unit=>[(1,.ptr 50 0 0),(2,.ptr 51 0 0),(3,.ptr 52 0 0)]) (fun _=>[(50,.cells 0 [evns c.ev,itsV c.cs,itsV c.rs,exsZ c.xs,cosZ c.ks]),(51,.cells 0 [.nilsl,.nilsl,.nilsl]),(52,.cells 0 [sli (szZ c),.nilsl,.nilsl])]) (fun _=>True) ⟨[(50,.blk 64 0),(51,.blk 65 0),(52,.blk 67 0),(76,.nil)],rfl,au0,?_,au11⟩ (Nat.zero_le _) ?_ ?_
  · exact RB.cells rfl rfl gg (RnL.same hnr) (RB.cells rfl rfl gg (RnL.same rfl) (RB.cells rfl rfl gg (RnL.cons (Rn.x4 rfl rfl) (RnL.same rfl)) (RB.newnil rfl rfl RB.nil)))
  · rintro i hi
    by_cases hlt:i<c.cs.length
    · obtain ⟨x, hx⟩ := Qas hlt
      have hdr:=Qdx hx
      have hdl:5<=((c.cs.flatMap itV).drop (i*5)).length:=by rw[hdr];simp
      have hsx:(szZ c)[i]?=some x.2.n:=by unfold szZ;rw[List.getElem?_map,hx];rfl
      have hsuc:=take_succ' hsx
      have htl:((szZ c).take i).length=i:=by rw[List.length_take,hsz];omega
      simp(disch:=first|omega|exact PairsOK.mk rfl|(simp only[lenW]<;>omega)) only[hlt,hdr,hdl,htl,wW,wV,simprocAttr]
      refine⟨i+1,by omega,by omega,?_⟩
      rw[hsuc,List.length_append,QaS,htl]
      refine⟨[(50,.blk 50 0),(51,.blk 51 0),(52,.blk 52 0),(76,.blk 76 1)],rfl,au0,?_,au11⟩
      exact RB.cells rfl rfl gg (RnL.same hnr) (RB.cells rfl rfl gg (RnL.same rfl) (RB.cells rfl rfl gg (RnL.cons (Rn.x1 rfl rfl) (RnL.same rfl)) (RB.cells rfl rfl gg (RnL.same (SU.Qcp (Qab _) rfl)) RB.nil)))
    · have e : i = c.cs.length := by omega
      subst e
      have hta:(szZ c).take c.cs.length=szZ c:=by rw[<-hsz,List.take_length]
      simp(disch:=first|omega|exact PairsOK.mk rfl|(simp only[lenW]<;>omega)) only[hlt,hta,wW,wV,simprocAttr]
      refine⟨(),?_⟩
      refine⟨[(50,.blk 50 0),(51,.blk 51 0),(52,.blk 52 0)],rfl,au0,?_,au11⟩
      exact RB.cells rfl rfl gg (RnL.same hnr) (RB.cells rfl rfl gg (RnL.same rfl) (RB.cells rfl rfl gg (RnL.cons (Rn.fzm rfl rfl rfl rfl (by simp[ints]) (RnL.same (Qab _))) (RnL.same rfl)) RB.nil))
  rintro _ _
  simp(disch:=first|omega|exact PairsOK.mk rfl|(simp only[lenW]<;>omega)) only[wW,wV,simprocAttr]
  refine QaF 200 (fun i:Nat=>[(1,.ptr 50 0 0),(2,.ptr 51 0 0),(3,.ptr 52 0 0),(28,exsZ c.xs),(29,.int .i64 c.xs.length),(30,.int .i64 i)]) (fun i=>[(50,.cells 0 [evns c.ev,itsV c.cs,itsV c.rs,exsZ c.xs,cosZ c.ks]),(51,.cells 0 [.nilsl,.nilsl,.nilsl]),(52,.cells 0 [sli (szZ c),.sl 77 0 0 (c.xs.take i).length 2,.nilsl]),(77,.cells 0 ((c.xs.take i).flatMap exZ))]) (fun i=>i<=c.xs.length) (fun i=>c.xs.length-i) 0 2 260
    (fun _:Unit=>[(1,.ptr 50 0 0),(2,.ptr 51 0 0),(3,.ptr 52 0 0)]) (fun _=>[(50,.cells 0 [evns c.ev,itsV c.cs,itsV c.rs,exsZ c.xs,cosZ c.ks]),(51,.cells 0 [.nilsl,.nilsl,.nilsl]),(52,.cells 0 [sli (szZ c),exsZ c.xs,.nilsl])]) (fun _=>True) ⟨[(50,.blk 50 0),(51,.blk 51 0),(52,.blk 52 0),(77,.nil)],rfl,au0,?_,au11⟩ (Nat.zero_le _) ?_ ?_
  · exact RB.cells rfl rfl gg (RnL.same hnr) (RB.cells rfl rfl gg (RnL.same rfl) (RB.cells rfl rfl gg (RnL.cons (Rn.same (Qap _)) (RnL.cons (Rn.x4 rfl rfl) (RnL.same rfl))) (RB.newnil rfl rfl RB.nil)))
  · rintro i hi
    by_cases hlt:i<c.xs.length
    · obtain ⟨x, hx⟩ := Qas hlt
      have hxm:=List.mem_of_getElem? hx
      have hdr:=Qfe hx
      have hdl:2<=((c.xs.flatMap exZ).drop (i*2)).length:=by rw[hdr];simp
      have hsuc:=take_succ' hx
      have htl:(c.xs.take i).length=i:=by rw[List.length_take];omega
      have hcl:=clone148X x.2 (hxl x hxm)
      have hxl:=Qef (c.xs.take i)
      rw[htl]at hxl
      simp(disch:=first|omega|exact PairsOK.mk rfl|(simp only[lenW]<;>omega)) only[hlt,hdr,hdl,htl,wW,wV,simprocAttr]
      refine cp hcl ?_
      simp(disch:=first|omega|exact PairsOK.mk rfl|(simp only[lenW]<;>omega)) only[hxl,wW,wV,simprocAttr]
      refine⟨i+1,by omega,by omega,?_⟩
      rw[hsuc,List.length_append,List.flatMap_append,htl,QlP]
      refine⟨[(50,.blk 50 0),(51,.blk 51 0),(52,.blk 52 0),(77,.blk 77 1)],rfl,au0,?_,au11⟩
      exact RB.cells rfl rfl gg (RnL.same hnr) (RB.cells rfl rfl gg (RnL.same rfl) (RB.cells rfl rfl gg (RnL.cons (Rn.same (Qap _)) (RnL.cons (Rn.x1 rfl rfl) (RnL.same rfl))) (RB.cells rfl rfl gg (RnL.same (SU.Qcp (Qbq _) (by rw[noRefs,noRefs,QaV];rfl))) RB.nil)))
    · have e : i = c.xs.length := by omega
      subst e
      simp(disch:=first|omega|exact PairsOK.mk rfl|(simp only[lenW]<;>omega)) only[hlt,List.take_length,wW,wV,simprocAttr]
      refine⟨(),?_⟩
      refine⟨[(50,.blk 50 0),(51,.blk 51 0),(52,.blk 52 0)],rfl,au0,?_,au11⟩
      exact RB.cells rfl rfl gg (RnL.same hnr) (RB.cells rfl rfl gg (RnL.same rfl) (RB.cells rfl rfl gg (RnL.cons (Rn.same (Qap _)) (RnL.cons (Rn.fzm rfl rfl rfl rfl (Qef _) (RnL.same (Qbq _))) (RnL.same rfl))) RB.nil))
  rintro _ _
  simp(disch:=first|omega|exact PairsOK.mk rfl|(simp only[lenW]<;>omega)) only[wW,wV,simprocAttr]
  refine QaF 300 (fun i:Nat=>[(2,.ptr 51 0 0),(3,.ptr 52 0 0),(47,cosZ c.ks),(48,.int .i64 c.ks.length),(49,.int .i64 i)]) (fun i=>[(51,.cells 0 [.nilsl,.nilsl,.nilsl]),(52,.cells 0 [sli (szZ c),exsZ c.xs,.sl 78 0 0 (c.ks.take i).length 3]),(78,.cells 0 ((c.ks.take i).flatMap coZ))]) (fun i=>i<=c.ks.length) (fun i=>c.ks.length-i) 0 4 360
    (fun _:Unit=>[(2,.ptr 51 0 0),(3,.ptr 52 0 0)]) (fun _=>[(51,.cells 0 [.nilsl,.nilsl,.nilsl]),(52,.cells 0 [sli (szZ c),exsZ c.xs,cosZ c.ks])]) (fun _=>True) ⟨[(51,.blk 51 0),(52,.blk 52 0),(78,.nil)],rfl,au0,?_,au11⟩ (Nat.zero_le _) ?_ ?_
  · exact RB.cells rfl rfl gg (RnL.same rfl) (RB.cells rfl rfl gg (RnL.cons (Rn.same (Qap _)) (RnL.cons (Rn.same (QbE _)) (RnL.cons (Rn.x4 rfl rfl) RnL.nil))) (RB.newnil rfl rfl RB.nil))
  · rintro i hi
    by_cases hlt:i<c.ks.length
    · obtain ⟨x, hx⟩ := Qas hlt
      have hxm:=List.mem_of_getElem? hx
      have hdr:=Qff hx
      have hdl:3<=((c.ks.flatMap coZ).drop (i*3)).length:=by rw[hdr];simp
      have hsuc:=take_succ' hx
      have htl:(c.ks.take i).length=i:=by rw[List.length_take];omega
      have hcl:=clone149X x.2.1 (hkl x hxm)
      have hxl:=Qeg (c.ks.take i)
      rw[htl]at hxl
      simp(disch:=first|omega|exact PairsOK.mk rfl|(simp only[lenW]<;>omega)) only[hlt,hdr,hdl,htl,wW,wV,simprocAttr]
      refine cp hcl ?_
      simp(disch:=first|omega|exact PairsOK.mk rfl|(simp only[lenW]<;>omega)) only[hxl,wW,wV,simprocAttr]
      refine⟨i+1,by omega,by omega,?_⟩
      rw[hsuc,List.length_append,List.flatMap_append,htl,QlQ]
      refine⟨[(51,.blk 51 0),(52,.blk 52 0),(78,.blk 78 1)],rfl,au0,?_,au11⟩
      exact RB.cells rfl rfl gg (RnL.same rfl) (RB.cells rfl rfl gg (RnL.cons (Rn.same (Qap _)) (RnL.cons (Rn.same (QbE _)) (RnL.cons (Rn.x1 rfl rfl) RnL.nil))) (RB.cells rfl rfl gg (RnL.same (SU.Qcp (Qbr _) (by rw[noRefs,noRefs,QaV];rfl))) RB.nil))
    · have e : i = c.ks.length := by omega
      subst e
      simp(disch:=first|omega|exact PairsOK.mk rfl|(simp only[lenW]<;>omega)) only[hlt,List.take_length,wW,wV,simprocAttr]
      refine⟨(),?_⟩
      refine⟨[(51,.blk 51 0),(52,.blk 52 0)],rfl,au0,?_,au11⟩
      exact RB.cells rfl rfl gg (RnL.same rfl) (RB.cells rfl rfl gg (RnL.cons (Rn.same (Qap _)) (RnL.cons (Rn.same (QbE _)) (RnL.cons (Rn.fzm rfl rfl rfl rfl (Qeg _) (RnL.same (Qbr _))) RnL.nil))) RB.nil)
  rintro _ _
  simp(disch:=first|omega|exact PairsOK.mk rfl|(simp only[lenW]<;>omega)) only[wW,wV,simprocAttr]
  refine⟨.inr trivial,_,rfl,?_⟩
  exact Rn.same (by rw[noRef];exact Qb1)
end Go.AM.SO
namespace Go.AM.SO
open Go.Proofs Go.AM.SD Go.AM.SE
def grB (n:Int):Bool:=decide (n< -65536\/65536<n)
theorem great190X (n:Int):PSpec Tryz.prog 216 [.int .i64 n] (.bool (grB n)):=by
  refine PSpec.Qak 64 ok216 rfl rfl rfl ?_
  unfold grB
  by_cases g1:n< -65536
  · simp (disch := first | omega | exact PairsOK.mk rfl | (simp only [lenW] <;> omega)) only [s216, g1, wW, wV, simprocAttr]
    exact⟨.inr trivial,_,rfl,by simp[g1,resOf,Qat]⟩
  · by_cases g2 : 65536 < n
    · simp (disch := first | omega | exact PairsOK.mk rfl | (simp only [lenW] <;> omega)) only [s216, g1, g2, wW, wV, simprocAttr]
      exact⟨.inr trivial,_,rfl,by simp[g1,g2,resOf,Qat]⟩
    · simp (disch := first | omega | exact PairsOK.mk rfl | (simp only [lenW] <;> omega)) only [s216, g1, g2, wW, wV, simprocAttr]
      exact⟨.inr trivial,_,rfl,by simp[g1,g2,resOf,Qat]⟩
def exEr (S:List Int) (l:List (Int×Int)) (i:Nat):Int:=
 let x:=l.getD i (0,0)
 let y:=l.getD (i-1) (0,0)
 if x.1<0\/(S.length:Int)<=x.1 then 2 else if 0<i/\x.1<=y.1 then 5 else if x.2<0\/S.getD x.1.toNat 0<=x.2 then 2 else 0
theorem QlR {S:List Int} {l:List (Int×Int)} {i:Nat} {x:Int×Int} (h:l[i]?=some x):exEr S l i=if x.1<0\/(S.length:Int)<=x.1 then 2 else if 0<i/\x.1<=(l.getD (i-1) (0,0)).1 then 5 else if x.2<0\/S.getD x.1.toNat 0<=x.2 then 2 else 0:=by unfold exEr;rw[QaB h]
def exErr (S:List Int) (l:List (Int×Int)):Int:=if l.length=0 then 12 else fe (exEr S l) l.length
theorem QbK {S:List Int} {l:List (Int×Int)} (hl0:l.length≠0) (e:Int) (h:fe (exEr S l) l.length=e) (_:e≠0):exErr S l=e:=(if_neg hl0).trans h
theorem _root_.Go.AM.au12 {p:Prop} (h:p:=by repeat (first|exact RT.nil|(refine RT.cons ?_ ?_; · (first|exact Rn.any|exact Rn.x1 rfl rfl|exact Rn.x2 rfl rfl|exact Rn.x3 rfl rfl|exact Rn.x4 rfl rfl|exact Rn.x5 rfl|exact Rn.x6 rfl|exact Rn.x7 rfl|(refine Rn.slot ?_ ?_;(first|rfl|(rw[Int.natCast_add];rfl));(first|rfl|(simp only[noRef,noRefs,Qam,Bool.and_self,Bool.and_true,Bool.true_and,Qab,Qap,Qaj,QcU];done)))|(refine Rn.fn ?_ ?_<;>(repeat' (first|exact RnL.nil|refine RnL.cons ?_ ?_|exact Rn.same rfl|exact Rn.x6 rfl|exact Rn.x2 rfl rfl|exact Rn.x5 rfl|exact Rn.x1 rfl rfl))))))):p:=h
theorem excl103X (S : List Int) (xs : List Exn) (ks : List Con) (x : Exn) (hl : x.2.length <= 8796093021952) :
    PSpec Tryz.prog 136 [cdZ S xs ks,.agg (exZ x)] (.int .i64 (exErr S x.2)):=by
  obtain⟨nm,l⟩:=x
  dsimp only at hl
  have hex:exZ (nm,l)=[.str nm,prs l]:=rfl
  rw[hex]
  have hnr1:=@Qb1 S xs ks
  have hnr2:noRefs [.str nm,prs l]=true:=by rw[noRefs,noRefs,QaV];rfl
  refine PSpec.Qak 64 ok136 rfl (by rw[noRefs,noRefs,noRef,noRef,hnr1,hnr2];rfl) rfl ?_
  have hll:=Qcn l
  by_cases hz:l.length=0
  · have hl0 : (l.length : Int) = 0 := by omega
    simp(disch:=first|omega|exact PairsOK.mk rfl|(simp only[lenW]<;>omega)) only[s136,hl0,wW,wV,simprocAttr]
    exact⟨.inr trivial,_,rfl,by rw[exErr,if_pos hz];rfl⟩
  have hl0:=hz
  have hl1:¬(l.length:Int)=0:=by omega
  simp(disch:=first|omega|exact PairsOK.mk rfl|(simp only[lenW]<;>omega)) only[s136,hl1,wW,wV,simprocAttr]
  refine Qa3 100 (fun i:Nat=>[(2,.ptr 50 0 0),(3,.ptr 51 0 0),(12,prs l),(13,.int .i64 l.length),(14,.int .i64 i)]) (fun _=>[(50,.cells 0 (cdK S xs ks)),(51,.cells 0 [.str nm,prs l])]) (fun i=>i<=l.length/\∀j,j<i->exEr S l j=0) (fun i=>l.length-i) 0 ?_ ⟨Nat.zero_le _,fun j hj=>absurd hj (Nat.not_lt_zero _)⟩ ?_
  · refine ⟨[(50, .blk 64 0), (51, .blk 65 0)], rfl, au0, ?_, au12⟩
    exact RB.cells rfl rfl gg (RnL.same hnr1) (RB.cells rfl rfl gg (RnL.same hnr2) RB.nil)
  rintro i ⟨hi,hb⟩
  by_cases hlt:i<l.length
  · obtain ⟨x, hx⟩ := Qas hlt
    have hdr:=Qed hx
    have hdl:2<=((l.flatMap prZ).drop (i*2)).length:=by rw[hdr];simp
    have at0:∀e:Int,exEr S l i=e->e≠0->fe (exEr S l) l.length=e:=fun e h h0=>fe_at h h0 hb hlt
    have up:exEr S l i=0->∀j,j<i+1->exEr S l j=0:=fe_up hb
    have ke:=QlR (S:=S) hx
    rw[ke]at at0 up
    clear ke
    obtain⟨c,s⟩:=x
    dsimp only at*
    by_cases h1:c<0
    · simp (disch := first | omega | exact PairsOK.mk rfl | (simp only [lenW] <;> omega)) only [hlt, hdr, hdl, h1, wW, wV, simprocAttr]
      exact⟨.inr trivial,_,rfl,by rw[QbK hl0 2 (at0 2 (by rw[if_pos (.inl h1)]) (by decide)) (by decide)];rfl⟩
    by_cases h2:(S.length:Int)<=c
    · simp (disch := first | omega | exact PairsOK.mk rfl | (simp only [lenW] <;> omega)) only [hlt, hdr, hdl, h1, h2, wW, wV, simprocAttr]
      exact⟨.inr trivial,_,rfl,by rw[QbK hl0 2 (at0 2 (by rw[if_pos (.inr h2)]) (by decide)) (by decide)];rfl⟩
    have h12:¬(c<0\/(S.length:Int)<=c):=by omega
    rw[if_neg h12]at at0 up
    obtain⟨k,rfl⟩:∃k:Nat,c=k:=⟨c.toNat,by omega⟩
    have hks:k<S.length:=by omega
    obtain⟨z,hz⟩:=Qas hks
    have hgz:S.getD k 0=z:=QaB hz
    try simp only[Int.toNat_natCast,hgz]at at0 up
    have hh2:¬(S.length:Int)<=(k:Int):=by omega
    by_cases h0:i=0
    · have h4 : ¬ (0 : Int) < (i : Int) := by omega
      rw[if_neg (by omega)]at at0 up
      by_cases q1:s<0
      · simp (disch := first | omega | exact PairsOK.mk rfl | (simp only [lenW] <;> omega)) only [hlt, hdr, hdl, h1, hh2, h4, q1, wW, wV, simprocAttr]
        exact⟨.inr trivial,_,rfl,by rw[QbK hl0 2 (at0 2 (by rw[if_pos (.inl q1)]) (by decide)) (by decide)];rfl⟩
      by_cases q2:z<=s
      · simp (disch := first | omega | exact PairsOK.mk rfl | (simp only [lenW] <;> omega)) only [hlt, hdr, hdl, h1, hh2, h4, q1, q2, Qaw hz, hks, wW, wV, simprocAttr]
        exact⟨.inr trivial,_,rfl,by rw[QbK hl0 2 (at0 2 (by rw[if_pos (.inr q2)]) (by decide)) (by decide)];rfl⟩
      simp(disch:=first|omega|exact PairsOK.mk rfl|(simp only[lenW]<;>omega)) only[hlt,hdr,hdl,h1,hh2,h4,q1,q2,Qaw hz,hks,wW,wV,simprocAttr]
      refine⟨i+1,by omega,⟨by omega,up (by rw[if_neg (by omega)])⟩,?_⟩
      refine⟨[(50,.blk 50 0),(51,.blk 51 0)],rfl,au0,?_,au12⟩
      exact RB.cells rfl rfl gg (RnL.same hnr1) (RB.cells rfl rfl gg (RnL.same hnr2) RB.nil)
    · obtain ⟨y, hy⟩ := Qas (l := l) (i := i - 1) (by omega)
      have hdr':=Qed hy
      have hgy:l.getD (i-1) (0,0)=y:=QaB hy
      have h4:(0:Int)<(i:Int):=by omega
      have h5:(i:Int)-1=((i-1:Nat):Int):=by omega
      have h6:((i-1:Nat):Int)<l.length:=by omega
      have h7:i-1<l.length:=by omega
      rw[hgy]at at0 up
      by_cases h3:(k:Int)<=y.1
      · simp (disch := first | omega | exact PairsOK.mk rfl | (simp only [lenW] <;> omega)) only [hlt, hdr, hdl, h1, hh2, h4, h5, h6, h7, hdr', h3, wW, wV, simprocAttr]
        exact⟨.inr trivial,_,rfl,by rw[QbK hl0 5 (at0 5 (by rw[if_pos ⟨by omega,h3⟩]) (by decide)) (by decide)];rfl⟩
      rw[if_neg (by omega)]at at0 up
      by_cases q1:s<0
      · simp (disch := first | omega | exact PairsOK.mk rfl | (simp only [lenW] <;> omega)) only [hlt, hdr, hdl, h1, hh2, h4, h5, h6, h7, hdr', h3, q1, wW, wV, simprocAttr]
        exact⟨.inr trivial,_,rfl,by rw[QbK hl0 2 (at0 2 (by rw[if_pos (.inl q1)]) (by decide)) (by decide)];rfl⟩
      by_cases q2:z<=s
      · simp (disch := first | omega | exact PairsOK.mk rfl | (simp only [lenW] <;> omega)) only [hlt, hdr, hdl, h1, hh2, h4, h5, h6, h7, hdr', h3, q1, q2, Qaw hz, hks, wW, wV, simprocAttr]
        exact⟨.inr trivial,_,rfl,by rw[QbK hl0 2 (at0 2 (by rw[if_pos (.inr q2)]) (by decide)) (by decide)];rfl⟩
      simp(disch:=first|omega|exact PairsOK.mk rfl|(simp only[lenW]<;>omega)) only[hlt,hdr,hdl,h1,hh2,h4,h5,h6,h7,hdr',h3,q1,q2,Qaw hz,hks,wW,wV,simprocAttr]
      refine⟨i+1,by omega,⟨by omega,up (by rw[if_neg (by omega)])⟩,?_⟩
      refine⟨[(50,.blk 50 0),(51,.blk 51 0)],rfl,au0,?_,au12⟩
      exact RB.cells rfl rfl gg (RnL.same hnr1) (RB.cells rfl rfl gg (RnL.same hnr2) RB.nil)
  · simp (disch := first | omega | exact PairsOK.mk rfl | (simp only [lenW] <;> omega)) only [hlt, wW, wV, simprocAttr]
    exact⟨.inr trivial,_,rfl,by rw[exErr,if_neg hl0,Qbb fun j hj=>hb j (by omega)];rfl⟩
def coEr (S:List Int) (l:List (Int×Int)) (i:Nat):Int:=
 let x:=l.getD i (0,0)
 let y:=l.getD (i-1) (0,0)
 if x.1<0\/(S.length:Int)<=x.1 then 2 else if 0<i/\x.1<=y.1 then 5 else if x.2=0\/grB x.2=true then 2 else 0
theorem QlS {S:List Int} {l:List (Int×Int)} {i:Nat} {x:Int×Int} (h:l[i]?=some x):coEr S l i=if x.1<0\/(S.length:Int)<=x.1 then 2 else if 0<i/\x.1<=(l.getD (i-1) (0,0)).1 then 5 else if x.2=0\/grB x.2=true then 2 else 0:=by unfold coEr;rw[QaB h]
def coErr (S:List Int) (l:List (Int×Int)) (bd:Int):Int:=if l.length=0 then 12 else if fe (coEr S l) l.length≠0 then fe (coEr S l) l.length else if grB bd=true then 2 else 0
theorem QbL {S:List Int} {l:List (Int×Int)} {bd:Int} (hl0:l.length≠0) (e:Int) (h:fe (coEr S l) l.length=e) (he:e≠0):coErr S l bd=e:=(if_neg hl0).trans ((if_pos (by rw[h];exact he)).trans h)
theorem cons105X (S : List Int) (xs : List Exn) (ks : List Con) (x : Con) (hl : x.2.1.length <= 8796093021952) :
    PSpec Tryz.prog 138 [cdZ S xs ks,.agg (coZ x)] (.int .i64 (coErr S x.2.1 x.2.2)):=by
  obtain⟨nm,l,bd⟩:=x
  dsimp only at hl
  have hex:coZ (nm,l,bd)=[.str nm,prs l,.int .i64 bd]:=rfl
  rw[hex]
  have hnr1:=@Qb1 S xs ks
  have hnr2:noRefs [.str nm,prs l,.int .i64 bd]=true:=by rw[noRefs,noRefs,QaV];rfl
  refine PSpec.Qak 64 ok138 rfl (by rw[noRefs,noRefs,noRef,noRef,hnr1,hnr2];rfl) rfl ?_
  have hll:=Qcn l
  by_cases hz:l.length=0
  · have hl0 : (l.length : Int) = 0 := by omega
    simp(disch:=first|omega|exact PairsOK.mk rfl|(simp only[lenW]<;>omega)) only[s138,hl0,wW,wV,simprocAttr]
    exact⟨.inr trivial,_,rfl,by rw[coErr,if_pos hz];rfl⟩
  have hl0:=hz
  have hl1:¬(l.length:Int)=0:=by omega
  simp(disch:=first|omega|exact PairsOK.mk rfl|(simp only[lenW]<;>omega)) only[s138,hl1,wW,wV,simprocAttr]
  refine Qa3 100 (fun i:Nat=>[(2,.ptr 50 0 0),(3,.ptr 51 0 0),(12,prs l),(13,.int .i64 l.length),(14,.int .i64 i)]) (fun _=>[(50,.cells 0 (cdK S xs ks)),(51,.cells 0 [.str nm,prs l,.int .i64 bd])]) (fun i=>i<=l.length/\∀j,j<i->coEr S l j=0) (fun i=>l.length-i) 0 ?_ ⟨Nat.zero_le _,fun j hj=>absurd hj (Nat.not_lt_zero _)⟩ ?_
  · refine ⟨[(50, .blk 64 0), (51, .blk 65 0)], rfl, au0, ?_, au12⟩
    exact RB.cells rfl rfl gg (RnL.same hnr1) (RB.cells rfl rfl gg (RnL.same hnr2) RB.nil)
  rintro i ⟨hi,hb⟩
  by_cases hlt:i<l.length
  · obtain ⟨x, hx⟩ := Qas hlt
    have hdr:=Qed hx
    have hdl:2<=((l.flatMap prZ).drop (i*2)).length:=by rw[hdr];simp
    have at0:∀e:Int,coEr S l i=e->e≠0->fe (coEr S l) l.length=e:=fun e h h0=>fe_at h h0 hb hlt
    have up:coEr S l i=0->∀j,j<i+1->coEr S l j=0:=fe_up hb
    have ke:=QlS (S:=S) hx
    rw[ke]at at0 up
    clear ke
    obtain⟨c,s⟩:=x
    dsimp only at*
    by_cases h1:c<0
    · simp (disch := first | omega | exact PairsOK.mk rfl | (simp only [lenW] <;> omega)) only [hlt, hdr, hdl, h1, wW, wV, simprocAttr]
      exact⟨.inr trivial,_,rfl,by rw[QbL hl0 2 (at0 2 (by rw[if_pos (.inl h1)]) (by decide)) (by decide)];rfl⟩
    by_cases h2:(S.length:Int)<=c
    · simp (disch := first | omega | exact PairsOK.mk rfl | (simp only [lenW] <;> omega)) only [hlt, hdr, hdl, h1, h2, wW, wV, simprocAttr]
      exact⟨.inr trivial,_,rfl,by rw[QbL hl0 2 (at0 2 (by rw[if_pos (.inr h2)]) (by decide)) (by decide)];rfl⟩
    have h12:¬(c<0\/(S.length:Int)<=c):=by omega
    rw[if_neg h12]at at0 up
    obtain⟨k,rfl⟩:∃k:Nat,c=k:=⟨c.toNat,by omega⟩
    have hks:k<S.length:=by omega
    obtain⟨z,hz⟩:=Qas hks
    have hgz:S.getD k 0=z:=QaB hz
    try simp only[Int.toNat_natCast,hgz]at at0 up
    have hh2:¬(S.length:Int)<=(k:Int):=by omega
    by_cases h0:i=0
    · have h4 : ¬ (0 : Int) < (i : Int) := by omega
      rw[if_neg (by omega)]at at0 up
      by_cases q1:s=0
      · subst q1
        simp(disch:=first|omega|exact PairsOK.mk rfl|(simp only[lenW]<;>omega)) only[hlt,hdr,hdl,h1,hh2,h4,wW,wV,simprocAttr]
        exact⟨.inr trivial,_,rfl,by rw[QbL hl0 2 (at0 2 (by rw[if_pos (.inl rfl)]) (by decide)) (by decide)];rfl⟩
      have hg:=great190X s
      cases q2:grB s with
      | true =>
        rw[q2]at hg
        simp(disch:=first|omega|exact PairsOK.mk rfl|(simp only[lenW]<;>omega)) only[hlt,hdr,hdl,h1,hh2,h4,q1,wW,wV,simprocAttr]
        refine cp hg ?_
        simp(disch:=first|omega|exact PairsOK.mk rfl|(simp only[lenW]<;>omega)) only[wW,wV,simprocAttr]
        exact⟨.inr trivial,_,rfl,by rw[QbL hl0 2 (at0 2 (by rw[if_pos (.inr q2)]) (by decide)) (by decide)];rfl⟩
      | false =>
        rw[q2]at hg
        simp(disch:=first|omega|exact PairsOK.mk rfl|(simp only[lenW]<;>omega)) only[hlt,hdr,hdl,h1,hh2,h4,q1,wW,wV,simprocAttr]
        refine cp hg ?_
        simp(disch:=first|omega|exact PairsOK.mk rfl|(simp only[lenW]<;>omega)) only[wW,wV,simprocAttr]
        refine⟨i+1,by omega,⟨by omega,up (by rw[if_neg (fun h=>h.elim q1 fun h=>by rw[q2]at h;cases h)])⟩,?_⟩
        refine⟨[(50,.blk 50 0),(51,.blk 51 0)],rfl,au0,?_,au12⟩
        exact RB.cells rfl rfl gg (RnL.same hnr1) (RB.cells rfl rfl gg (RnL.same hnr2) RB.nil)
    · obtain ⟨y, hy⟩ := Qas (l := l) (i := i - 1) (by omega)
      have hdr':=Qed hy
      have hgy:l.getD (i-1) (0,0)=y:=QaB hy
      have h4:(0:Int)<(i:Int):=by omega
      have h5:(i:Int)-1=((i-1:Nat):Int):=by omega
      have h6:((i-1:Nat):Int)<l.length:=by omega
      have h7:i-1<l.length:=by omega
      rw[hgy]at at0 up
      by_cases h3:(k:Int)<=y.1
      · simp (disch := first | omega | exact PairsOK.mk rfl | (simp only [lenW] <;> omega)) only [hlt, hdr, hdl, h1, hh2, h4, h5, h6, h7, hdr', h3, wW, wV, simprocAttr]
        exact⟨.inr trivial,_,rfl,by rw[QbL hl0 5 (at0 5 (by rw[if_pos ⟨by omega,h3⟩]) (by decide)) (by decide)];rfl⟩
      rw[if_neg (by omega)]at at0 up
      by_cases q1:s=0
      · subst q1
        simp(disch:=first|omega|exact PairsOK.mk rfl|(simp only[lenW]<;>omega)) only[hlt,hdr,hdl,h1,hh2,h4,h5,h6,h7,hdr',h3,wW,wV,simprocAttr]
        exact⟨.inr trivial,_,rfl,by rw[QbL hl0 2 (at0 2 (by rw[if_pos (.inl rfl)]) (by decide)) (by decide)];rfl⟩
      have hg:=great190X s
      cases q2:grB s with
      | true =>
        rw[q2]at hg
        simp(disch:=first|omega|exact PairsOK.mk rfl|(simp only[lenW]<;>omega)) only[hlt,hdr,hdl,h1,hh2,h4,h5,h6,h7,hdr',h3,q1,wW,wV,simprocAttr]
        refine cp hg ?_
        simp(disch:=first|omega|exact PairsOK.mk rfl|(simp only[lenW]<;>omega)) only[wW,wV,simprocAttr]
        exact⟨.inr trivial,_,rfl,by rw[QbL hl0 2 (at0 2 (by rw[if_pos (.inr q2)]) (by decide)) (by decide)];rfl⟩
      | false =>
        rw[q2]at hg
        simp(disch:=first|omega|exact PairsOK.mk rfl|(simp only[lenW]<;>omega)) only[hlt,hdr,hdl,h1,hh2,h4,h5,h6,h7,hdr',h3,q1,wW,wV,simprocAttr]
        refine cp hg ?_
        simp(disch:=first|omega|exact PairsOK.mk rfl|(simp only[lenW]<;>omega)) only[wW,wV,simprocAttr]
        refine⟨i+1,by omega,⟨by omega,up (by rw[if_neg (fun h=>h.elim q1 fun h=>by rw[q2]at h;cases h)])⟩,?_⟩
        refine⟨[(50,.blk 50 0),(51,.blk 51 0)],rfl,au0,?_,au12⟩
        exact RB.cells rfl rfl gg (RnL.same hnr1) (RB.cells rfl rfl gg (RnL.same hnr2) RB.nil)
  · have hz := Qbb (f := coEr S l) (n := l.length) fun j hj => hb j (by omega)
    have hg:=great190X bd
    cases q2:grB bd with
    | true =>
      rw[q2]at hg
      simp(disch:=first|omega|exact PairsOK.mk rfl|(simp only[lenW]<;>omega)) only[hlt,wW,wV,simprocAttr]
      refine cp hg ?_
      simp(disch:=first|omega|exact PairsOK.mk rfl|(simp only[lenW]<;>omega)) only[wW,wV,simprocAttr]
      exact⟨.inr trivial,_,rfl,by rw[coErr,if_neg hl0,if_neg (fun h=>h hz),if_pos q2];rfl⟩
    | false =>
      rw[q2]at hg
      simp(disch:=first|omega|exact PairsOK.mk rfl|(simp only[lenW]<;>omega)) only[hlt,wW,wV,simprocAttr]
      refine cp hg ?_
      simp(disch:=first|omega|exact PairsOK.mk rfl|(simp only[lenW]<;>omega)) only[wW,wV,simprocAttr]
      exact⟨.inr trivial,_,rfl,by rw[coErr,if_neg hl0,if_neg (fun h=>h hz),if_neg (by rw[q2];decide)];rfl⟩
end Go.AM.SO
namespace Go.AM
variable {P:Program}
theorem RSpec.of_wS {b N n:Nat} {T:Tmps} {ps:List Nat} {asg body:SCode} {args:List AV} {h h':Heap} {v:AV} (hn:(noLoop asg&&noLoop body)=true) (hb:h.get b=some (.loop 0 N T ps (.s asg) (.s body) .ready))
  (hl:Nat.blt b 1099511627775=true) (hlen:args.length=ps.length) (hps:(ps.all fun p=>Nat.blt p N)=true)
  (hw : wS P ⟨N, 0⟩ asg [] n (upsT T ps args) h fun e T1 h1 n1 => e = .normal /\ h1.get b = some (.loop 0 N T ps (.s asg) (.s body) .ready) /\
   wS P ⟨N,0⟩ body [] n1 T1 (h1.set b (.loop 0 N T ps (.s asg) (.s body) .busy)) fun e T2 h2 _=>h2.get b=some (.loop 0 N T ps (.s asg) (.s body) .busy)/\v= .bool e.isNormal/\∀x,(h2.set b (.loop 0 N T ps (.s asg) (.s body) (stOf e))).get x=h'.get x):RSpec P b 0 args h v h':=by
 simp only[Bool.and_eq_true]at hn
 refine RSpec.of_W hb (by simpa[lim]using hl) hlen (fun p hp=>by simp_all) ((wpC.toW1 hn.1 hw).mono ?_)
 rintro e B ⟨n1,rfl,h1,h2⟩
 refine⟨rfl,N,T,ps,.s asg,.s body,h1,(wpC.toW1 hn.2 h2).mono ?_⟩
 rintro e C ⟨n2,k1,k2,k3⟩
 grind
section
variable {k m n:Nat} {T:Tmps} {h:Heap} {Q:QC} {fs:List Fr}
theorem QcV {g:Opd} {ps:List Nat} {asg body:SCode} {f b n':Nat} {first cap:List AV} {v:AV} {h2:Heap} {T' T2:Tmps} {L:HL} {N2:Nat} {ps2:List Nat} {as2 body2:LCode} {st:LSt} (hr:Rec m T' L T h) (hg:ev T' g= .fn f first cap) (hb:(hp L).get b=none) (hl:Nat.blt b 1099511627775=true)
  (hs:HSpec P f (first++[.yld b 0]++cap) ((hp L).set b (.loop 0 k T' ps (.s asg) (.s body) .ready)) v h2) (hst:h2.get b=some (.loop 0 N2 T2 ps2 as2 body2 st))
  (hQ:leftQ (fun e B=>wX P ⟨k,m⟩ e fs n' B.T B.h Q) ⟨T',h2.set b (.dead 0)⟩ st):wS P ⟨k,m⟩ (.rfunc g ps k asg body) fs n T h Q:=by
 show W2 P ⟨k,m⟩ (.rfunc g ps k asg body) (fun e B=>∃n,ct P ⟨k,m⟩ fs Q e B.T B.h n) ⟨T,h⟩
 refine W2.recL hr (W2.of_W (W.rfunc (las:= .s asg) (lbody:= .s body) rfl rfl hg hb (by simpa[lim]using hl) hs hst ?_))
 cases st with
 |ready=>exact⟨n',hQ⟩
 |busy=>exact hQ
 |done e=>exact⟨hQ.1,n',hQ.2⟩
theorem cy {N:NM} {b g:Nat} {args:List AV} {v:AV} {h1:Heap} {d:Option Nat} {ops:List SOper} {dead:List Nat} (hR:RSpec P b g args h v h1) (hk:wR P N ops dead fs (n+1) (putD T d v) h1 Q):wCall P N .heap (.yld b g) args d ops dead fs n T h Q:=⟨_,_,hR,hk⟩
section
variable {α:Type} {env:α->Tmps} {H:α->Heap} {I:α->Prop} {μ:α->Nat} {a:α}
end
end
end Go.AM
