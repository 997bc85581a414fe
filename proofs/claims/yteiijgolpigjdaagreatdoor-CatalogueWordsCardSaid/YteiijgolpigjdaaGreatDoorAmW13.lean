/- A part of the proof of CatalogueWordsCardSaid: lemmas on the way (AmU, AmUa, AnDj, AnBx, AnBa, AnBb, AnBc, AnBd, AnBe, AnBf, AnBg, AnDk, AnBi, AnBj). Conditions: none of ours. -/
import Derived.OpenShut
import Derived.Test.YteiijgolpigjdaaGreatDoorProg
import Derived.KernelRfl
import Derived.Test.YteiijgolpigjdaaGreatDoorAmW12
set_option linter.unusedSectionVars false
set_option maxHeartbeats 32000000
set_option maxRecDepth 100000
set_option linter.unusedVariables false
set_option linter.unusedSimpArgs false
namespace Go.AM
variable{ok:Okc}
open Go.ChangeShapes Go.WideShapes
def inF(w:World)(k:Nat):Prop:=k<w.heap.size
end Go.AM
namespace Go.AM
open Go.ChangeShapes Go.WideShapes
inductive Ty where|int(k:IntKind)|bool|str|arr(n:Nat)(t:Ty)|sl(t:Ty)|st(fs:Ty)|unit|pair(a b:Ty)
def Ty.sz:Ty->Nat|.int _|.bool|.str|.sl _=>1|.arr n t=>n*t.sz|.st fs=>fs.sz|.unit=>0|.pair a b=>a.sz+b.sz
abbrev Ty.D:Ty->Type|.int _=>Int|.bool=>Bool|.str=>List UInt8|.arr _ t|.sl t=>List t.D|.st fs=>fs.D|.unit=>Unit|.pair a b=>a.D×b.D
def Ty.cells:(t:Ty)->t.D->List AV|.int k,n=>[.int k n]|.bool,b=>[.bool b]|.str,s=>[.str s]|.arr _ t,l=>List.flatMap (Ty.cells t) l|.sl t,l=>[.fsl (List.flatMap (Ty.cells t) l) (List.length l) t.sz]|.st fs,d=>Ty.cells fs d|.unit,_=>[]|.pair a b,d=>Ty.cells a d.1++Ty.cells b d.2
def Ty.wf:(t:Ty)->t.D->Prop|.int k,n=>(Lit.int k n).wf=true|.bool,_=>True|.str,s=>List.length s<=9223372036854775807|.arr n t,l=>List.length l=n/\∀x∈(show List t.D from l),Ty.wf t x|.sl t,l=>List.length l<=9223372036854775807/\∀x∈(show List t.D from l),Ty.wf t x|.st fs,d=>Ty.wf fs d|.unit,_=>True|.pair a b,d=>Ty.wf a d.1/\Ty.wf b d.2
def eltT(P:Program)(a:List TypeId):List TypeId:=match a with|t::_=>(match P.underlying t with|some (.slice e)=>[e]|some (.array _ e)=>[e]|_=>[])|[]=>[]
def fldT(P:Program)(a:List TypeId):List TypeId:=match a with|t::_=>(match P.underlying t with|some (.struct l)=>l.toList.map (·.type)|_=>[])|[]=>[]
def Ty.sized(P:Program):(t:Ty)->List TypeId->t.D->Prop|.arr _ t,c,l=>∀x∈(show List t.D from l),Ty.sized P t (eltT P c) x|.sl t,c,l=>(∀e∈eltT P c,List.length l*P.bytesOf e<=reachBytes)/\∀x∈(show List t.D from l),Ty.sized P t (eltT P c) x|.st fs,c,d=>Ty.sized P fs (fldT P c) d|.pair a b,c,d=>Ty.sized P a (c.take 1) d.1/\Ty.sized P b c.tail d.2|_,_,_=>True
theorem Qdk{H:Type}{P:Program}{e:TypeId}{q:Nat->Bool}:∀{l:List (DataW H)}{d:DataW H},d∈l->(DataW.weightsAll P e l).all q=true->(d.weights P e).all q=true
 |x::l,d,a,h=>by
  simp only[DataW.weightsAll,List.all_append,Bool.and_eq_true]at h;rcases List.mem_cons.1 a with rfl|a;·exact h.1
  exact Qdk a h.2
mutual def okTy(P:Program):Ty->TypeId->Bool
 |.int k,t=>match P.underlying t with|some (.int k')=>k'==k|_=>false
 |.bool,t=>match P.underlying t with|some .bool=>true|_=>false
 |.str,t=>match P.underlying t with|some .string=>true|_=>false
 |.arr n e,t=>match P.underlying t with|some (.array m u)=>n==m&&okTy P e u&&P.cellsOf u==e.sz&&P.cellsOf t==n*e.sz|_=>false
 |.sl e,t=>match P.underlying t with|some (.slice u)=>okTy P e u&&P.cellsOf u==e.sz&&Nat.blt 0 e.sz|_=>false
 |.st fs,t=>match P.underlying t with|some (.struct l)=>okFs P fs l.toList 0&&P.cellsOf t==fs.sz|_=>false
 |_,_=>false termination_by structural ty=>ty def okFs(P:Program):Ty->List Field->Nat->Bool
 |.unit,l,_=>match l with|[]=>true|_=>false
 |.pair a b,l,off=>match l with|f::l=>f.offset==off&&okTy P a f.type&&P.cellsOf f.type==a.sz&&okFs P b l (off+a.sz)|_=>false
 |_,_,_=>false termination_by structural ty=>ty end
section
variable{ok:Okc}{H:Type}{enc:TypeId×Value->H}{P:Program}{W:World}{spare:Nat->Bool}
theorem Qdz:∀(t:Ty)(d:t.D),t.wf d->(t.cells d).length=t.sz
 |.int _,_,_=>rfl|.bool,_,_=>rfl|.str,_,_=>rfl|.sl _,_,_=>rfl|.unit,_,_=>rfl|.st fs,d,h=>Qdz fs d h|.pair a b,d,h=>by simp only[Ty.cells,Ty.sz,List.length_append,Qdz a d.1 h.1,Qdz b d.2 h.2]|.arr n t,l,h=>by
  obtain⟨h1,g⟩:=h;simp only[Ty.cells,Ty.sz,<-h1];have:∀(l:List t.D),(∀x∈l,t.wf x)->(l.flatMap t.cells).length=l.length*t.sz:=by intro l;induction l with|nil=>intro _;simp|cons x l i=>intro c;simp[List.flatMap_cons,Qdz t x (c x (by simp)),i fun y f=>c y (by simp[f]),Nat.succ_mul];omega
  exact this l g
theorem Qhl{α β:Type}{f:α->Option β}:∀{l:List α}{r:List β},l.mapM f=some r->r.length=l.length/\∀(i:Nat)(x:α),l[i]?=some x->∃y,f x=some y/\r[i]?=some y|[],r,h=>by simp_all|a::l,r,h=>by simp only[List.mapM_cons,Option.bind_eq_bind,Option.bind_eq_some_iff]at h;obtain⟨y,d,g,b,e⟩:=h;simp at e;subst e;obtain⟨h1,c⟩:=Qhl b;grind
theorem many{ok:Okc}{t:Ty}{R:t.D->Prop}{c:Ctx ok}{n:Nat}:∀{cs:List Value},(∀i,i<n->∃x:t.D,R x/\VRels c W (t.cells x) ((cs.drop (i*t.sz)).take t.sz))->n*t.sz<=cs.length->∃l:List t.D,l.length=n/\(∀x∈l,R x)/\VRels c W (l.flatMap t.cells) (cs.take (n*t.sz)):=by induction n with|zero=>intro cs _ _;exact⟨[],rfl,by simp,by simp[VRels]⟩|succ n d=>intro cs b f;obtain⟨x,h1,h⟩:=b 0 (by omega);rw[Nat.succ_mul]at f;obtain⟨l,g,j,a⟩:=d (cs:=cs.drop t.sz) (fun i hi=>by grind[List.drop_drop]) (by simp;omega);refine⟨x::l,by simp[g],by simp_all,?_⟩;rw[List.flatMap_cons,Nat.succ_mul,Nat.add_comm,List.take_add];refine Qbx ?_ a;simpa using h
mutual theorem Qgd:∀(ty:Ty)(t:TypeId)(fuel:Nat)(cs:List Value)(x:DataW H×List MemPlace),(∀b,spare b=true)->okTy P ty t=true->DataW.trod enc P W 0 spare true fuel t cs=some x->∃d:ty.D,(ty.wf d/\((x.1.weights P t).all (·<=reachBytes)=true->ty.sized P [t] d))/\VRels (only (ok:=ok) (inF W)) W (ty.cells d) cs:=by intro ty t fuel cs x hs ho h;match ty with
 |.int k=>
  simp only[okTy]at ho;split at ho<;>try(cases ho;done)
  rename_i k' hu;simp only[beq_iff_eq]at ho;subst ho;obtain⟨n,rfl,_,hw⟩:=DataW.trod_int hu h;exact⟨n,⟨hw,fun _=>trivial⟩,by simp[Ty.cells,VRels,VRel]⟩|.bool=>
  simp only[okTy]at ho;split at ho<;>try(cases ho;done)
  rename_i hu;obtain⟨b,rfl,_⟩:=DataW.trod_bool hu h;exact⟨b,⟨trivial,fun _=>trivial⟩,by simp[Ty.cells,VRels,VRel]⟩|.str=>
  simp only[okTy]at ho;split at ho<;>try(cases ho;done)
  rename_i hu;obtain⟨s,rfl,_,hl⟩:=DataW.trod_string hu h;refine⟨s.data.toList,⟨?_,fun _=>trivial⟩,?_⟩;·simp only[ByteArray.size,maxLen]at hl;simp_all[Ty.wf]
  ·simp[Ty.cells,VRels,VRel]|.unit=>simp[okTy]at ho|.pair a b=>simp[okTy]at ho|.st fs=>
  simp only[okTy]at ho;split at ho<;>try(cases ho;done)
  rename_i l hu;simp only[Bool.and_eq_true,beq_iff_eq]at ho;obtain⟨ho,hsz⟩:=ho;cases fuel with|zero=>simp[DataW.trod]at h|succ n=>
   unfold DataW.trod at h;rw[hu]at h;split at h<;>first|(simp_all;done)|skip
   rename_i fs' he;injection he with he;injection he with he;subst he;split at h
   ·rename_i hl;simp only[Option.map_eq_some_iff]at h;obtain⟨xs,hm,rfl⟩:=h;obtain⟨d,⟨h1,h3⟩,h2⟩:=QmM fs l.toList 0 n _ xs hs ho hm (by omega);refine⟨d,⟨h1,fun hw=>?_⟩,?_⟩;·simp only[DataW.weights,hu]at hw;show Ty.sized P fs (fldT P [t]) d;simp only[fldT,hu];exact h3 hw
    grind[Ty.cells]
   ·cases h
 |.arr m e=>
  simp only[okTy]at ho;split at ho<;>try(cases ho;done)
  rename_i m' u hu;simp only[Bool.and_eq_true,beq_iff_eq]at ho;obtain⟨⟨⟨rfl,ho⟩,hsz⟩,hst⟩:=ho;cases fuel with|zero=>simp[DataW.trod]at h|succ n=>
   unfold DataW.trod at h;rw[hu]at h;split at h<;>first|(simp_all;done)|skip
   rename_i m' u' he;injection he with he;injection he with he1 he2;subst he1;subst he2;split at h
   ·rename_i hl;simp only[Option.map_eq_some_iff]at h;obtain⟨xs,hm,rfl⟩:=h;obtain⟨g1,g2⟩:=Qhl hm;rw[hst]at hl;obtain⟨l,k1,k2,k3⟩:=many (t:=e) (R:=fun x=>e.wf x/\((DataW.weightsAll P u (xs.map (·.1))).all (·<=reachBytes)=true->e.sized P [u] x)) (c:=only (inF W)) (n:=m) (fun i hi=>by obtain⟨y,hy,hyx⟩:=g2 i i (by simp[hi]);rw[hsz]at hy;obtain⟨d,⟨j1,j2⟩,j3⟩:=Qgd e u n _ y hs ho hy;exact⟨d,⟨j1,fun hw=>j2 (Qdk (List.mem_map.2 ⟨y,List.mem_of_getElem? hyx,rfl⟩) hw)⟩,j3⟩) (by omega);refine⟨l,⟨⟨k1,fun x hx=>(k2 x hx).1⟩,fun hw=>?_⟩,?_⟩;·simp only[DataW.weights,hu]at hw;show∀x∈l,Ty.sized P e (eltT P [t]) x;simp only[eltT,hu];exact fun x hx=>(k2 x hx).2 hw
    rw[<-hl,List.take_length]at k3;exact k3
   ·cases h
 |.sl e=>
  simp only[okTy]at ho;split at ho<;>try(cases ho;done)
  rename_i u hu;simp only[Bool.and_eq_true,beq_iff_eq,Nat.blt_eq]at ho;obtain⟨⟨ho,hsz⟩,hpos⟩:=ho;rcases DataW.trod_slice hu h with⟨rfl,_⟩|⟨a,len,cap,elems,rest,n,_,rfl,rfl,_,hl,hm,hlen,hel,hsp,hns⟩;·exact⟨[],⟨⟨by simp,by simp⟩,fun _=>⟨fun _ _=>by simp,by simp⟩⟩,by simp[Ty.cells,VRels,VRel]⟩
  obtain⟨hrl,hr⟩:=hsp (hs _);have each:∀i,i<cap->∃cs,(w':W.cells? 0 (a.add (i*e.sz)) e.sz=some cs)->True:=fun _ _=>⟨[],fun _=>trivial⟩;have each:∀i,i<cap->∃cs y,W.cells? 0 (a.add (i*e.sz)) e.sz=some cs/\DataW.trod enc P W 0 spare true n u cs=some y:=by
   intro i hi;by_cases hil:i<len;·grind[Option.bind_eq_some_iff]
   ·have h1:=hr (i-len) (by omega);grind[Option.bind_eq_some_iff]
  by_cases h0:cap=0
  ·have :len=0:=by omega
   subst h0;subst this;exact⟨[],⟨⟨by simp,by simp⟩,fun _=>⟨fun _ _=>by simp,by simp⟩⟩,by simp[Ty.cells,VRels,VRel]⟩
  have cellsAt:∀i cs,W.cells? 0 (a.add (i*e.sz)) e.sz=some cs->cs.length=e.sz/\∀j,j<e.sz->W.cell? ((a.add (i*e.sz)).add j)=cs[j]?:=by intro i cs hcs;unfold World.cells? at hcs;rw[if_pos (Nat.zero_le _)]at hcs;obtain⟨g1,g2⟩:=Qhl hcs;refine⟨by simpa using g1,fun j hj=>?_⟩;obtain⟨y,k1,k2⟩:=g2 j j (by simp[hj]);rw[k1,k2]
  obtain⟨cs0,y0,hc0,_⟩:=each 0 (by omega);obtain⟨q1,q2⟩:=cellsAt 0 cs0 hc0;have hcell0:=q2 0 hpos;rw[List.getElem?_eq_getElem (by omega)]at hcell0;obtain⟨b,off,spot⟩:=a;have hspot:spot=none:=by simpa[Addr.add]using World.cell?_spot hcell0
  subst hspot;have hb:∃C e fr,W.heap[b]?=some (.cells C e fr):=by grind[World.cell?,Addr.add]
  obtain⟨C,et,fr,hb⟩:=hb;have hcell:∀i cs,W.cells? 0 ((⟨b,off,none⟩:Addr).add (i*e.sz)) e.sz=some cs->i<cap->(C.toList.drop (off+i*e.sz)).take e.sz=cs:=by
   intro i cs hcs hi;obtain⟨k1,k2⟩:=cellsAt i cs hcs;refine List.ext_getElem? fun j=>?_;by_cases hj:j<e.sz;·simp_all[Go.WideShapes.add_plain,World.cell?]
   grind
  have hCs:len*e.sz<=(C.toList.drop off).length:=by
   by_cases hl0:len=0;·subst hl0;simp
   obtain⟨cs,y,hcs,_⟩:=each (len-1) (by omega);have h1:=hcell (len-1) cs hcs (by omega);obtain⟨k1,_⟩:=cellsAt (len-1) cs hcs;have h2:=congrArg List.length h1;rw[k1,List.length_take,List.length_drop]at h2;rw[List.length_drop];have h3:len*e.sz=(len-1)*e.sz+e.sz:=by rw[<-Nat.succ_mul];congr 1;omega
   omega
  have eachL:∀i,i<len->∃cs y,W.cells? 0 ((⟨b,off,none⟩:Addr).add (i*e.sz)) e.sz=some cs/\DataW.trod enc P W 0 spare true n u cs=some y/\y∈elems:=by intro i hi;have h1:=hel i hi;rw[List.getElem?_eq_getElem (by omega),hsz,Option.bind_eq_some_iff]at h1;obtain⟨cs,hcs,hy⟩:=h1;exact⟨cs,_,hcs,hy,List.getElem_mem _⟩
  obtain⟨l,k1,k2,k3⟩:=many (t:=e) (R:=fun x=>e.wf x/\((DataW.weightsAll P u (elems.map (·.1))).all (·<=reachBytes)=true->e.sized P [u] x)) (c:=only (inF W)) (n:=len) (cs:=C.toList.drop off) (fun i hi=>by obtain⟨cs,y,hcs,hy,hyx⟩:=eachL i hi;rw[List.drop_drop,hcell i cs hcs (by omega)];obtain⟨d,⟨j1,j2⟩,j3⟩:=Qgd e u n cs y hs ho hy;exact⟨d,⟨j1,fun hw=>j2 (Qdk (List.mem_map.2 ⟨y,hyx,rfl⟩) hw)⟩,j3⟩) hCs;have k2':∀x∈l,e.wf x:=fun x hx=>(k2 x hx).1;refine⟨l,⟨⟨by grind[maxLen],k2'⟩,fun hw=>?_⟩,?_⟩
  ·replace hw:(DataW.weights P t (.slice (elems.map (·.1)) (rest.map (·.1)))).all (·<=reachBytes)=true:=hw;simp only[DataW.weights,hu,List.all_cons,List.all_append,Bool.and_eq_true,decide_eq_true_eq,List.length_map]at hw;refine⟨fun v hv=>?_,?_⟩;·simp only[eltT,hu,List.mem_singleton]at hv;subst hv;refine Nat.le_trans (Nat.mul_le_mul_right _ ?_) hw.1;show List.length l<=_;omega
   ·show∀x∈l,Ty.sized P e (eltT P [t]) x;simp only[eltT,hu];exact fun x hx=>(k2 x hx).2 hw.2.1
  simp only[Ty.cells,VRels,VRel];have hll:(l.flatMap e.cells).length=l.length*e.sz:=Qdz (.arr l.length e) l ⟨rfl,k2'⟩;refine⟨_,[],rfl,.inr ⟨b,off,cap,C,et,fr,by rw[k1],by omega,hll,Qbd hb,hb,?_⟩,rfl⟩;have:=Qg0 (vs:=(C.toList.drop off).drop (len*e.sz)) k3;rwa[List.take_append_drop]at this termination_by structural ty=>ty theorem QmM:∀(ty:Ty)(fs:List Field)(off fuel:Nat)(cs:List Value)(xs:List (DataW H×List MemPlace)),(∀b,spare b=true)->okFs P ty fs off=true->(fs.mapM fun f=>DataW.trod enc P W 0 spare true fuel f.type ((cs.drop f.offset).take (P.cellsOf f.type)))=some xs->off+ty.sz<=cs.length->∃d:ty.D,(ty.wf d/\((DataW.weightsEach P (fs.map (·.type)) (xs.map (·.1))).all (·<=reachBytes)=true->ty.sized P (fs.map (·.type)) d))/\VRels (only (ok:=ok) (inF W)) W (ty.cells d) ((cs.drop off).take ty.sz):=by intro ty fs off fuel cs xs hs ho h hl;match ty with
 |.unit=>exact⟨(),⟨trivial,fun _=>trivial⟩,by simp[Ty.cells,VRels,Ty.sz]⟩|.pair a b=>cases fs with|nil=>simp[okFs]at ho|cons f fs=>
  simp only[okFs,Bool.and_eq_true,beq_iff_eq]at ho;obtain⟨⟨⟨rfl,h1⟩,h2⟩,h3⟩:=ho;simp only[List.mapM_cons,Option.bind_eq_bind,Option.bind_eq_some_iff]at h;obtain⟨y,hy,ys,hys,hxs⟩:=h;have hxs:y::ys=xs:=by simpa using hxs
  subst hxs;rw[h2]at hy;simp only[Ty.sz]at hl;obtain⟨d1,⟨g1,w1⟩,g2⟩:=Qgd a f.type fuel _ y hs h1 hy;obtain⟨d2,⟨g3,w2⟩,g4⟩:=QmM b fs (f.offset+a.sz) fuel cs ys hs h3 hys (by omega);refine⟨(d1,d2),⟨⟨g1,g3⟩,fun hw=>?_⟩,?_⟩;·simp only[List.map_cons,DataW.weightsEach,List.all_append,Bool.and_eq_true]at hw;exact⟨w1 hw.1,w2 hw.2⟩
  simp only[Ty.cells,Ty.sz];rw[List.take_add];refine Qbx g2 ?_;rw[List.drop_drop];exact g4
 |.int _=>simp[okFs]at ho|.bool=>simp[okFs]at ho|.str=>simp[okFs]at ho|.arr _ _=>simp[okFs]at ho|.sl _=>simp[okFs]at ho|.st _=>simp[okFs]at ho termination_by structural ty=>ty end
def Ty.val:(t:Ty)->t.D->AV|.arr n t,d=>.agg (Ty.cells (.arr n t) d)|.st fs,d=>.agg (Ty.cells (.st fs) d)|.int k,n=>.int k n|.bool,b=>.bool b|.str,s=>.str s|.sl t,l=>.fsl (List.flatMap (Ty.cells t) l) (List.length l) t.sz|.unit,_=>.any|.pair _ _,_=>.any
theorem QqG(ty:Ty){t:TypeId}{base:Nat}{v:Value}{g:DataW H}{j:List MemPlace}(ho:okTy P ty t=true)(c:Value.okWide P W .any base t v)(h:DataW.Trod enc P W 0 (fun _=>true) true t v g j):∃d:ty.D,(ty.wf d/\((g.weights P t).all (·<=reachBytes)=true->ty.sized P [t] d))/\VRel (only (ok:=ok) (inF W)) W (ty.val d) v:=by
 obtain⟨fuel,h⟩:=h;obtain⟨d,h1,f⟩:=Qgd (spare:=fun _=>true) ty t fuel _ _ (fun _=>rfl) ho h;refine⟨d,h1,?_⟩;have one:∀(u:AV),VRels (only (ok:=ok) (inF W)) W [u] v.cells.toList->(∀cs,v≠.agg cs)->VRel (only (ok:=ok) (inF W)) W u v:=by
  intro u hu i;have:v.cells=#[v]:=by cases v<;>first|rfl|exact absurd rfl (i _)
  simp_all[VRels]
 cases ty with|unit=>simp[okTy]at ho|pair a b=>simp[okTy]at ho|arr n e=>
  simp only[okTy]at ho;split at ho<;>try(cases ho;done)
  rename_i hu;simp only[Value.okWide,hu]at c;obtain⟨cs,rfl,_⟩:=c;simp only[Ty.val,VRel];exact⟨_,rfl,f⟩|st fs=>
  simp only[okTy]at ho;split at ho<;>try(cases ho;done)
  rename_i hu;simp only[Value.okWide,hu]at c;obtain⟨cs,rfl,_⟩:=c;simp only[Ty.val,VRel];exact⟨_,rfl,f⟩|int k=>
  refine one _ f ?_;rintro cs rfl;simp only[okTy]at ho;split at ho<;>try(cases ho;done)
  rename_i hu;simp[Value.okWide,hu,Cell.okWide,Cell.ok]at c|bool=>
  refine one _ f ?_;rintro cs rfl;simp only[okTy]at ho;split at ho<;>try(cases ho;done)
  rename_i hu;simp[Value.okWide,hu,Cell.okWide,Cell.ok]at c|str=>
  refine one _ f ?_;rintro cs rfl;simp only[okTy]at ho;split at ho<;>try(cases ho;done)
  rename_i hu;simp[Value.okWide,hu,Cell.okWide,Cell.ok]at c|sl e=>
  refine one _ f ?_;rintro cs rfl;simp only[okTy]at ho;split at ho<;>try(cases ho;done)
  rename_i hu;simp[Value.okWide,hu,Cell.okWide,Cell.ok]at c
theorem arg_in(ty:Ty){t:TypeId}{base:Nat}{v:Value}{d:DataW H}{c:List MemPlace}(ho:okTy P ty t=true)(b:Value.okWide P W .any base t v)(h:DataW.Trod enc P W 0 (fun _=>true) true t v d c):∃d:ty.D,ty.wf d/\VRel (only (ok:=ok) (inF W)) W (ty.val d) v:=by obtain⟨e,h1,a⟩:=QqG (ok:=ok) ty ho b h;exact⟨e,h1.1,a⟩
end
end Go.AM
namespace Go.AM
theorem Qk6{b:Bool}:(AV.bool b).cells=[.bool b]:=rfl
theorem QoH{b:Bool}:(AV.bool b).one=true:=rfl
theorem QoI{b:Bool}:(AV.bool b).boxable=true:=rfl
theorem Qk7{b g o:Nat}:aNil (.ptr b g o)=some (.ptr b g o):=rfl
theorem Qjr{cs:List AV}:aNil (.fptr cs)=some (.fptr cs):=rfl
end Go.AM
namespace Go.AM.SD
open Go.AM
def ints(l:List Int):List AV:=l.map (.int .i64)
abbrev sli(l:List Int):AV:=.fsl (ints l) l.length 1
theorem Qab(l:List Int):noRefs (ints l)=true:=by induction l with|nil=>rfl|cons x l a=>simp only[ints,List.map_cons,noRefs,noRef,Bool.true_and];exact a
theorem QcJ{l:List Int}:(ints l).length=l.length:=by simp[ints]
theorem lenW:type_of%@List.length_map.{0,0}/\type_of%@List.length_append.{0}/\type_of%@List.length_cons.{0}/\type_of%@List.length_nil.{0}/\type_of%@QcJ:=⟨@List.length_map.{0,0},@List.length_append.{0},@List.length_cons.{0},@List.length_nil.{0},@QcJ⟩
theorem QaT{l:List Int}{i:Nat}{x:Int}(h:l[i]?=some x):((ints l).drop i).head?=some (.int .i64 x):=by rw[List.head?_drop];simp[ints,h]
abbrev nz(l:List Nat):List Int:=l.map fun x:Nat=>(x:Int)
theorem nz_at{l:List Nat}{i x:Nat}(h:l[i]?=some x):(nz l)[i]?=some (x:Int):=by simp[nz,h]
theorem Qav{α:Type}{l:List α}{i:Nat}(h:i<l.length):∃x,l[i]?=some x:=⟨l[i],List.getElem?_eq_getElem h⟩
theorem Qah{a b:List AV}:noRefs (a++b)=(noRefs a&&noRefs b):=by induction a with|nil=>simp[noRefs]|cons x a c=>simp only[List.cons_append,noRefs,c,Bool.and_assoc]
theorem Qa9{α:Type}{f:α->List AV}(h:∀x,noRefs (f x)=true)(l:List α):noRefs (l.flatMap f)=true:=by induction l with|nil=>rfl|cons x l a=>rw[List.flatMap_cons,Qah,h,a];rfl
theorem Qby{α:Type}{f:α->List AV}{k:Nat}(h:∀x,(f x).length=k)(l:List α):(l.flatMap f).length=l.length*k:=by induction l with|nil=>simp|cons x l a=>rw[List.flatMap_cons,List.length_append,h,a,List.length_cons,Nat.succ_mul];omega
theorem Qbw{α:Type}{f:α->List AV}{k:Nat}(h:∀x,(f x).length=k):∀{l:List α}{i:Nat}{x:α},l[i]?=some x->(l.flatMap f).drop (i*k)=f x++(l.drop (i+1)).flatMap f
 |[],_,_,a=>by simp at a|y::l,0,x,a=>by simp at a;subst a;simp|y::l,i+1,x,a=>by
  simp at a;rw[List.flatMap_cons,List.drop_append,h,List.drop_of_length_le (by rw[h,Nat.succ_mul];omega),List.nil_append];have:(i+1)*k-k=i*k:=by rw[Nat.succ_mul];omega
  rw[this,Qbw h a,List.drop_succ_cons]
structure Eg where
 fr:Int
 ev:Int
 to:Int deriving DecidableEq
def egC(e:Eg):List AV:=[.int .i64 e.fr,.int .i64 e.ev,.int .i64 e.to]
abbrev egs(l:List Eg):AV:=.fsl (l.flatMap egC) l.length 3
theorem Qal(l:List Eg):noRefs (l.flatMap egC)=true:=Qa9 (fun x=>rfl) l
theorem Qas(l:List Eg):noRef (egs l)=true:=by simp only[noRef];exact Qal l
theorem Qba{l:List Eg}{i:Nat}{e:Eg}(h:l[i]?=some e):(l.flatMap egC).drop (i*3)=.int .i64 e.fr::.int .i64 e.ev::.int .i64 e.to::(l.drop (i+1)).flatMap egC:=Qbw (f:=egC) (k:=3) (fun _=>rfl) h
theorem Qap(l:List Int):noRef (sli l)=true:=by simp only[noRef];exact Qab l
structure Au where
 al:List Int
 n:Int
 ms:List Int
 es:List Eg
abbrev auV(a:Au):AV:=.agg [sli a.al,.int .i64 a.n,sli a.ms,egs a.es]
def eg(e:Ed):Eg:=⟨e.1,e.2.1,e.2.2⟩
def au(a:Aut):Au:=⟨nz a.al,a.n,nz a.ms,a.es.map eg⟩
def rmC(r:Rm):List AV:=[.int .i64 r.st,.int .i64 r.rank,.int .i64 r.reason,.int .i64 r.ev]
abbrev rms(l:List Rm):AV:=.fsl (l.flatMap rmC) l.length 4
theorem Qan(l:List Rm):noRefs (l.flatMap rmC)=true:=Qa9 (fun x=>rfl) l
theorem QpW{l:List Rm}{i:Nat}{r:Rm}(h:l[i]?=some r):(l.flatMap rmC).drop (i*4)=.int .i64 r.st::.int .i64 r.rank::.int .i64 r.reason::.int .i64 r.ev::(l.drop (i+1)).flatMap rmC:=Qbw (f:=rmC) (k:=4) (fun _=>rfl) h
end Go.AM.SD
namespace Go.AM.SD
def edC(e:Ed):List AV:=[.int .i64 (e.1:Int),.int .i64 (e.2.1:Int),.int .i64 (e.2.2:Int)]
abbrev egsN(l:List Ed):AV:=.fsl (l.flatMap edC) l.length 3
theorem Qaf(l:List Ed):noRefs (l.flatMap edC)=true:=Qa9 (fun x=>rfl) l
theorem Qak(l:List Ed):noRef (egsN l)=true:=by simp only[noRef];exact Qaf l
theorem QaZ{l:List Ed}{i:Nat}{e:Ed}(h:l[i]?=some e):(l.flatMap edC).drop (i*3)=.int .i64 (e.1:Int)::.int .i64 (e.2.1:Int)::.int .i64 (e.2.2:Int)::(l.drop (i+1)).flatMap edC:=Qbw (f:=edC) (k:=3) (fun _=>rfl) h
theorem QmN(l:List Ed):egs (l.map eg)=egsN l:=by unfold egs egsN;rw[List.length_map,List.flatMap_map];rfl
abbrev sliN(l:List Nat):AV:=.fsl (ints (nz l)) l.length 1
theorem Qcl(l:List Nat):sli (nz l)=sliN l:=by unfold sli sliN;rw[List.length_map]
theorem Qaa(l:List Nat):noRef (sliN l)=true:=by simp only[noRef];exact Qab _
theorem QaW{l:List Nat}{i x:Nat}(h:l[i]?=some x):((ints (nz l)).drop i).head?=some (.int .i64 (x:Int)):=QaT (nz_at h)
abbrev aV(a:Aut):AV:=.agg [sliN a.al,.int .i64 (a.n:Int),sliN a.ms,egsN a.es]
theorem QoJ(a:Aut):auV (au a)=aV a:=by show AV.agg [sli (nz a.al),.int .i64 (a.n:Int),sli (nz a.ms),egs (a.es.map eg)]=_;rw[Qcl,Qcl,QmN]
theorem QpX(a:Aut):noRef (aV a)=true:=by rw[aV,noRef,noRefs,noRefs,noRefs,noRefs,Qaa,Qaa,Qak];rfl
def bls(l:List Bool):List AV:=l.map .bool
theorem Qai(l:List Bool):noRefs (bls l)=true:=by induction l with|nil=>rfl|cons x l a=>simp only[bls,List.map_cons,noRefs,noRef,Bool.true_and];exact a
theorem Qiv{l:List Bool}:(bls l).length=l.length:=by simp[bls]
theorem Qiw{l:List Bool}{i:Nat}{b:Bool}:(bls l).set i (.bool b)=bls (l.set i b):=by simp[bls,List.map_set]
theorem Qa7{l:List Bool}{i:Nat}(h:i<l.length):((bls l).drop i).head?=some (.bool (lf l i)):=by rw[List.head?_drop];simp[bls,lf,h]
theorem QmO{l:List Bool}{i:Nat}(h:i<l.length):(bls l)[i]?=some (.bool (lf l i)):=by simp[bls,lf,h]
theorem QaK{a b:List Int}:ints (a++b)=ints a++ints b:=by simp[ints]
theorem QaU{a b:List Nat}:nz (a++b)=nz a++nz b:=by simp
theorem Qh1{α:Type}{l:List α}{x:α}(h:x∈l):∃j:Nat,l[j]?=some x/\j<l.length:=by obtain⟨j,a⟩:=List.mem_iff_getElem?.1 h;exact⟨j,a,(List.getElem?_eq_some_iff.1 a).1⟩
theorem Qk8{l:List Nat}{x:Nat}:decide ((x:Int)∈nz l)=l.contains x:=by
 have:(x:Int)∈nz l↔x∈l:=⟨fun h=>by
  obtain⟨y,b,e⟩:=List.mem_map.1 h;have e:y=x:=by omega
  exact e▸b,fun h=>List.mem_map.2 ⟨x,h,rfl⟩⟩;by_cases h:x∈l;·rw[decide_eq_true (this.2 h)];simp[h]
 rw[decide_eq_false fun a=>h (this.1 a)];simp[h]
end Go.AM.SD
namespace Go.AM
theorem Qk9{s:List UInt8}:(AV.str s).cells=[.str s]:=rfl
theorem QoK{s:List UInt8}:(AV.str s).one=true:=rfl
theorem QoL{s:List UInt8}:(AV.str s).boxable=true:=rfl
theorem Qek{a b:List UInt8}:aBin .add (.str a) (.str b)=if a.length+b.length<=140737488355328 then some (.str (a++b))else none:=rfl
open SD
theorem wW:type_of%@QfN/\type_of%@wordsM/\type_of%@Qk7/\type_of%@Qjr/\type_of%@Int.one_mul/\type_of%@Qiv/\type_of%@QcJ/\type_of%@Qk6/\type_of%@QoH/\type_of%@QoI/\type_of%@List.length_replicate.{0}/\type_of%@Qk9/\type_of%@QoK/\type_of%@QoL/\type_of%@Qkq/\type_of%@Qog/\type_of%@QeU/\type_of%@Qek:=⟨@QfN,@wordsM,@Qk7,@Qjr,@Int.one_mul,@Qiv,@QcJ,@Qk6,@QoH,@QoI,@List.length_replicate,@Qk9,@QoK,@QoL,@Qkq,@Qog,@QeU,@Qek⟩
end Go.AM
namespace Go.AM.SE
open Go.Proofs
set_option maxHeartbeats 4000000
noncomputable section
def cf:YA.Cf:={most:=.pure,always:=[43,54,55,56,58,59,116,85,86,87,127,128,129,130,131,132,133,134].map fun k=>(k,.heap),value:=.pure,eqn:=false}
def s166:SFn:=by
 refine(?f:YA.Yt Tryz.prog cf 166 [[4],[6,7,8,9],[0,1,10],[4,10,11],[],[14,15],[5,16,17,18,19,20,21,22,23],[0,1,12,13,24],[4,24,25],[0,1,12,13]]) ?s ?h;case h=>exact YA.rr
 exact fun s _=>s
def s136:SFn:=by
 refine(?f:YA.Yt Tryz.prog cf 136 [[0,1,4],[2,3,5,6,7,8,9,10,11,12,13,14,15,16,17,18,19,20,21,22,23,24,25,26,27,28,29,30]]) ?s ?h;case h=>exact YA.rr
 exact fun s _=>s
def s88:SFn:=by
 refine(?f:YA.Yt Tryz.prog cf 88 [[4],[0,1,5,6,7,8]]) ?s ?h;case h=>exact YA.rr
 exact fun s _=>s
def s43:SFn:=by
 refine(?f:YA.Yt Tryz.prog cf 43 [[2],[3],[0,4],[0,4,5,6,7]]) ?s ?h;case h=>exact YA.rr
 exact fun s _=>s
def s28:SFn:=by
 refine(?f:YA.Yt Tryz.prog cf 28 [[0],[2,4,19,20,21,22],[],[1],[],[26,27,28],[12,29,30,31,32,33,34,35,36,37],[38],[39],[23,24,25],[42,43,44,45],[46,47],[48],[],[52,53,54],[16,55,56,57,58,59,60,61],[62],[14,49,50,51,63,64,65,66,67,68,69],[70,71],[40,41],[3,13,72,73,74,75],[76],[],[80,81,82,83],[84,85,86,87,88,89],[17,90,91,92,93,94,95,96,97,98],[18,99,100,101,102,103,104,105,106],[17,18,90,107],[9,77,78,79,109,110,108,111,112,113,114],[10,115]]) ?s ?h;case h=>exact YA.rr
 exact fun s _=>s
def s167:SFn:=by
 refine(?f:YA.Yt Tryz.prog cf 167 [[4],[6,7,8,9],[0,1,10],[4,10,11],[],[14,15],[5,16,17,18,19,20,21,22,23],[0,1,12,13,24],[4,24,25],[0,1,12,13]]) ?s ?h;case h=>exact YA.rr
 exact fun s _=>s
def s135:SFn:=by
 refine(?f:YA.Yt Tryz.prog cf 135 [[4],[6],[],[9,10],[11,12,13,14,15],[0,1,7,8,5,16,17],[4,5,16,18],[0,1,7,8]]) ?s ?h;case h=>exact YA.rr
 exact fun s _=>s
def s32:SFn:=by
 refine(?f:YA.Yt Tryz.prog cf 32 [[0,2],[5,6,7],[8],[1,3,9,10],[2,3,9,12,13,14],[1,11],[11,16,17,18],[1,15],[2,15,19,20,21,22,23],[24],[1,4,25,26],[1,4,25,27,28]]) ?s ?h;case h=>exact YA.rr
 exact fun s _=>s
def s141:SFn:=by
 refine(?f:YA.Yt Tryz.prog cf 141 [[4,5],[10,11],[12],[13,14],[15,16,17,18,19,20,21],[22,23,24,25,26],[9,27,28,29],[9,27,30],[0,1,6,7,8,52,42,51,48,50,49,47,46,45,43,44,41,39,40,38,36,37,31,32,33,34,35,53]]) ?s ?h;case h=>exact YA.rr
 exact fun s _=>s
def s137:SFn:=by
 refine(?f:YA.Yt Tryz.prog cf 137 [[0],[12,13,14,15],[16,17],[1,3,18,19],[18,20,21,22],[23],[],[26,27],[5,28,29,30],[31],[24,25,32,33],[34],[],[35,36,37],[38,42,43,44,45,46,47,48,41,49,50,8],[9],[51,52,53,54,55,56,57],[51,58,59,60,61,62],[],[66,67,68],[69,70,71,72,73],[74,75,76,77,78,79,80],[81,82,83,84,85],[11,74,86,87,88,89,90,91,92,93,94,95,96,97,98,99],[100],[63,64,65,39,40],[1,4,6,7,101,102,103],[3,104]]) ?s ?h;case h=>exact YA.rr
 exact fun s _=>s
def s54:SFn:=by
 refine(?f:YA.Yt Tryz.prog cf 54 [[0,6],[2,13,14,15,16,17,18,19,20],[21,22,23,24],[],[27,28],[8,29,30,31,32,33,34],[35],[1,25,26],[],[39,40,41],[10,42,43,44,45,46,47],[48],[3,36,37,38,49],[],[53,54,55],[12,56,57,58,59,60,61,62,63,64,65,66,67,68,69,70,71,72],[73],[7,50,51,52,74]] [(16,[(2,4)]),(2,[(12,15),(3,16),(5,16)])]) ?s ?h;case h=>exact YA.rr
 exact fun s _=>s
def s55:SFn:=by
 refine(?f:YA.Yt Tryz.prog cf 55 [[6],[8,9,10],[2,11,12,13,14,15,16],[0,1,7,17,18],[0,1,7,17,19,20,21]]) ?s ?h;case h=>exact YA.rr
 exact fun s _=>s
def s58:SFn:=by
 refine(?f:YA.Yt Tryz.prog cf 58 [[2],[11,12,13,14,15,16],[17],[],[20,21],[4,22,23,24],[25],[18,19],[26,27,28,29],[],[33,34,35],[36,37,38,39,40,41],[42,43,44,45],[7,46,47,48,49],[7,42,50],[30,31,32],[51,52,53],[54,57,58,59,60,61,62,63,64],[],[68,69,70],[71,72,73,74,75,76,77,78],[84,85,86,87,88,89,90,91,92,93,94,95],[10,96,97,98,99],[10,84,100],[65,66,67,55,56],[0,3,83,82,81,79,80,5,8,101]]) ?s ?h;case h=>exact YA.rr
 exact fun s _=>s
def s59:SFn:=by
 refine(?f:YA.Yt Tryz.prog cf 59 [[3],[15,16,17,18,19,20,21],[22,23,24,25,26,27,28,29,30,31,32,33,34,35],[0,4,36,37],[3,36,38,39,40,41,42,43],[44,45,46,47],[],[51,52,53],[54,55,56,57,58,59,60],[7,61,62,63,64,65,66,67,68,69,70,71,72,73],[7,61,74],[48,49,50,75,76],[77],[],[78,79,80],[81,84,85,86,87,88,89],[],[93,94,95],[97,98,99,100,96,101,102],[14,103],[104,105,106],[107,108,109,110],[111,112,113,114,115],[12,13,104,116,117,118,119,120,121,122,123,124,125],[126],[90,91,92,127,128,129,130,131,132,133,134,135],[136,137,138,139,140,141,142],[136,82,83],[0,5,8,10,143,144,145],[4,9,146,147]] [(20,[(2,10)])]) ?s ?h;case h=>exact YA.rr
 exact fun s _=>s
def s70:SFn:=by
 refine(?f:YA.Yt Tryz.prog cf 70 [[4],[],[],[10,11,12,13],[15,16,17,21],[0,1,7,8,9,32,26,31,30,27,29,28,20,18,19,5,6,14],[5,6,14,23,24,25,33],[0,1,7,8,9,32,26,31,30,27,29,28,20,18,19,22],[4,22,34],[0,1,7,8,9,32,26,31,30,27,29,28,20,18,19]]) ?s ?h;case h=>exact YA.rr
 exact fun s _=>s
def s71:SFn:=by
 refine(?f:YA.Yt Tryz.prog cf 71 [[0,2],[6],[],[10,11,12,13],[15,16,17,18,24,25,29,30,36],[1,7,8,9,69,63,68,65,67,66,64,62,59,61,60,58,35,32,34,33,31,28,27,26,23,20,22,21,19,4,3,14],[14,38,39,40,41,42,43],[1,7,8,9,69,63,68,65,67,66,64,62,59,61,60,58,35,32,34,33,31,28,27,26,23,20,22,21,19,4,3,37],[2,37,44],[3,45,46,47,48,49,50,51],[4,5,52,53,54,55,56,57],[1,7,8,9,69,63,68,65,67,66,64,62,59,61,60,58,35,32,34,33,31,28,27,26,23,20,22,21,19,70],[2,70,71],[1,7,8,9,69,63,68,65,67,66,64,62,59,61,60,58,35,32,34,33,31,28,27,26,23,20,22,21,19]]) ?s ?h;case h=>exact YA.rr
 exact fun s _=>s
def s113:SFn:=by
 refine(?f:YA.Yt Tryz.prog cf 113 [[4],[0,1,5,6,7,8,9,10,11,12,13,14,15,16]]) ?s ?h;case h=>exact YA.rr
 exact fun s _=>s
def s169:SFn:=by
 refine(?f:YA.Yt Tryz.prog cf 169 [[2],[0,3,4,5]]) ?s ?h;case h=>exact YA.rr
 exact fun s _=>s
def s125:SFn:=by
 refine(?f:YA.Yt Tryz.prog cf 125 [[0,4],[10,11,12,13,9,14,15,6],[1,17,18,19,20,21,16,22,23,8],[2,5,7,24,25,26,27,28]]) ?s ?h;case h=>exact YA.rr
 exact fun s _=>s
def s85:SFn:=by
 refine(?f:YA.Yt Tryz.prog cf 85 [[4],[],[9,10,11,12],[],[16,17,18],[19,20,21,22,23,24,25,26,27,28,37,38],[47,48,49],[8,50,51,52],[7,62,63,64,65,66,67,68,69,70,71],[72],[0,1,5,13,14,15,61,58,60,59,57,56,53,55,54,46,45,42,44,43,41,40,39,36,35,32,34,33,31,30,29,73]]) ?s ?h;case h=>exact YA.rr
 exact fun s _=>s
def s86:SFn:=by
 refine(?f:YA.Yt Tryz.prog cf 86 [[4],[],[8],[],[12,13,14,15],[7,16,17,18,19,20,21,22,23],[6,26,27,28,29,30,31,32],[6,26,33],[0,1,5,9,10,11,25,24,34]]) ?s ?h;case h=>exact YA.rr
 exact fun s _=>s
def s153:SFn:=by
 refine(?f:YA.Yt Tryz.prog cf 153 [[2],[0,3,4,5]]) ?s ?h;case h=>exact YA.rr
 exact fun s _=>s
def s160:SFn:=by
 refine(?f:YA.Yt Tryz.prog cf 160 [[6,7],[12,13],[14],[15,16],[17,18,19,20,21,22,23],[24,25,26,27,28,29,30],[11,31,32,33],[11,31,34],[0,1,2,8,9,10,47,46,40,44,45,43,41,42,35,36,37,38,39,48]]) ?s ?h;case h=>exact YA.rr
 exact fun s _=>s
def s161:SFn:=by
 refine(?f:YA.Yt Tryz.prog cf 161 [[0,4],[1,2,5,6,7,8]]) ?s ?h;case h=>exact YA.rr
 exact fun s _=>s
def s162:SFn:=by
 refine(?f:YA.Yt Tryz.prog cf 162 [[0,4],[1,2,5,6,7,8]]) ?s ?h;case h=>exact YA.rr
 exact fun s _=>s
theorem ok166:okFn Tryz.prog 166 s166=true:=by kernel_rfl
theorem ok136:okFn Tryz.prog 136 s136=true:=by kernel_rfl
theorem ok88:okFn Tryz.prog 88 s88=true:=by kernel_rfl
theorem ok43:okFn Tryz.prog 43 s43=true:=by kernel_rfl
theorem ok28:okFn Tryz.prog 28 s28=true:=by kernel_rfl
theorem ok167:okFn Tryz.prog 167 s167=true:=by kernel_rfl
theorem ok135:okFn Tryz.prog 135 s135=true:=by kernel_rfl
theorem ok32:okFn Tryz.prog 32 s32=true:=by kernel_rfl
theorem ok141:okFn Tryz.prog 141 s141=true:=by kernel_rfl
theorem ok137:okFn Tryz.prog 137 s137=true:=by kernel_rfl
theorem ok54:okFn Tryz.prog 54 s54=true:=by kernel_rfl
theorem ok55:okFn Tryz.prog 55 s55=true:=by kernel_rfl
theorem ok58:okFn Tryz.prog 58 s58=true:=by kernel_rfl
theorem ok59:okFn Tryz.prog 59 s59=true:=by kernel_rfl
theorem ok70:okFn Tryz.prog 70 s70=true:=by kernel_rfl
theorem ok71:okFn Tryz.prog 71 s71=true:=by kernel_rfl
theorem ok113:okFn Tryz.prog 113 s113=true:=by kernel_rfl
theorem ok169:okFn Tryz.prog 169 s169=true:=by kernel_rfl
theorem ok125:okFn Tryz.prog 125 s125=true:=by kernel_rfl
theorem ok85:okFn Tryz.prog 85 s85=true:=by kernel_rfl
theorem ok86:okFn Tryz.prog 86 s86=true:=by kernel_rfl
theorem ok153:okFn Tryz.prog 153 s153=true:=by kernel_rfl
theorem ok160:okFn Tryz.prog 160 s160=true:=by kernel_rfl
theorem ok161:okFn Tryz.prog 161 s161=true:=by kernel_rfl
theorem ok162:okFn Tryz.prog 162 s162=true:=by kernel_rfl
end
end Go.AM.SE
namespace Go.AM.SE
open Go.Proofs Go.AM.SD
def indexR(l:List Int)(n:Int):Int:=if n∈l then(l.findIdx (·==n):Int)else-1
theorem _root_.Go.AM.au0{p:Prop}(h:p:=by repeat(first|exact RO.zero|exact RO.e|refine RO.set rfl ?_)):p:=h
theorem _root_.Go.AM.au1{p:Prop}(h:p:=by repeat'(first|exact RB.nil|(refine RnL.same ?_;first|rfl|(simp only[noRef,noRefs,Qah,Bool.and_self,Bool.and_true,Bool.true_and,Qab,Qal,Qaf,Qan,Qai,Qap,Qaa,Qas,Qak];done))|exact RnM.keyM rfl|exact RnL.nil|exact(True.intro:RnM _ _ _ [] [])|refine RnL.cons ?_ ?_|(refine Rn.same ?_;first|rfl|(simp only[noRef,noRefs,Qah,Bool.and_self,Bool.and_true,Bool.true_and,Qab,Qal,Qaf,Qan,Qai,Qap,Qaa,Qas,Qak];done))|exact Rn.x1 rfl rfl|exact Rn.x2 rfl rfl|exact Rn.x3 rfl rfl|exact Rn.x4 rfl rfl|exact Rn.x5 rfl|exact Rn.x6 rfl|exact Rn.x7 rfl|refine RB.newnil rfl rfl ?_|refine RB.cells rfl rfl rfl ?_ ?_|refine RB.map rfl rfl rfl ?_ ?_|refine RB.cellsB rfl rfl ?_ ?_|refine RB.mapB rfl rfl ?_ ?_)):p:=h
theorem _root_.Go.AM.au2{p:Prop}(h:p:=by repeat(first|exact RT.nil|(refine RT.cons ?_ ?_;·(first|exact Rn.any|exact Rn.x1 rfl rfl|exact Rn.x2 rfl rfl|exact Rn.x3 rfl rfl|exact Rn.x4 rfl rfl|exact Rn.x5 rfl|exact Rn.x6 rfl|exact Rn.x7 rfl|(refine Rn.slot ?_ ?_;(first|rfl|(rw[Int.natCast_add];rfl));(first|rfl|(simp only[noRef,noRefs,Qah,Bool.and_self,Bool.and_true,Bool.true_and,Qab,Qal,Qaf,Qan,Qai,Qap,Qaa,Qas,Qak];done)))|(refine Rn.fn ?_ ?_<;>(repeat'(first|exact RnL.nil|refine RnL.cons ?_ ?_|exact Rn.same rfl|exact Rn.x6 rfl|exact Rn.x2 rfl rfl|exact Rn.x5 rfl|exact Rn.x1 rfl rfl))))))):p:=h
theorem index70(l:List Int)(n:Int)(o:l.length<=140737488355328):PSpec Tryz.prog 135 [sli l,.int .i64 n] (.int .i64 (indexR l n)):=by
 refine PSpec.QaB 64 ok135 rfl (by(try simp only[noRefs,Qab,Qal,Qaf,Qan,Qai,noRef,Bool.and_self,Bool.and_true])<;>rfl) rfl ?_;simp(disch:=first|omega|(simp only[lenW]<;>omega))only[s135,wV,simprocAttr];refine Qbh 100 (fun i:Nat=>[(0,sli l),(1,.int .i64 n),(7,.int .i64 l.length),(8,.int .i64 i)]) (fun _=>[]) (fun i=>i<=l.length/\∀(j:Nat)y,j<i->l[j]?=some y->y≠n) (fun i=>l.length-i) 0 ⟨[],rfl,au0,au1,au2⟩ ⟨Nat.zero_le _,fun j y d=>absurd d (Nat.not_lt_zero _)⟩ ?_;rintro i⟨hi,f⟩;by_cases a:i<l.length
 ·obtain⟨x,c⟩:=Qav a;by_cases b:n=x
  ·simp(disch:=first|omega|(simp only[lenW]<;>omega))only[a,QaT c,b,wV,simprocAttr];refine⟨.inr trivial,_,rfl,?_⟩;have h1:n∈l:=b▸List.mem_of_getElem? c;have k:l.findIdx (·==n)=i:=by rw[List.findIdx_eq a];refine⟨by rw[List.getElem?_eq_getElem a]at c;cases c;simp[b],fun j d=>?_⟩;have:=f j l[j] d (List.getElem?_eq_getElem (by omega));simpa using this
   subst b;simp only[indexR,if_pos h1,k];rfl
  simp(disch:=first|omega|(simp only[lenW]<;>omega))only[a,QaT c,b,wV,simprocAttr];refine⟨i+1,by omega,⟨by omega,fun j y d g=>?_⟩,⟨[],rfl,au0,au1,au2⟩⟩;by_cases e:j=i;·subst e;rw[c]at g;cases g;exact fun e=>b e.symm
  exact f j y (by omega) g
 have :n∉l:=fun h=>by obtain⟨j,d,m⟩:=Qh1 h;exact f j n (by omega) d rfl
 simp(disch:=first|omega|(simp only[lenW]<;>omega))only[a,wV,simprocAttr];exact⟨.inr trivial,_,rfl,by simp only[indexR,if_neg this];rfl⟩
theorem contains62(l:List Int)(n:Int)(c:l.length<=140737488355328):PSpec Tryz.prog 88 [sli l,.int .i64 n] (.bool (decide (n∈l))):=by
 refine PSpec.QaB 64 ok88 rfl (by(try simp only[noRefs,Qab,Qal,Qaf,Qan,Qai,noRef,Bool.and_self,Bool.and_true])<;>rfl) rfl ?_;simp(disch:=first|omega|(simp only[lenW]<;>omega))only[s88,wV,simprocAttr];refine cp (index70 l n c) ?_;have e:decide (0<=indexR l n)=decide (n∈l):=by
  unfold indexR;by_cases h:n∈l;·rw[if_pos h];simp[h]
  rw[if_neg h];simp[h]
 by_cases h:n∈l
 ·have a:0<=indexR l n:=by rw[decide_eq_decide]at e;exact e.2 h
  simp(disch:=first|omega|(simp only[lenW]<;>omega))only[a,wV,simprocAttr];exact⟨.inr trivial,_,rfl,by simp[resOf,QaY,h]⟩
 have a:¬0<=indexR l n:=by rw[decide_eq_decide]at e;exact fun b=>h (e.1 b)
 simp(disch:=first|omega|(simp only[lenW]<;>omega))only[a,wV,simprocAttr];exact⟨.inr trivial,_,rfl,by simp[resOf,QaY,h]⟩
end Go.AM.SE
namespace Go.AM.SE
open Go.Proofs Go.AM.SD
def SetOk(l:List Int)(n:Int):Prop:=(∀x∈l,0<=x/\x<n)/\l.Pairwise (·<·)
theorem SetOk.up{l:List Int}{n:Int}(h:SetOk l n){i:Nat}{x y:Int}(b:l[i]?=some x)(c:l[i+1]?=some y):x<y:=by obtain⟨h1,f⟩:=List.getElem?_eq_some_iff.1 b;obtain⟨a,d⟩:=List.getElem?_eq_some_iff.1 c;have:=List.pairwise_iff_getElem.1 h.2 i (i+1) h1 a (by omega);rw[f,d]at this;exact this
theorem SetOk.nz{l:List Nat}{n:Nat}(h1:∀x∈l,x<n)(b:l.Pairwise (·<·)):SetOk (nz l) n:=by
 refine⟨fun x c=>?_,?_⟩;·obtain⟨a,d,rfl⟩:=List.mem_map.1 c;have:=h1 a d;omega
 rw[List.pairwise_map];exact b.imp fun h=>by omega
theorem set49(l:List Int)(n:Int)(p:l.length<=140737488355328)(h:SetOk l n):PSpec Tryz.prog 70 [sli l,.int .i64 n] (.int .i64 0):=by
 refine PSpec.QaB 64 ok70 rfl (by(try simp only[noRefs,Qab,Qal,Qaf,Qan,Qai,noRef,Bool.and_self,Bool.and_true])<;>rfl) rfl ?_;simp(disch:=first|omega|(simp only[lenW]<;>omega))only[s70,wV,simprocAttr];refine Qbh 100 (fun i:Nat=>[(0,sli l),(1,.int .i64 n),(7,sli l),(8,.int .i64 l.length),(9,.int .i64 i)]) (fun _=>[]) (fun i=>i<=l.length) (fun i=>l.length-i) 0 ⟨[],rfl,au0,au1,au2⟩ (Nat.zero_le _) ?_;rintro i hi;by_cases a:i<l.length
 ·obtain⟨x,d⟩:=Qav a;obtain⟨h1,r⟩:=h.1 x (List.mem_of_getElem? d);have c:¬x<0:=by omega
  have b:¬n<=x:=by omega
  by_cases o:i=0
  ·have g:¬(0:Int)<(i:Int):=by omega
   simp(disch:=first|omega|(simp only[lenW]<;>omega))only[a,QaT d,c,b,g,wV,simprocAttr];exact⟨i+1,by omega,by omega,⟨[],rfl,au0,au1,au2⟩⟩
  obtain⟨y,j⟩:=Qav (l:=l) (i:=i-1) (by omega);have q:=h.up j (by rw[show i-1+1=i by omega];exact d);have f:¬x<=y:=by omega
  have g:(0:Int)<(i:Int):=by omega
  have m:(i:Int)-1=((i-1:Nat):Int):=by omega
  have k:((i-1:Nat):Int)<l.length:=by omega
  simp(disch:=first|omega|(simp only[lenW]<;>omega))only[a,QaT d,c,b,g,m,k,QaT j,f,wV,simprocAttr];exact⟨i+1,by omega,by omega,⟨[],rfl,au0,au1,au2⟩⟩
 simp(disch:=first|omega|(simp only[lenW]<;>omega))only[a,wV,simprocAttr];exact⟨.inr trivial,_,rfl,rfl⟩
end Go.AM.SE
namespace Go.AM.SE
open Go.Proofs Go.AM.SD
structure EgsOk(a:Au):Prop where
 len:a.es.length<=140737488355328
 all:a.al.length<=140737488355328
 fr:∀e∈a.es,0<=e.fr/\e.fr<a.n
 to:∀e∈a.es,0<=e.to/\e.to<a.n
 ev:∀e∈a.es,e.ev∈a.al
 up:a.es.Pairwise fun x y=>x.fr<y.fr\/(x.fr=y.fr/\x.ev<y.ev)
theorem EgsOk.step{a:Au}(h:EgsOk a){i:Nat}{x y:Eg}(c:a.es[i]?=some x)(d:a.es[i+1]?=some y):x.fr<y.fr\/(x.fr=y.fr/\x.ev<y.ev):=by obtain⟨h1,g⟩:=List.getElem?_eq_some_iff.1 c;obtain⟨b,f⟩:=List.getElem?_eq_some_iff.1 d;have:=List.pairwise_iff_getElem.1 h.up i (i+1) h1 b (by omega);rw[g,f]at this;exact this
theorem edges50(a:Au)(h:EgsOk a):PSpec Tryz.prog 71 [auV a] (.int .i64 0):=by
 refine PSpec.QaB 64 ok71 rfl (by(try simp only[noRefs,Qab,Qal,Qaf,Qan,Qai,noRef,Bool.and_self,Bool.and_true])<;>rfl) rfl ?_;have w:=h.len;simp(disch:=first|omega|(simp only[lenW]<;>omega))only[s71,wV,simprocAttr];refine Qbh 100 (fun i:Nat=>[(1,.ptr 50 0 0),(7,egs a.es),(8,.int .i64 a.es.length),(9,.int .i64 i)]) (fun _=>[(50,.cells 0 [sli a.al,.int .i64 a.n,sli a.ms,egs a.es])]) (fun i=>i<=a.es.length) (fun i=>a.es.length-i) 0 ⟨[(50,.blk 64 0)],rfl,au0,au1,au2⟩ (Nat.zero_le _) ?_;rintro i hi;by_cases b:i<a.es.length
 ·obtain⟨x,c⟩:=Qav b;have hm:=List.mem_of_getElem? c;obtain⟨B,A⟩:=h.fr x hm;obtain⟨v,E⟩:=h.to x hm;have m:¬x.fr<0:=by omega
  have k:¬a.n<=x.fr:=by omega
  have p:¬x.to<0:=by omega
  have g:¬a.n<=x.to:=by omega
  have j:decide (x.ev∈a.al)=true:=decide_eq_true (h.ev x hm);simp(disch:=first|omega|(simp only[lenW]<;>omega))only[b,Qba c,m,k,p,g,wV,simprocAttr];refine cp (contains62 a.al x.ev h.all) ?_;rw[j];by_cases C:i=0
  ·have d:(i:Int)=0:=by omega
   simp(disch:=first|omega|(simp only[lenW]<;>omega))only[b,Qba c,d,wV,simprocAttr];exact⟨1,by omega,by omega,⟨[(50,.blk 50 0)],rfl,au0,au1,au2⟩⟩
  obtain⟨y,l⟩:=Qav (l:=a.es) (i:=i-1) (by omega);have d:¬(i:Int)=0:=by omega
  have r:(i:Int)-1=((i-1:Nat):Int):=by omega
  have q:((i-1:Nat):Int)<a.es.length:=by omega
  rcases h.step l (by rw[show i-1+1=i by omega];exact c)with s|⟨s,u⟩
  ·have f:¬x.fr<y.fr:=by omega
   have o:¬x.fr=y.fr:=by omega
   simp(disch:=first|omega|(simp only[lenW]<;>omega))only[b,Qba c,d,r,q,Qba l,f,o,wV,simprocAttr];exact⟨i+1,by omega,by omega,⟨[(50,.blk 50 0)],rfl,au0,au1,au2⟩⟩
  have f:¬x.fr<y.fr:=by omega
  have o:x.fr=y.fr:=by omega
  have t:¬x.ev<=y.ev:=by omega
  simp(disch:=first|omega|(simp only[lenW]<;>omega))only[b,Qba c,d,r,q,Qba l,f,o,t,wV,simprocAttr];exact⟨i+1,by omega,by omega,⟨[(50,.blk 50 0)],rfl,au0,au1,au2⟩⟩
 simp(disch:=first|omega|(simp only[lenW]<;>omega))only[b,wV,simprocAttr];exact⟨.inr trivial,_,rfl,rfl⟩
structure AuOk(a:Au):Prop extends EgsOk a where
 alS:SetOk a.al 32
 msS:SetOk a.ms a.n
 mslen:a.ms.length<=140737488355328
 n0:0<=a.n
 nm:a.n<=4096
theorem check37(a:Au)(h:AuOk a):PSpec Tryz.prog 32 [auV a] (.int .i64 0):=by
 refine PSpec.QaB 64 ok32 rfl (by(try simp only[noRefs,Qab,Qal,Qaf,Qan,Qai,noRef,Bool.and_self,Bool.and_true])<;>rfl) rfl ?_;have h1:¬a.n<0:=by have:=h.n0;omega
 have b:¬4096<a.n:=by have:=h.nm;omega
 simp(disch:=first|omega|(simp only[lenW]<;>omega))only[s32,wV,simprocAttr];refine cp (set49 a.al 32 h.all h.alS) ?_;simp(disch:=first|omega|(simp only[lenW]<;>omega))only[h1,b,wV,simprocAttr];refine cp (set49 a.ms a.n h.mslen h.msS) ?_;simp(disch:=first|omega|(simp only[lenW]<;>omega))only[wV,simprocAttr];refine cp (edges50 a h.toEgsOk) ?_;simp(disch:=first|omega|(simp only[lenW]<;>omega))only[wV,simprocAttr];exact⟨.inr trivial,_,rfl,rfl⟩
end Go.AM.SE
namespace Go.AM.SE
open Go.Proofs Go.AM.SD
def keysR(es:List Ed):List Nat:=es.foldl (fun l e=>if l.contains e.2.2 then l else l++[e.2.2]) []
theorem Qnw{es:List Ed}{i:Nat}{e:Ed}(h:es[i]?=some e):keysR (es.take (i+1))=if(keysR (es.take i)).contains e.2.2 then keysR (es.take i)else keysR (es.take i)++[e.2.2]:=by unfold keysR;rw[List.take_add_one,h,Option.toList,List.foldl_append];rfl
theorem Qel:∀{es:List Ed}{x:Nat},x∈keysR es↔∃e∈es,e.2.2=x:=by
 have key:∀(es:List Ed)(l:List Nat)(x:Nat),x∈es.foldl (fun l e=>if l.contains e.2.2 then l else l++[e.2.2]) l↔x∈l\/∃e∈es,e.2.2=x:=by intro es;induction es with|nil=>intro l x;simp|cons e es c=>
  intro l x;rw[List.foldl_cons,c];by_cases h:l.contains e.2.2=true
  ·rw[if_pos h];have d:e.2.2∈l:=by simpa using h
   constructor
   ·rintro(h1|⟨b,h1,a⟩);·exact .inl h1
    exact .inr ⟨b,by simp[h1],a⟩
   rintro(h1|⟨b,h1,a⟩);·exact .inl h1
   rcases List.mem_cons.1 h1 with rfl|h1;·exact .inl (a▸d)
   exact .inr ⟨b,h1,a⟩
  rw[if_neg h];constructor
  ·rintro(h1|⟨b,h1,a⟩)
   ·rcases List.mem_append.1 h1 with h1|h1;·exact .inl h1
    exact .inr ⟨e,by simp,(by simpa using h1:x=e.2.2).symm⟩
   exact .inr ⟨b,by simp[h1],a⟩
  rintro(h1|⟨b,h1,a⟩);·exact .inl (by simp[h1])
  rcases List.mem_cons.1 h1 with rfl|h1;·exact .inl (by simp[a])
  exact .inr ⟨b,h1,a⟩
 intro es x;have:=key es [] x;unfold keysR;rw[this];simp
theorem Ql4(es:List Ed):(keysR es).Nodup:=by
 have key:∀(es:List Ed)(l:List Nat),l.Nodup->(es.foldl (fun l e=>if l.contains e.2.2 then l else l++[e.2.2]) l).Nodup:=by intro es;induction es with|nil=>intro l h;exact h|cons e es g=>
  intro l h;rw[List.foldl_cons];refine g _ ?_;split;·exact h
  rename_i h1;rw[List.nodup_append];refine⟨h,by simp,fun a f b c=>?_⟩;rw[List.mem_singleton.1 c];intro d;subst d;exact h1 (by simpa using f)
 exact key es [] List.nodup_nil
theorem QbY{es:List Ed}{i:Nat}{e:Ed}(h:es[i]?=some e)(v:Nat):preds (es.take (i+1)) v=preds (es.take i) v++if e.2.2=v then[e.1]else[]:=by unfold preds;rw[List.take_add_one,h,Option.toList,List.filter_append,List.map_append];congr 1;by_cases h1:e.2.2=v<;>simp[h1]
theorem QdF{es:List Ed}{v:Nat}(h:v∉keysR es):preds es v=[]:=by unfold preds;rw[List.map_eq_nil_iff,List.filter_eq_nil_iff];intro e he h1;exact h (Qel.2 ⟨e,he,by simpa using h1⟩)
theorem Qjs(es:List Ed)(v:Nat):(preds es v).length<=es.length:=by unfold preds;rw[List.length_map];exact List.length_filter_le _ _
abbrev pblk(a:Aut)(u:List Nat):List AV:=[sliN a.al,.int .i64 (a.n:Int),sliN a.ms,egsN a.es,sliN u,.map 71 0,.sl 72 0 0 a.n 1]
abbrev backF(es:List Ed):Nat->AV:=fun k=>sliN (preds es k)
abbrev startL(a:Aut)(f u:List Nat):HL:=[(70,.cells 0 (pblk a u)),(71,.map 0 (mapF .i64 (backF a.es) (keysR a.es))),(72,.cells 0 (bls (left0 a.n f)))]
abbrev rowF(es:List Ed):Nat->List AV:=fun k=>ints (nz (preds es k))
abbrev ptrF(es:List Ed):Nat->AV:=fun k=>.sl (300+k) 0 0 (preds es k).length 1
theorem Qnx{n i x:Nat}{f:List Nat}(h:f[i]?=some x):left0 n (f.take (i+1))=(left0 n (f.take i)).set x false:=by unfold left0 offs;rw[List.take_add_one,h,Option.toList,List.foldl_append];rfl
theorem Qjt{n:Nat}{f:List Nat}:(left0 n f).length=n:=by unfold left0;rw[Qhj];simp
theorem reps(n:Nat):(List.replicate n [AV.bool false]).flatten=bls (List.replicate n false):=by induction n with|zero=>rfl|succ n a=>rw[List.replicate_succ,List.flatten_cons,a];rfl
theorem QpY{n i:Nat}(h:i<n):(List.replicate i true++List.replicate (n-i) false).set i true=List.replicate (i+1) true++List.replicate (n-(i+1)) false:=by rw[List.set_append_right _ _ (by simp),List.length_replicate,Nat.sub_self,show n-i=(n-(i+1))+1 by omega,List.replicate_succ,List.set_cons_zero,List.replicate_succ',List.append_assoc];rfl
theorem start34(a:Aut)(f u:List Nat)(C:∀e∈a.es,e.1<a.n/\e.2.2<a.n)(hf:∀x∈f,x<a.n)(Y:a.n<=4096)(R:a.es.length<=1000000)(U:f.length<=1000000):HSpec Tryz.prog 54 [aV a,sliN f,sliN u] .e (.ptr 70 0 0) (hp (startL a f u)):=by
 refine HSpec.QbA 74 ok54 rfl ?_;have K:(a.n:Int)<=140737488355328:=by omega
 simp(disch:=first|omega|exact PairsOK.mk rfl|(simp only[lenW]<;>omega))only[s54,K,reps,wW,wV,simprocAttr];refine Qay 100 (fun i:Nat=>[(1,sliN f),(3,.ptr 60 0 0),(7,.ptr 70 0 0),(25,.int .i64 a.n),(26,.int .i64 i)]) (fun i=>[(60,.cells 0 [sliN a.al,.int .i64 (a.n:Int),sliN a.ms,egsN a.es]),(70,.cells 0 (pblk a u)),(71,.map 0 []),(72,.cells 0 (bls (List.replicate i true++List.replicate (a.n-i) false)))]) (fun i=>i<=a.n) (fun i=>a.n-i) 0 0 120 (fun _:Unit=>[(1,sliN f),(3,.ptr 60 0 0),(7,.ptr 70 0 0)]) (fun _=>[(60,.cells 0 [sliN a.al,.int .i64 (a.n:Int),sliN a.ms,egsN a.es]),(70,.cells 0 (pblk a u)),(71,.map 0 []),(72,.cells 0 (bls (left0 a.n (f.take 0))))]) (fun _=>True) ?_ (Nat.zero_le _) ?_ ?_;·exact⟨[(60,.blk 74 0),(70,.blk 83 0),(71,.blk 78 0),(72,.blk 81 0)],rfl,au0,au1,au2⟩
 ·rintro i hi;by_cases m:i<a.n
  ·have h1:i+1<=i+(a.n-i):=by omega
   simp(disch:=first|omega|exact PairsOK.mk rfl|(simp only[lenW]<;>omega))only[m,h1,Qiw,QpY m,wW,wV,simprocAttr];exact⟨i+1,by omega,by omega,⟨[(60,.blk 60 0),(70,.blk 70 0),(71,.blk 71 0),(72,.blk 72 0)],rfl,au0,au1,au2⟩⟩
  have e:i=a.n:=by omega
  subst e;have E:List.replicate a.n true++List.replicate (a.n-a.n) false=left0 a.n (f.take 0):=by simp[left0,offs]
  simp(disch:=first|omega|exact PairsOK.mk rfl|(simp only[lenW]<;>omega))only[m,wW,wV,simprocAttr];refine⟨(),?_⟩;rw[E];exact⟨[(60,.blk 60 0),(70,.blk 70 0),(71,.blk 71 0),(72,.blk 72 0)],rfl,au0,au1,au2⟩
 rintro _ _;simp(disch:=first|omega|exact PairsOK.mk rfl|(simp only[lenW]<;>omega))only[wW,wV,simprocAttr];refine Qay 140 (fun i:Nat=>[(3,.ptr 60 0 0),(7,.ptr 70 0 0),(36,sliN f),(37,.int .i64 f.length),(38,.int .i64 i)]) (fun i=>[(60,.cells 0 [sliN a.al,.int .i64 (a.n:Int),sliN a.ms,egsN a.es]),(70,.cells 0 (pblk a u)),(71,.map 0 []),(72,.cells 0 (bls (left0 a.n (f.take i))))]) (fun i=>i<=f.length) (fun i=>f.length-i) 0 2 160 (fun _:Unit=>[(3,.ptr 60 0 0),(7,.ptr 70 0 0)]) (fun _=>[(60,.cells 0 [sliN a.al,.int .i64 (a.n:Int),sliN a.ms,egsN a.es]),(70,.cells 0 (pblk a u)),(71,.map 0 []),(72,.cells 0 (bls (left0 a.n f)))]) (fun _=>True) ?_ (Nat.zero_le _) ?_ ?_;·exact⟨[(60,.blk 60 0),(70,.blk 70 0),(71,.blk 71 0),(72,.blk 72 0)],rfl,au0,au1,au2⟩
 ·rintro i hi;by_cases m:i<f.length
  ·obtain⟨x,l⟩:=Qav m;have o:=hf x (List.mem_of_getElem? l);have J:x+1<=(left0 a.n (f.take i)).length:=by rw[Qjt];exact o
   simp(disch:=first|omega|exact PairsOK.mk rfl|(simp only[lenW]<;>omega))only[m,QaW l,o,J,Qiw,<-Qnx l,wW,wV,simprocAttr];exact⟨i+1,by omega,by omega,⟨[(60,.blk 60 0),(70,.blk 70 0),(71,.blk 71 0),(72,.blk 72 0)],rfl,au0,au1,au2⟩⟩
  have e:i=f.length:=by omega
  subst e;simp(disch:=first|omega|exact PairsOK.mk rfl|(simp only[lenW]<;>omega))only[m,wW,wV,simprocAttr];refine⟨(),?_⟩;exact⟨[(60,.blk 60 0),(70,.blk 70 0),(71,.blk 71 0),(72,.blk 72 0)],rfl,au0,au1,au2⟩
 rintro _ _;simp(disch:=first|omega|exact PairsOK.mk rfl|(simp only[lenW]<;>omega))only[wW,wV,simprocAttr];have hrn:∀k∈List.range a.n,k<1000000:=fun k d=>by have:=List.mem_range.1 d;omega
 refine Qay 170 (fun i:Nat=>[(7,.ptr 70 0 0),(50,egsN a.es),(51,.int .i64 a.es.length),(52,.int .i64 i)]) (fun i=>(70,.cells 0 (pblk a u))::(71,.map 0 (mapF .i64 (ptrF (a.es.take i)) (keysR (a.es.take i))))::(72,.cells 0 (bls (left0 a.n f)))::rowsL (rowF (a.es.take i)) (List.range a.n)) (fun i=>i<=a.es.length) (fun i=>a.es.length-i) 0 4 200 (fun _:Unit=>[(7,.ptr 70 0 0)]) (fun _=>startL a f u) (fun _=>True) ?_ (Nat.zero_le _) ?_ ?_
 ·refine⟨(70,.blk 70 0)::(71,.blk 71 0)::(72,.blk 72 0)::psL (fun _=>.nil) (List.range a.n),Qe1 List.nodup_range hrn (fun _ _ _ _ _ b g O P h=>by cases h) (fun _ _ b g h=>by cases h) (by decide) (by decide) (by decide),RO.zero,?_,au2⟩;repeat'(first|exact RB.nil|(refine RnL.same ?_;first|rfl|(simp only[noRef,noRefs,Qah,Bool.and_self,Bool.and_true,Bool.true_and,Qab,Qal,Qaf,Qan,Qai,Qap,Qaa,Qas,Qak];done))|exact RnM.keyM rfl|exact RnL.nil|exact(True.intro:RnM _ _ _ [] [])|refine RnL.cons ?_ ?_|(refine Rn.same ?_;first|rfl|(simp only[noRef,noRefs,Qah,Bool.and_self,Bool.and_true,Bool.true_and,Qab,Qal,Qaf,Qan,Qai,Qap,Qaa,Qas,Qak];done))|exact Rn.x1 rfl rfl|exact Rn.x2 rfl rfl|exact Rn.x3 rfl rfl|exact Rn.x4 rfl rfl|exact Rn.x5 rfl|exact Rn.x6 rfl|exact Rn.x7 rfl|refine RB.newnil rfl rfl ?_|refine RB.cells rfl rfl rfl ?_ ?_|refine RB.map rfl rfl rfl ?_ ?_|refine RB.cellsB rfl rfl ?_ ?_|refine RB.mapB rfl rfl ?_ ?_)
  refine Qdj fun k d=>?_;exact RB.newnil rfl (Qb4 d) RB.nil
 ·rintro i hi;by_cases m:i<a.es.length
  ·obtain⟨e,he⟩:=Qav m;obtain⟨Q,N⟩:=C e (List.mem_of_getElem? he);have v:=Qnw he;have L:=Ql4 (a.es.take i);have V:(preds (a.es.take i) e.2.2).length<=1000000:=by have:=Qjs (a.es.take i) e.2.2;rw[List.length_take]at this;omega
   have p:=Qct (f:=rowF (a.es.take i)) List.nodup_range hrn (List.mem_range.2 N);have s:∀b,b<300->(hp (rowsL (rowF (a.es.take i)) (List.range a.n))).get b=none:=fun b q=>QeZ hrn fun k d=>by omega
   simp(disch:=first|omega|exact PairsOK.mk rfl|(simp only[lenW]<;>omega))only[m,QaZ he,s,wW,wV,simprocAttr];refine Qe2 [(57,[70]),(59,[71]),(63,[70]),(65,[71]),(68,[300+e.2.2])] rfl ?_ ?_;·exact QdD (a:=[71]) (b:=[190]) rfl rfl (fun x l=>by simp only[List.mem_cons,List.not_mem_nil,or_false]at l⊢;omega) (QdD (a:=[70]) (b:=[191,300+e.2.2,190]) rfl rfl (fun x l=>by simp only[List.mem_cons,List.not_mem_nil,or_false]at l⊢;omega) (QdD (a:=[173]) (b:=[191,300+e.2.2,190]) rfl rfl (fun x l=>by simp only[List.mem_cons,List.not_mem_nil,or_false]at l⊢;omega) Qjn))
   simp(disch:=first|omega|exact PairsOK.mk rfl|(simp only[lenW]<;>omega))only[s,wW,wV,simprocAttr];refine Qdq ?_;simp(disch:=first|omega|exact PairsOK.mk rfl|(simp only[lenW]<;>omega))only[s,wW,wV,simprocAttr];by_cases d:e.2.2∈keysR (a.es.take i)
   ·refine wK_in d ?_;simp(disch:=first|omega|exact PairsOK.mk rfl|(simp only[lenW]<;>omega))only[p,s,wW,wV,simprocAttr];refine QbP ?_;simp(disch:=first|omega|exact PairsOK.mk rfl|(simp only[lenW]<;>omega))only[p,s,wW,wV,simprocAttr];refine Qrr L d (by decide) ?_;simp(disch:=first|omega|exact PairsOK.mk rfl|(simp only[lenW]<;>omega))only[p,s,wW,wV,simprocAttr];refine⟨⟨⟨_,rfl,fun b q=>q⟩,⟨_,rfl,fun b q=>q⟩,⟨_,rfl,fun b q=>q⟩,⟨_,rfl,fun b q=>q⟩,⟨_,rfl,fun b q=>q⟩,trivial⟩,i+1,by omega,by omega,?_⟩;rw[if_pos (by simpa using d)]at v;have y:∀x∈keysR (a.es.take (i+1)),x<a.n:=fun x l=>by obtain⟨I,B,rfl⟩:=Qel.1 l;exact(C I (List.mem_of_mem_take B)).2
    generalize w:psL (fun k=>if k∈keysR (a.es.take (i+1))then(if k=e.2.2 then .blk (300+e.2.2) 1 else .blk (300+k) 0:Src)else .nil) (List.range a.n)=PS;have t:∀k:Nat,k<a.n->k≠e.2.2->(hp (rowsL (rowF (a.es.take i)) (List.range a.n))).get (300+k)=some (.cells 0 (rowF (a.es.take i) k)):=fun k d _=>Qct List.nodup_range hrn (List.mem_range.2 d);refine⟨(70,.blk 70 0)::(71,.blk 71 0)::(72,.blk 72 0)::PS,?_,RO.zero,?_,?_⟩
    ·subst w;refine Qe1 List.nodup_range hrn (fun k d j X M b g O P h1 A=>?_) (fun k d b g h1=>?_) (by decide) (by decide) (by decide)
     ·split at h1
      ·split at A;·split at h1<;>split at A<;>cases h1<;>cases A<;>omega
       cases A
      cases h1
     split at h1;·split at h1<;>cases h1<;>omega
     cases h1
    ·subst w;refine RB.cells rfl rfl (by simp(disch:=omega)only[QaA,QaE,Qa4];rfl) ?_ (RB.map rfl rfl (by simp(disch:=omega)only[QaA,QaE,Qa4];rfl) ?_ (RB.cells rfl rfl (by simp(disch:=omega)only[QaA,QaE,Qa4]) (RnL.same (Qai _)) ?_));·repeat'(first|exact RB.nil|(refine RnL.same ?_;first|rfl|(simp only[noRef,noRefs,Qah,Bool.and_self,Bool.and_true,Bool.true_and,Qab,Qal,Qaf,Qan,Qai,Qap,Qaa,Qas,Qak];done))|exact RnM.keyM rfl|exact RnL.nil|exact(True.intro:RnM _ _ _ [] [])|refine RnL.cons ?_ ?_|(refine Rn.same ?_;first|rfl|(simp only[noRef,noRefs,Qah,Bool.and_self,Bool.and_true,Bool.true_and,Qab,Qal,Qaf,Qan,Qai,Qap,Qaa,Qas,Qak];done))|exact Rn.x1 rfl rfl|exact Rn.x2 rfl rfl|exact Rn.x3 rfl rfl|exact Rn.x4 rfl rfl|exact Rn.x5 rfl|exact Rn.x6 rfl|exact Rn.x7 rfl|refine RB.newnil rfl rfl ?_|refine RB.cells rfl rfl rfl ?_ ?_|refine RB.map rfl rfl rfl ?_ ?_|refine RB.cellsB rfl rfl ?_ ?_|refine RB.mapB rfl rfl ?_ ?_)
     ·rw[v];refine RnM.mapF fun x l=>?_;have F:x∈keysR (a.es.take (i+1)):=by rw[v];exact l
      have o:=y x F;unfold updF ptrF;split;·rename_i c;subst c;(rw[QbY he,if_pos rfl,List.length_append];exact Rn.x1 rfl (by rw[Qb4 (List.mem_range.2 o)];simp[l]))
      rename_i c;rw[QbY he,if_neg (fun E=>c E.symm),List.append_nil];exact Rn.x1 rfl (by rw[Qb4 (List.mem_range.2 o)];simp[l,c])
     refine Qdj fun k d=>?_;have G:=List.mem_range.1 d;by_cases r:k∈keysR (a.es.take (i+1))
     ·by_cases c:k=e.2.2;·subst c;refine RB.cells rfl (b:=300+e.2.2) (g:=1) (ds:=rowF (a.es.take i) e.2.2++[.int .i64 (e.1:Int)]) (by rw[Qb4 d];simp[r]) (by simp(disch:=omega)only[QaA,QaE,Qa4]) (RnL.eq ?_ (Qab _)) RB.nil;unfold SE.rowF;rw[QbY he,if_pos rfl,QaU,QaK];rfl
      refine RB.cells rfl (b:=300+k) (g:=0) (ds:=SE.rowF (a.es.take i) k) (by rw[Qb4 d];simp[r,c]) (by simp(disch:=omega)only[QaA,QaE,Qa4,t k G c]) (RnL.eq ?_ (Qab _)) RB.nil;unfold SE.rowF;rw[QbY he,if_neg (fun E=>c E.symm),List.append_nil]
     have hp:=QdF r;have:SE.rowF (a.es.take (i+1)) k=[]:=by unfold SE.rowF;rw[hp];rfl
     rw[this];exact RB.newnil rfl (by rw[Qb4 d];simp[r]) RB.nil
    exact au2
   refine QoC d ?_;simp(disch:=first|omega|exact PairsOK.mk rfl|(simp only[lenW]<;>omega))only[p,s,Qk0,QpP,wW,wV,simprocAttr];refine QbP ?_;simp(disch:=first|omega|exact PairsOK.mk rfl|(simp only[lenW]<;>omega))only[p,s,wW,wV,simprocAttr];refine QcD d (by decide) ?_;simp(disch:=first|omega|exact PairsOK.mk rfl|(simp only[lenW]<;>omega))only[p,s,wW,wV,simprocAttr];refine⟨⟨⟨_,rfl,fun b q=>q⟩,⟨_,rfl,fun b q=>q⟩,⟨_,rfl,fun b q=>q⟩,⟨_,rfl,fun b q=>q⟩,⟨[],rfl,fun b q=>by cases q⟩,trivial⟩,i+1,by omega,by omega,?_⟩;rw[if_neg (by simpa using d)]at v;have y:∀x∈keysR (a.es.take (i+1)),x<a.n:=fun x l=>by obtain⟨I,B,rfl⟩:=Qel.1 l;exact(C I (List.mem_of_mem_take B)).2
   have H:=QdF d;generalize w:psL (fun k=>if k∈keysR (a.es.take (i+1))then(if k=e.2.2 then .blk 191 0 else .blk (300+k) 0:Src)else .nil) (List.range a.n)=PS;have t:∀k:Nat,k<a.n->k≠e.2.2->(hp (rowsL (rowF (a.es.take i)) (List.range a.n))).get (300+k)=some (.cells 0 (rowF (a.es.take i) k)):=fun k d _=>Qct List.nodup_range hrn (List.mem_range.2 d);refine⟨(70,.blk 70 0)::(71,.blk 71 0)::(72,.blk 72 0)::PS,?_,RO.zero,?_,?_⟩
   ·subst w;refine Qe1 List.nodup_range hrn (fun k d j X M b g O P h1 A=>?_) (fun k d b g h1=>?_) (by decide) (by decide) (by decide)
    ·split at h1
     ·split at A;·split at h1<;>split at A<;>cases h1<;>cases A<;>omega
      cases A
     cases h1
    split at h1;·split at h1<;>cases h1<;>omega
    cases h1
   ·subst w;refine RB.cells rfl rfl (by simp(disch:=omega)only[QaA,QaE,Qa4];rfl) ?_ (RB.map rfl rfl (by simp(disch:=omega)only[QaA,QaE,Qa4];rfl) ?_ (RB.cells rfl rfl (by simp(disch:=omega)only[QaA,QaE,Qa4]) (RnL.same (Qai _)) ?_));·repeat'(first|exact RB.nil|(refine RnL.same ?_;first|rfl|(simp only[noRef,noRefs,Qah,Bool.and_self,Bool.and_true,Bool.true_and,Qab,Qal,Qaf,Qan,Qai,Qap,Qaa,Qas,Qak];done))|exact RnM.keyM rfl|exact RnL.nil|exact(True.intro:RnM _ _ _ [] [])|refine RnL.cons ?_ ?_|(refine Rn.same ?_;first|rfl|(simp only[noRef,noRefs,Qah,Bool.and_self,Bool.and_true,Bool.true_and,Qab,Qal,Qaf,Qan,Qai,Qap,Qaa,Qas,Qak];done))|exact Rn.x1 rfl rfl|exact Rn.x2 rfl rfl|exact Rn.x3 rfl rfl|exact Rn.x4 rfl rfl|exact Rn.x5 rfl|exact Rn.x6 rfl|exact Rn.x7 rfl|refine RB.newnil rfl rfl ?_|refine RB.cells rfl rfl rfl ?_ ?_|refine RB.map rfl rfl rfl ?_ ?_|refine RB.cellsB rfl rfl ?_ ?_|refine RB.mapB rfl rfl ?_ ?_)
    ·rw[v];refine RnM.mapF fun x l=>?_;have F:x∈keysR (a.es.take (i+1)):=by rw[v];exact l
     have o:=y x F;unfold updF ptrF;split;·rename_i c;subst c;(rw[QbY he,if_pos rfl,H];exact Rn.x1 rfl (by rw[Qb4 (List.mem_range.2 o)];simp[l]))
     rename_i c;rw[QbY he,if_neg (fun E=>c E.symm),List.append_nil];exact Rn.x1 rfl (by rw[Qb4 (List.mem_range.2 o)];simp[l,c])
    refine Qdj fun k d=>?_;have G:=List.mem_range.1 d;by_cases r:k∈keysR (a.es.take (i+1))
    ·by_cases c:k=e.2.2;·subst c;refine RB.cells rfl (b:=191) (g:=0) (ds:=[.int .i64 (e.1:Int)]) (by rw[Qb4 d];simp[r]) (by simp(disch:=omega)only[QaA,QaE,Qa4]) (RnL.eq ?_ (Qab _)) RB.nil;unfold SE.rowF;rw[QbY he,if_pos rfl,QaU,QaK];(rw[H];rfl)
     refine RB.cells rfl (b:=300+k) (g:=0) (ds:=SE.rowF (a.es.take i) k) (by rw[Qb4 d];simp[r,c]) (by simp(disch:=omega)only[QaA,QaE,Qa4,t k G c]) (RnL.eq ?_ (Qab _)) RB.nil;unfold SE.rowF;rw[QbY he,if_neg (fun E=>c E.symm),List.append_nil]
    have hp:=QdF r;have:SE.rowF (a.es.take (i+1)) k=[]:=by unfold SE.rowF;rw[hp];rfl
    rw[this];exact RB.newnil rfl (by rw[Qb4 d];simp[r]) RB.nil
   exact au2
  have e:i=a.es.length:=by omega
  subst e;have y:∀x∈keysR a.es,x<a.n:=fun x l=>by obtain⟨I,B,rfl⟩:=Qel.1 l;exact(C I B).2
  simp(disch:=first|omega|exact PairsOK.mk rfl|(simp only[lenW]<;>omega))only[m,wW,wV,simprocAttr];refine⟨(),[(70,.blk 70 0),(71,.blk 71 0),(72,.blk 72 0)],rfl,RO.zero,?_,au2⟩;refine RB.cells rfl rfl (by simp(disch:=omega)only[QaA,QaE,Qa4];rfl) ?_ (RB.map rfl rfl (by simp(disch:=omega)only[QaA,QaE,Qa4];rfl) ?_ (RB.cells rfl rfl (by simp(disch:=omega)only[QaA,QaE,Qa4]) (RnL.same (Qai _)) RB.nil));·repeat'(first|exact RB.nil|(refine RnL.same ?_;first|rfl|(simp only[noRef,noRefs,Qah,Bool.and_self,Bool.and_true,Bool.true_and,Qab,Qal,Qaf,Qan,Qai,Qap,Qaa,Qas,Qak];done))|exact RnM.keyM rfl|exact RnL.nil|exact(True.intro:RnM _ _ _ [] [])|refine RnL.cons ?_ ?_|(refine Rn.same ?_;first|rfl|(simp only[noRef,noRefs,Qah,Bool.and_self,Bool.and_true,Bool.true_and,Qab,Qal,Qaf,Qan,Qai,Qap,Qaa,Qas,Qak];done))|exact Rn.x1 rfl rfl|exact Rn.x2 rfl rfl|exact Rn.x3 rfl rfl|exact Rn.x4 rfl rfl|exact Rn.x5 rfl|exact Rn.x6 rfl|exact Rn.x7 rfl|refine RB.newnil rfl rfl ?_|refine RB.cells rfl rfl rfl ?_ ?_|refine RB.map rfl rfl rfl ?_ ?_|refine RB.cellsB rfl rfl ?_ ?_|refine RB.mapB rfl rfl ?_ ?_)
  refine RnM.mapF fun x l=>?_;have o:=y x l;have S:=Qct (f:=SE.rowF a.es) List.nodup_range hrn (List.mem_range.2 o);have h1:Nat.beq (300+x) 70=false:=by rw[Bool.eq_false_iff];simp;try omega
  have A:Nat.beq (300+x) 71=false:=by rw[Bool.eq_false_iff];simp;try omega
  have T:Nat.beq (300+x) 72=false:=by rw[Bool.eq_false_iff];simp;try omega
  exact Rn.fzm (by simp(disch:=omega)only[QaA,QaE,Qa4,S]) (by simp[srcNew,h1,A,T]) (by simp) rfl (by rw[QcJ,List.length_map,Nat.mul_one]) (RnL.same (Qab _))
 rintro _ _;simp(disch:=first|omega|exact PairsOK.mk rfl|(simp only[lenW]<;>omega))only[wW,wV,simprocAttr];refine⟨.inr trivial,_,rfl,[(70,.blk 70 0),(71,.blk 71 0),(72,.blk 72 0)],rfl,RO.zero,?_,au2⟩;refine RB.cells rfl rfl rfl ?_ (RB.map rfl rfl rfl (RnM.mapF fun x _=>Rn.same (Qaa _)) (RB.cells rfl rfl rfl (RnL.same (Qai _)) RB.nil));repeat'(first|exact RB.nil|(refine RnL.same ?_;first|rfl|(simp only[noRef,noRefs,Qah,Bool.and_self,Bool.and_true,Bool.true_and,Qab,Qal,Qaf,Qan,Qai,Qap,Qaa,Qas,Qak];done))|exact RnM.keyM rfl|exact RnL.nil|exact(True.intro:RnM _ _ _ [] [])|refine RnL.cons ?_ ?_|(refine Rn.same ?_;first|rfl|(simp only[noRef,noRefs,Qah,Bool.and_self,Bool.and_true,Bool.true_and,Qab,Qal,Qaf,Qan,Qai,Qap,Qaa,Qas,Qak];done))|exact Rn.x1 rfl rfl|exact Rn.x2 rfl rfl|exact Rn.x3 rfl rfl|exact Rn.x4 rfl rfl|exact Rn.x5 rfl|exact Rn.x6 rfl|exact Rn.x7 rfl|refine RB.newnil rfl rfl ?_|refine RB.cells rfl rfl rfl ?_ ?_|refine RB.map rfl rfl rfl ?_ ?_|refine RB.cellsB rfl rfl ?_ ?_|refine RB.mapB rfl rfl ?_ ?_)
end Go.AM.SE
namespace Go.AM.SE
open Go.Proofs Go.AM.SD
abbrev pv(a:Aut)(u:List Nat)(l:LB):AV:=.fptr [sliN a.al,.int .i64 (a.n:Int),sliN a.ms,egsN a.es,sliN u,fmapF .i64 (backF a.es) (keysR a.es),.fsl (bls l) a.n 1]
theorem Qdr{f:Nat->AV}(h:∀x,noRef (f x)=true)(l:List Nat):noRefs (l.map f)=true:=by induction l with|nil=>rfl|cons x l a=>simp only[List.map_cons,noRefs,h,a];rfl
theorem Qao(k:IntKind)(l:List Nat):noRefs (l.map fun x:Nat=>AV.int k (x:Int))=true:=Qdr (fun _=>rfl) l
theorem Qaq(es:List Ed)(l:List Nat):noRefs (l.map (backF es))=true:=Qdr (fun x=>Qaa _) l
theorem QoM{n:Nat}{mk:List Nat}{left:Nat->Bool}{i x:Nat}(h:mk[i]?=some x):bMks n (mk.take (i+1)) left=bMk left (bMks n (mk.take i) left) x:=by unfold bMks;rw[List.take_add_one,h,Option.toList,List.foldl_append];rfl
theorem QpZ(n:Nat)(mk:List Nat)(left:Nat->Bool):(bMks n mk left).1.length=n:=by
 have key:∀(mk:List Nat)(s:QS),(mk.foldl (bMk left) s).1.length=s.1.length:=by intro mk;induction mk with|nil=>intro s;rfl|cons x mk a=>intro s;rw[List.foldl_cons,a];unfold bMk;split<;>simp
 unfold bMks;rw[key];simp
theorem Qju{left:Nat->Bool}{v:Nat}{s:QS}{ys:List Nat}{i y:Nat}(h:ys[i]?=some y):(ys.take (i+1)).foldl (bEd left v) s=bEd left v ((ys.take i).foldl (bEd left v) s) y:=by rw[List.take_add_one,h,Option.toList,List.foldl_append];rfl
theorem Qla(n:Nat)(x:Int):(List.replicate n [AV.int .i64 x]).flatten=ints (List.replicate n x):=by induction n with|zero=>rfl|succ n a=>rw[List.replicate_succ,List.flatten_cons,a];rfl
theorem Qjv{n i:Nat}(h:i<n):(List.replicate i (-1:Int)++List.replicate (n-i) 0).set i (-1)=List.replicate (i+1) (-1)++List.replicate (n-(i+1)) 0:=by rw[List.set_append_right _ _ (by simp),List.length_replicate,Nat.sub_self,show n-i=(n-(i+1))+1 by omega,List.replicate_succ,List.set_cons_zero,List.replicate_succ',List.append_assoc];rfl
theorem Qcv{l:List Int}{i:Nat}{x:Int}:(ints l).set i (.int .i64 x)=ints (l.set i x):=by simp[ints,List.map_set]
def Bd(s:QS):Prop:=∀x,s.1.getD x 0<=s.2.length
theorem Qrt{left:Nat->Bool}{v y:Nat}{s:QS}(h:Bd s):Bd (bEd left v s y):=by
 unfold bEd;split
 ·intro x;have h1:=h x;have a:=h v;show(s.1.set y (s.1.getD v 0+1)).getD x 0<=((s.2++[y]).length:Int);rw[List.length_append,List.length_singleton];rw[List.getD_eq_getElem?_getD,List.getElem?_set];rw[List.getD_eq_getElem?_getD]at h1;split
  ·split;·simp only[Option.getD_some];omega
   simp only[Option.getD_none];omega
  omega
 exact h
theorem Qru{left:Nat->Bool}{x:Nat}{s:QS}(h:Bd s):Bd (bMk left s x):=by
 unfold bMk;split
 ·intro z;have h1:=h z;show(s.1.set x 0).getD z 0<=((s.2++[x]).length:Int);rw[List.length_append,List.length_singleton];rw[List.getD_eq_getElem?_getD,List.getElem?_set];rw[List.getD_eq_getElem?_getD]at h1;split
  ·split;·simp only[Option.getD_some];omega
   simp only[Option.getD_none];omega
  omega
 exact h
theorem QeI{left:Nat->Bool}{v:Nat}:∀(ys:List Nat)(s:QS),Bd s->Bd (ys.foldl (bEd left v) s)|[],s,h=>h|y::ys,s,h=>QeI ys _ (Qrt h)
theorem QqH{n:Nat}{left:Nat->Bool}(mk:List Nat):Bd (bMks n mk left):=by
 have key:∀(mk:List Nat)(s:QS),Bd s->Bd (mk.foldl (bMk left) s):=by intro mk;induction mk with|nil=>intro s h;exact h|cons x mk a=>intro s h;exact a _ (Qru h)
 refine key mk _ fun x=>?_;simp only[List.getD_eq_getElem?_getD,List.getElem?_replicate];split<;>simp
theorem Qrv(n:Nat)(left:Nat->Bool)(mk:List Nat):(bMks n mk left).2.length<=mk.length:=by
 have key:∀(mk:List Nat)(s:QS),(mk.foldl (bMk left) s).2.length<=s.2.length+mk.length:=by intro mk;induction mk with|nil=>intro s;simp|cons x mk a=>intro s;rw[List.foldl_cons];refine Nat.le_trans (a _) ?_;unfold bMk;split<;>simp<;>omega
 have:=key mk (List.replicate n (-1),[]);unfold bMks;simpa using this
theorem Qce{l:List Int}{i:Nat}{x:Int}(h:l[i]?=some x):(ints l)[i]?=some (.int .i64 x):=by simp[ints,h]
theorem Qbj{l:List Int}{i:Nat}(h:i<l.length):(ints l)[i]?=some (.int .i64 (l.getD i 0)):=by simp[ints,h]
theorem _root_.Go.AM.au3{p:Prop}(h:p:=by repeat'(first|exact RB.nil|(refine RnL.same ?_;first|rfl|(simp only[noRef,noRefs,Qah,Bool.and_self,Bool.and_true,Bool.true_and,Qab,Qal,Qaf,Qan,Qai,Qap,Qaa,Qas,Qak,Qao,Qaq];done))|exact RnM.keyM rfl|exact RnL.nil|exact(True.intro:RnM _ _ _ [] [])|refine RnL.cons ?_ ?_|(refine Rn.same ?_;first|rfl|(simp only[noRef,noRefs,Qah,Bool.and_self,Bool.and_true,Bool.true_and,Qab,Qal,Qaf,Qan,Qai,Qap,Qaa,Qas,Qak,Qao,Qaq];done))|exact Rn.x1 rfl rfl|exact Rn.x2 rfl rfl|exact Rn.x3 rfl rfl|exact Rn.x4 rfl rfl|exact Rn.x5 rfl|exact Rn.x6 rfl|exact Rn.x7 rfl|refine RB.newnil rfl rfl ?_|refine RB.cells rfl rfl rfl ?_ ?_|refine RB.map rfl rfl rfl ?_ ?_|refine RB.cellsB rfl rfl ?_ ?_|refine RB.mapB rfl rfl ?_ ?_)):p:=h
theorem _root_.Go.AM.au4{p:Prop}(h:p:=by repeat(first|exact RT.nil|(refine RT.cons ?_ ?_;·(first|exact Rn.any|exact Rn.x1 rfl rfl|exact Rn.x2 rfl rfl|exact Rn.x3 rfl rfl|exact Rn.x4 rfl rfl|exact Rn.x5 rfl|exact Rn.x6 rfl|exact Rn.x7 rfl|(refine Rn.slot ?_ ?_;(first|rfl|(rw[Int.natCast_add];rfl));(first|rfl|(simp only[noRef,noRefs,Qah,Bool.and_self,Bool.and_true,Bool.true_and,Qab,Qal,Qaf,Qan,Qai,Qap,Qaa,Qas,Qak,Qao,Qaq];done)))|(refine Rn.fn ?_ ?_<;>(repeat'(first|exact RnL.nil|refine RnL.cons ?_ ?_|exact Rn.same rfl|exact Rn.x6 rfl|exact Rn.x2 rfl rfl|exact Rn.x5 rfl|exact Rn.x1 rfl rfl))))))):p:=h
theorem dist53(a:Aut)(u:List Nat)(l:LB)(w:InN a.n a.es a.ms)(hnd:a.ms.Nodup)(hl:l.length=a.n)(hn:a.n<=4096)(hel:a.es.length<=1000000)(hml:a.ms.length<=1000000):HSpec Tryz.prog 58 [pv a u l] .e (.sl 80 0 0 a.n 1) (hp [(80,.cells 0 (ints (pDist a.n a.es a.ms (lf l))))]):=by
 refine HSpec.QbA 100 ok58 rfl ?_;have hn':(a.n:Int)<=140737488355328:=by omega
 have hn8:(8:Int)*a.n<=140737488355328:=by omega
 simp(disch:=first|omega|exact PairsOK.mk rfl|(simp only[lenW]<;>omega))only[s58,hn',hn8,Qla,wW,wV,simprocAttr];refine Qay 100 (fun i:Nat=>[(0,pv a u l),(3,.sl 80 0 0 a.n 1),(18,.int .i64 a.n),(19,.int .i64 i)]) (fun i=>[(80,.cells 0 (ints (List.replicate i (-1)++List.replicate (a.n-i) 0)))]) (fun i=>i<=a.n) (fun i=>a.n-i) 0 0 120 (fun _:Unit=>[(0,pv a u l),(3,.sl 80 0 0 a.n 1)]) (fun _=>[(80,.cells 0 (ints (List.replicate a.n (-1))))]) (fun _=>True) ?_ (Nat.zero_le _) ?_ ?_;·exact⟨[(80,.blk 106 0)],rfl,au0,au3,au4⟩
 ·rintro i hi;by_cases c:i<a.n
  ·have h1:i+1<=i+(a.n-i):=by omega
   simp(disch:=first|omega|exact PairsOK.mk rfl|(simp only[lenW]<;>omega))only[c,h1,Qcv,Qjv c,wW,wV,simprocAttr];exact⟨i+1,by omega,by omega,⟨[(80,.blk 80 0)],rfl,au0,au3,au4⟩⟩
  have e:i=a.n:=by omega
  subst e;have e2:List.replicate a.n (-1:Int)++List.replicate (a.n-a.n) 0=List.replicate a.n (-1):=by simp
  simp(disch:=first|omega|exact PairsOK.mk rfl|(simp only[lenW]<;>omega))only[c,wW,wV,simprocAttr];refine⟨(),?_⟩;rw[e2];exact⟨[(80,.blk 80 0)],rfl,au0,au3,au4⟩
 rintro _ _;simp(disch:=first|omega|exact PairsOK.mk rfl|(simp only[lenW]<;>omega))only[wW,wV,simprocAttr];refine Qay 140 (fun i:Nat=>[(0,pv a u l),(3,.sl 80 0 0 a.n 1),(5,.sl 81 0 0 (bMks a.n (a.ms.take i) (lf l)).2.length 1),(30,sliN a.ms),(31,.int .i64 a.ms.length),(32,.int .i64 i)]) (fun i=>[(80,.cells 0 (ints (bMks a.n (a.ms.take i) (lf l)).1)),(81,.cells 0 (ints (nz (bMks a.n (a.ms.take i) (lf l)).2)))]) (fun i=>i<=a.ms.length) (fun i=>a.ms.length-i) 0 2 160 (fun _:Unit=>[(0,pv a u l),(3,.sl 80 0 0 a.n 1),(5,.sl 81 0 0 (bMks a.n a.ms (lf l)).2.length 1)]) (fun _=>[(80,.cells 0 (ints (bMks a.n a.ms (lf l)).1)),(81,.cells 0 (ints (nz (bMks a.n a.ms (lf l)).2)))]) (fun _=>True) ?_ (Nat.zero_le _) ?_ ?_;·exact⟨[(80,.blk 80 0),(81,.nil)],rfl,au0,au3,au4⟩
 ·rintro i hi;by_cases c:i<a.ms.length
  ·obtain⟨x,U⟩:=Qav c;have S:=w.2 x (List.mem_of_getElem? U);have T:=QoM (n:=a.n) (left:=lf l) U;have N:=Qrv a.n (lf l) (a.ms.take i);rw[List.length_take]at N;have hlen:=QpZ a.n (a.ms.take i) (lf l);generalize bMks a.n (a.ms.take i) (lf l)=s at*;have h1:x+1<=s.1.length:=by omega
   have M:x<l.length:=by omega
   by_cases g:lf l x=true;·rw[bMk,if_pos g]at T;simp(disch:=first|omega|exact PairsOK.mk rfl|(simp only[lenW]<;>omega))only[c,QaW U,S,Qa7 M,g,Qcv,h1,wW,wV,simprocAttr];refine⟨i+1,by omega,by omega,?_⟩;rw[T,QaU,QaK,List.length_append];exact⟨[(80,.blk 80 0),(81,.blk 81 1)],rfl,au0,au3,au4⟩
   rw[bMk,if_neg g]at T;rw[Bool.not_eq_true]at g;simp(disch:=first|omega|exact PairsOK.mk rfl|(simp only[lenW]<;>omega))only[c,QaW U,S,Qa7 M,g,wW,wV,simprocAttr];refine⟨i+1,by omega,by omega,?_⟩;rw[T];exact⟨[(80,.blk 80 0),(81,.blk 81 0)],rfl,au0,au3,au4⟩
  have e:i=a.ms.length:=by omega
  subst e;simp(disch:=first|omega|exact PairsOK.mk rfl|(simp only[lenW]<;>omega))only[c,wW,wV,simprocAttr];refine⟨(),?_⟩;exact⟨[(80,.blk 80 0),(81,.blk 81 0)],rfl,au0,au3,au4⟩
 rintro _ _;simp(disch:=first|omega|exact PairsOK.mk rfl|(simp only[lenW]<;>omega))only[wW,wV,simprocAttr];have hb0:=Qit (left:=lf l) w hnd;have hd0:=QqH (n:=a.n) (left:=lf l) a.ms;have P:(bQ a.es (lf l) (a.n+1) 0 (bMks a.n a.ms (lf l))).1=pDist a.n a.es a.ms (lf l):=rfl;generalize bMks a.n a.ms (lf l)=Z at*;refine Qay 180 (fun t:Nat×QS=>[(0,pv a u l),(3,.sl 80 0 0 a.n 1),(5,.sl 81 0 0 t.2.2.length 1),(8,.int .i64 t.1)]) (fun t=>[(80,.cells 0 (ints t.2.1)),(81,.cells 0 (ints (nz t.2.2)))]) (fun t=>t.1<=a.n/\BH a.n a.es a.ms (lf l) t.1 t.2/\Bd t.2/\bQ a.es (lf l) (a.n+1-t.1) t.1 t.2=bQ a.es (lf l) (a.n+1) 0 Z) (fun t=>a.n+1-t.1) (0,Z) 4 200 (fun _:Unit=>[(3,.sl 80 0 0 a.n 1)]) (fun _=>[(80,.cells 0 (ints (pDist a.n a.es a.ms (lf l))))]) (fun _=>True) ?_ ⟨Nat.zero_le _,hb0,hd0,rfl⟩ ?_ ?_;·exact⟨[(80,.blk 80 0),(81,.blk 81 0)],rfl,au0,au3,au4⟩
 ·rintro⟨i,s⟩⟨hi,k,r,N⟩;dsimp only at hi k r N⊢;have hsl:=k.bi.cnt;have hlen:=k.bi.len;by_cases c:i<s.2.length
  ·obtain⟨v,C⟩:=Qav c;have B:=((k.bi.inl v).1 (List.mem_of_getElem? C)).1;have F:i<a.n:=by omega
   have O:bQ a.es (lf l) (a.n+1-(i+1)) (i+1) (bRow a.es (lf l) v s)=bQ a.es (lf l) (a.n+1) 0 Z:=by rw[<-N,show a.n+1-i=(a.n+1-(i+1))+1 by omega];simp only[bQ,C]
   have G:=k.step w C;have E:=fun ys(V:∀y∈ys,∃e∈a.es,e.1=y/\e.2.2=v)=>BI.row (left:=lf l) (mk:=a.ms) w (v:=v) (i:=i) ys s V k.bi C (k.near v C) k.done;have hpl:=Qjs a.es v;simp(disch:=first|omega|exact PairsOK.mk rfl|(simp only[lenW]<;>omega))only[c,QaW C,Qce (nz_at C),wW,wV,simprocAttr];have L:∀y∈preds a.es v,y<a.n:=fun y h=>by obtain⟨e,he,h1,A⟩:=Qdy.1 h;have:=(w.1 e he).1;omega
   by_cases Y:v∈keysR a.es
   ·refine Ql3 Y ?_;simp(disch:=first|omega|exact PairsOK.mk rfl|(simp only[lenW]<;>omega))only[wW,wV,simprocAttr];refine Qay 220 (fun j:Nat=>[(65,sliN (preds a.es v)),(66,.int .i64 (preds a.es v).length),(0,pv a u l),(3,.sl 80 0 0 a.n 1),(5,.sl 81 0 0 (((preds a.es v).take j).foldl (bEd (lf l) v) s).2.length 1),(8,.int .i64 i),(67,.int .i64 j)]) (fun j=>[(80,.cells 0 (ints (((preds a.es v).take j).foldl (bEd (lf l) v) s).1)),(81,.cells 0 (ints (nz (((preds a.es v).take j).foldl (bEd (lf l) v) s).2)))]) (fun j=>j<=(preds a.es v).length) (fun j=>(preds a.es v).length-j) 0 6 240 (fun _:Unit=>[(0,pv a u l),(3,.sl 80 0 0 a.n 1),(5,.sl 81 0 0 (bRow a.es (lf l) v s).2.length 1),(8,.int .i64 i)]) (fun _=>[(80,.cells 0 (ints (bRow a.es (lf l) v s).1)),(81,.cells 0 (ints (nz (bRow a.es (lf l) v s).2)))]) (fun _=>True) ?_ (Nat.zero_le _) ?_ ?_;·exact⟨[(80,.blk 80 0),(81,.blk 81 0)],rfl,au0,au3,au4⟩
    ·rintro j hj;by_cases d:j<(preds a.es v).length
     ·obtain⟨y,h⟩:=Qav d;have o:=L y (List.mem_of_getElem? h);obtain⟨H,Q,_,_,_,_⟩:=E ((preds a.es v).take j) (fun y h=>Qdy.1 (List.mem_of_mem_take h));have p:=QeI (left:=lf l) (v:=v) ((preds a.es v).take j) s r;have b:=Qju (left:=lf l) (v:=v) (s:=s) h;generalize((preds a.es v).take j).foldl (bEd (lf l) v) s=t at*;have hcn:=H.cnt;have hln:=H.len;have K:i<t.2.length:=(List.getElem?_eq_some_iff.1 Q).1;have m:y<l.length:=by omega
      have I:y+1<=t.1.length:=by omega
      have q:y<t.1.length:=by omega
      have J:v<t.1.length:=by omega
      have X:=H.neg v B;have hv2:=p v;by_cases g:lf l y=true
      ·by_cases A:t.1.getD y 0<0
       ·have f:bEd (lf l) v t y=(t.1.set y (t.1.getD v 0+1),t.2++[y]):=by unfold bEd;rw[if_pos (by rw[g,decide_eq_true A];rfl)]
        rw[f]at b;simp(disch:=first|omega|exact PairsOK.mk rfl|(simp only[lenW]<;>omega))only[d,QaW h,o,Qa7 m,g,Qbj q,A,K,Qce (nz_at Q),B,Qbj J,I,Qcv,wW,wV,simprocAttr];refine⟨j+1,by omega,by omega,?_⟩;rw[b,QaU,QaK,List.length_append];exact⟨[(80,.blk 80 0),(81,.blk 81 1)],rfl,au0,au3,au4⟩
       have f:bEd (lf l) v t y=t:=by unfold bEd;rw[if_neg (by rw[g,decide_eq_false A];decide)]
       rw[f]at b;simp(disch:=first|omega|exact PairsOK.mk rfl|(simp only[lenW]<;>omega))only[d,QaW h,o,Qa7 m,g,Qbj q,A,wW,wV,simprocAttr];refine⟨j+1,by omega,by omega,?_⟩;rw[b];exact⟨[(80,.blk 80 0),(81,.blk 81 0)],rfl,au0,au3,au4⟩
      have f:bEd (lf l) v t y=t:=by unfold bEd;rw[if_neg (by simp[g])]
      rw[f]at b;rw[Bool.not_eq_true]at g;simp(disch:=first|omega|exact PairsOK.mk rfl|(simp only[lenW]<;>omega))only[d,QaW h,o,Qa7 m,g,wW,wV,simprocAttr];refine⟨j+1,by omega,by omega,?_⟩;rw[b];exact⟨[(80,.blk 80 0),(81,.blk 81 0)],rfl,au0,au3,au4⟩
     have e:j=(preds a.es v).length:=by omega
     subst e;simp(disch:=first|omega|exact PairsOK.mk rfl|(simp only[lenW]<;>omega))only[d,wW,wV,simprocAttr];refine⟨(),?_⟩;exact⟨[(80,.blk 80 0),(81,.blk 81 0)],rfl,au0,au3,au4⟩
    rintro _ _;simp(disch:=first|omega|exact PairsOK.mk rfl|(simp only[lenW]<;>omega))only[wW,wV,simprocAttr];exact⟨(i+1,bRow a.es (lf l) v s),by dsimp only;omega,⟨F,G,QeI _ _ r,O⟩,⟨[(80,.blk 80 0),(81,.blk 81 0)],rfl,au0,au3,au4⟩⟩
   refine QkY Y ?_;have R:=QdF Y;simp(disch:=first|omega|exact PairsOK.mk rfl|(simp only[lenW]<;>omega))only[wW,wV,simprocAttr];refine Qay 220 (fun j:Nat=>[(65,sliN (preds a.es v)),(66,.int .i64 (preds a.es v).length),(0,pv a u l),(3,.sl 80 0 0 a.n 1),(5,.sl 81 0 0 (((preds a.es v).take j).foldl (bEd (lf l) v) s).2.length 1),(8,.int .i64 i),(67,.int .i64 j)]) (fun j=>[(80,.cells 0 (ints (((preds a.es v).take j).foldl (bEd (lf l) v) s).1)),(81,.cells 0 (ints (nz (((preds a.es v).take j).foldl (bEd (lf l) v) s).2)))]) (fun j=>j<=(preds a.es v).length) (fun j=>(preds a.es v).length-j) 0 6 240 (fun _:Unit=>[(0,pv a u l),(3,.sl 80 0 0 a.n 1),(5,.sl 81 0 0 (bRow a.es (lf l) v s).2.length 1),(8,.int .i64 i)]) (fun _=>[(80,.cells 0 (ints (bRow a.es (lf l) v s).1)),(81,.cells 0 (ints (nz (bRow a.es (lf l) v s).2)))]) (fun _=>True) ?_ (Nat.zero_le _) ?_ ?_;·exact⟨[(80,.blk 80 0),(81,.blk 81 0)],rfl,RO.zero,au3,RT.cons (by rw[R];exact Rn.nilK) (RT.cons (by rw[R];exact Rn.same rfl) au4)⟩
   ·rintro j hj;by_cases d:j<(preds a.es v).length
    ·obtain⟨y,h⟩:=Qav d;have o:=L y (List.mem_of_getElem? h);obtain⟨H,Q,_,_,_,_⟩:=E ((preds a.es v).take j) (fun y h=>Qdy.1 (List.mem_of_mem_take h));have p:=QeI (left:=lf l) (v:=v) ((preds a.es v).take j) s r;have b:=Qju (left:=lf l) (v:=v) (s:=s) h;generalize((preds a.es v).take j).foldl (bEd (lf l) v) s=t at*;have hcn:=H.cnt;have hln:=H.len;have K:i<t.2.length:=(List.getElem?_eq_some_iff.1 Q).1;have m:y<l.length:=by omega
     have I:y+1<=t.1.length:=by omega
     have q:y<t.1.length:=by omega
     have J:v<t.1.length:=by omega
     have X:=H.neg v B;have hv2:=p v;by_cases g:lf l y=true
     ·by_cases A:t.1.getD y 0<0
      ·have f:bEd (lf l) v t y=(t.1.set y (t.1.getD v 0+1),t.2++[y]):=by unfold bEd;rw[if_pos (by rw[g,decide_eq_true A];rfl)]
       rw[f]at b;simp(disch:=first|omega|exact PairsOK.mk rfl|(simp only[lenW]<;>omega))only[d,QaW h,o,Qa7 m,g,Qbj q,A,K,Qce (nz_at Q),B,Qbj J,I,Qcv,wW,wV,simprocAttr];refine⟨j+1,by omega,by omega,?_⟩;rw[b,QaU,QaK,List.length_append];exact⟨[(80,.blk 80 0),(81,.blk 81 1)],rfl,au0,au3,au4⟩
      have f:bEd (lf l) v t y=t:=by unfold bEd;rw[if_neg (by rw[g,decide_eq_false A];decide)]
      rw[f]at b;simp(disch:=first|omega|exact PairsOK.mk rfl|(simp only[lenW]<;>omega))only[d,QaW h,o,Qa7 m,g,Qbj q,A,wW,wV,simprocAttr];refine⟨j+1,by omega,by omega,?_⟩;rw[b];exact⟨[(80,.blk 80 0),(81,.blk 81 0)],rfl,au0,au3,au4⟩
     have f:bEd (lf l) v t y=t:=by unfold bEd;rw[if_neg (by simp[g])]
     rw[f]at b;rw[Bool.not_eq_true]at g;simp(disch:=first|omega|exact PairsOK.mk rfl|(simp only[lenW]<;>omega))only[d,QaW h,o,Qa7 m,g,wW,wV,simprocAttr];refine⟨j+1,by omega,by omega,?_⟩;rw[b];exact⟨[(80,.blk 80 0),(81,.blk 81 0)],rfl,au0,au3,au4⟩
    have e:j=(preds a.es v).length:=by omega
    subst e;simp(disch:=first|omega|exact PairsOK.mk rfl|(simp only[lenW]<;>omega))only[d,wW,wV,simprocAttr];refine⟨(),?_⟩;exact⟨[(80,.blk 80 0),(81,.blk 81 0)],rfl,au0,au3,au4⟩
   rintro _ _;simp(disch:=first|omega|exact PairsOK.mk rfl|(simp only[lenW]<;>omega))only[wW,wV,simprocAttr];exact⟨(i+1,bRow a.es (lf l) v s),by dsimp only;omega,⟨F,G,QeI _ _ r,O⟩,⟨[(80,.blk 80 0),(81,.blk 81 0)],rfl,au0,au3,au4⟩⟩
  have C:s.2[i]?=none:=List.getElem?_eq_none (by omega);have hqf:s.1=pDist a.n a.es a.ms (lf l):=by rw[<-P,<-N,show a.n+1-i=(a.n-i)+1 by omega];simp only[bQ,C]
  simp(disch:=first|omega|exact PairsOK.mk rfl|(simp only[lenW]<;>omega))only[c,wW,wV,simprocAttr];refine⟨(),?_⟩;rw[hqf];exact⟨[(80,.blk 80 0)],rfl,au0,au3,au4⟩
 rintro _ _;simp(disch:=first|omega|exact PairsOK.mk rfl|(simp only[lenW]<;>omega))only[wW,wV,simprocAttr];exact⟨.inr trivial,_,rfl,⟨[(80,.blk 80 0)],rfl,au0,au3,au4⟩⟩
end Go.AM.SE
namespace Go.AM.SE
open Go.Proofs Go.AM.SD
def bkC(rank:Int)(x:Nat):List AV:=[.int .i64 (x:Int),.int .i64 rank,.int .i64 3,.int .i64 (-1)]
theorem Qaw(rank:Int)(l:List Nat):noRefs (l.flatMap (bkC rank))=true:=Qa9 (fun x=>rfl) l
def lsC(rank:Int)(p:Nat×Nat):List AV:=[.int .i64 (p.1:Int),.int .i64 rank,.int .i64 2,.int .i64 (p.2:Int)]
theorem Qar(rank:Int)(l:List (Nat×Nat)):noRefs (l.flatMap (lsC rank))=true:=Qa9 (fun x=>rfl) l
theorem ls_rm(rank:Int)(l:List (Nat×Nat)):l.flatMap (lsC rank)=(lostF rank l).flatMap rmC:=by unfold lostF;rw[List.flatMap_map];rfl
theorem QoN(rank:Int)(l:List (Nat×Nat)):(l.flatMap (lsC rank)).length=l.length*4:=Qby (f:=lsC rank) (k:=4) (fun _=>rfl) l
theorem QoO{rank:Int}{l:List (Nat×Nat)}{i:Nat}{p:Nat×Nat}(h:l[i]?=some p):(l.flatMap (lsC rank))[i*4]?=some (.int .i64 (p.1:Int)):=by
 have:=Qbw (f:=lsC rank) (k:=4) (fun _=>rfl) h;have a:((l.flatMap (lsC rank)).drop (i*4))[0]?=some (.int .i64 (p.1:Int)):=by rw[this];rfl
 simpa using a
theorem Qny{es:List Ed}{left:Nat->Bool}{unc:List Nat}{i:Nat}{e:Ed}(h:es[i]?=some e):pLost (es.take (i+1)) left unc=pLs left unc (pLost (es.take i) left unc) e:=by unfold pLost;rw[List.take_add_one,h,Option.toList,List.foldl_append];rfl
theorem QoP(es:List Ed)(left:Nat->Bool)(unc:List Nat):(pLost es left unc).length<=es.length:=by
 have key:∀(es:List Ed)(o:List (Nat×Nat)),(es.foldl (pLs left unc) o).length<=o.length+es.length:=by intro es;induction es with|nil=>intro o;simp|cons e es a=>intro o;rw[List.foldl_cons];refine Nat.le_trans (a _) ?_;unfold pLs;(repeat' split)<;>(try simp)<;>(try omega)
 have:=key es [];unfold pLost;simpa using this
theorem _root_.Go.AM.au5{p:Prop}(h:p:=by repeat'(first|exact RB.nil|(refine RnL.same ?_;first|rfl|(simp only[noRef,noRefs,Qah,Bool.and_self,Bool.and_true,Bool.true_and,Qab,Qal,Qaf,Qan,Qar,Qaw,Qai,Qap,Qaa,Qas,Qak,Qao,Qaq];done))|exact RnM.keyM rfl|exact RnL.nil|exact(True.intro:RnM _ _ _ [] [])|refine RnL.cons ?_ ?_|(refine Rn.same ?_;first|rfl|(simp only[noRef,noRefs,Qah,Bool.and_self,Bool.and_true,Bool.true_and,Qab,Qal,Qaf,Qan,Qar,Qaw,Qai,Qap,Qaa,Qas,Qak,Qao,Qaq];done))|exact Rn.x1 rfl rfl|exact Rn.x2 rfl rfl|exact Rn.x3 rfl rfl|exact Rn.x4 rfl rfl|exact Rn.x5 rfl|exact Rn.x6 rfl|exact Rn.x7 rfl|refine RB.newnil rfl rfl ?_|refine RB.cells rfl rfl rfl ?_ ?_|refine RB.map rfl rfl rfl ?_ ?_|refine RB.cellsB rfl rfl ?_ ?_|refine RB.mapB rfl rfl ?_ ?_)):p:=h
theorem _root_.Go.AM.au6{p:Prop}(h:p:=by repeat(first|exact RT.nil|(refine RT.cons ?_ ?_;·(first|exact Rn.any|exact Rn.x1 rfl rfl|exact Rn.x2 rfl rfl|exact Rn.x3 rfl rfl|exact Rn.x4 rfl rfl|exact Rn.x5 rfl|exact Rn.x6 rfl|exact Rn.x7 rfl|(refine Rn.slot ?_ ?_;(first|rfl|(rw[Int.natCast_add];rfl));(first|rfl|(simp only[noRef,noRefs,Qah,Bool.and_self,Bool.and_true,Bool.true_and,Qab,Qal,Qaf,Qan,Qar,Qaw,Qai,Qap,Qaa,Qas,Qak,Qao,Qaq];done)))|(refine Rn.fn ?_ ?_<;>(repeat'(first|exact RnL.nil|refine RnL.cons ?_ ?_|exact Rn.same rfl|exact Rn.x6 rfl|exact Rn.x2 rfl rfl|exact Rn.x5 rfl|exact Rn.x1 rfl rfl))))))):p:=h
theorem lost47(a:Aut)(u:List Nat)(l:LB)(rank:Int)(v:∀e∈a.es,e.1<a.n/\e.2.2<a.n)(E:l.length=a.n)(A:a.es.length<=1000000)(C:u.length<=1000000):HSpec Tryz.prog 85 [pv a u l,.int .i64 rank] .e (.sl 80 0 0 (lostF rank (pLost a.es (lf l) u)).length 4) (hp [(80,.cells 0 ((lostF rank (pLost a.es (lf l) u)).flatMap rmC))]):=by
 rw[<-ls_rm,show(lostF rank (pLost a.es (lf l) u)).length=(pLost a.es (lf l) u).length by unfold lostF;rw[List.length_map]];refine HSpec.QbA 100 ok85 rfl ?_;simp(disch:=first|omega|exact PairsOK.mk rfl|(simp only[lenW]<;>omega))only[s85,wW,wV,simprocAttr];refine Qay 100 (fun i:Nat=>[(0,pv a u l),(1,.int .i64 rank),(5,.sl 80 0 0 (pLost (a.es.take i) (lf l) u).length 4),(13,egsN a.es),(14,.int .i64 a.es.length),(15,.int .i64 i)]) (fun i=>[(80,.cells 0 ((pLost (a.es.take i) (lf l) u).flatMap (lsC rank)))]) (fun i=>i<=a.es.length) (fun i=>a.es.length-i) 0 0 120 (fun _:Unit=>[(5,.sl 80 0 0 (pLost a.es (lf l) u).length 4)]) (fun _=>[(80,.cells 0 ((pLost a.es (lf l) u).flatMap (lsC rank)))]) (fun _=>True) ?_ (Nat.zero_le _) ?_ ?_;·exact⟨[(80,.nil)],rfl,au0,au5,au6⟩
 ·rintro i hi;by_cases d:i<a.es.length
  ·obtain⟨e,he⟩:=Qav d;obtain⟨g,h⟩:=v e (List.mem_of_getElem? he);have b:=Qny (left:=lf l) (unc:=u) he;have t:=QoP (a.es.take i) (lf l) u;rw[List.length_take]at t;generalize pLost (a.es.take i) (lf l) u=o at*;have f:e.1<l.length:=by omega
   have j:e.2.2<l.length:=by omega
   by_cases h1:lf l e.1=true
   ·by_cases m:lf l e.2.2=true
    ·have :bad (lf l) u e=false:=by simp[bad,m]
     rw[pLs,if_neg (by simp[this])]at b;simp(disch:=first|omega|exact PairsOK.mk rfl|(simp only[lenW]<;>omega))only[d,QaZ he,g,h,Qa7 f,Qa7 j,h1,m,wW,wV,simprocAttr];refine⟨i+1,by omega,by omega,?_⟩;rw[b];exact⟨[(80,.blk 80 0)],rfl,au0,au5,au6⟩
    rw[Bool.not_eq_true]at m;by_cases q:u.contains e.2.1=true
    ·have B:bad (lf l) u e=true:=by simp only[bad,h1,m,q];rfl
     rw[pLs,if_pos B]at b;simp(disch:=first|omega|exact PairsOK.mk rfl|(simp only[lenW]<;>omega))only[d,QaZ he,g,h,Qa7 f,Qa7 j,h1,m,wW,wV,simprocAttr];have hc:=contains62 (nz u) e.2.1 (by simp;omega);rw[Qcl,Qk8,q]at hc;refine cp hc ?_;by_cases y:o.length=0
     ·have ho:o=[]:=List.eq_nil_of_length_eq_zero y;have c:o.getLast?=none:=by rw[ho];rfl
      rw[c,if_neg (by simp)]at b;have s:¬(0:Int)<(o.length:Int):=by omega
      have k:=QoN rank o;simp(disch:=first|omega|exact PairsOK.mk rfl|(simp only[lenW]<;>omega))only[s,k,wW,wV,simprocAttr];refine⟨i+1,by omega,by omega,?_⟩;rw[b,List.flatMap_append,List.length_append];exact⟨[(80,.blk 80 1)],rfl,au0,au5,au6⟩
     obtain⟨p,hp⟩:=Qav (l:=o) (i:=o.length-1) (by omega);have c:o.getLast?=some p:=by rw[List.getLast?_eq_getElem?];exact hp
     rw[c]at b;have x:(o.length:Int)-1=((o.length-1:Nat):Int):=by omega
     have s:(0:Int)<(o.length:Int):=by omega
     have w:((o.length-1:Nat):Int)<(o.length:Int):=by omega
     by_cases r:p.1=e.1;·rw[if_pos (by simpa using r)]at b;simp(disch:=first|omega|exact PairsOK.mk rfl|(simp only[lenW]<;>omega))only[x,s,w,QoO hp,r,wW,wV,simprocAttr];refine⟨i+1,by omega,by omega,?_⟩;rw[b];exact⟨[(80,.blk 80 0)],rfl,au0,au5,au6⟩
     rw[if_neg (by simpa using r)]at b;have k:=QoN rank o;simp(disch:=first|omega|exact PairsOK.mk rfl|(simp only[lenW]<;>omega))only[x,s,w,QoO hp,r,k,wW,wV,simprocAttr];refine⟨i+1,by omega,by omega,?_⟩;rw[b,List.flatMap_append,List.length_append];exact⟨[(80,.blk 80 1)],rfl,au0,au5,au6⟩
    rw[Bool.not_eq_true]at q;have:bad (lf l) u e=false:=by simp only[bad,h1,m,q];rfl
    rw[pLs,if_neg (by simp[this])]at b;simp(disch:=first|omega|exact PairsOK.mk rfl|(simp only[lenW]<;>omega))only[d,QaZ he,g,h,Qa7 f,Qa7 j,h1,m,wW,wV,simprocAttr];have hc:=contains62 (nz u) e.2.1 (by simp;omega);rw[Qcl,Qk8,q]at hc;refine cp hc ?_;simp(disch:=first|omega|exact PairsOK.mk rfl|(simp only[lenW]<;>omega))only[wW,wV,simprocAttr];refine⟨i+1,by omega,by omega,?_⟩;rw[b];exact⟨[(80,.blk 80 0)],rfl,au0,au5,au6⟩
   rw[Bool.not_eq_true]at h1;have:bad (lf l) u e=false:=by simp[bad,h1]
   rw[pLs,if_neg (by simp[this])]at b;simp(disch:=first|omega|exact PairsOK.mk rfl|(simp only[lenW]<;>omega))only[d,QaZ he,g,h,Qa7 f,Qa7 j,h1,wW,wV,simprocAttr];refine⟨i+1,by omega,by omega,?_⟩;rw[b];exact⟨[(80,.blk 80 0)],rfl,au0,au5,au6⟩
  have e:i=a.es.length:=by omega
  subst e;simp(disch:=first|omega|exact PairsOK.mk rfl|(simp only[lenW]<;>omega))only[d,wW,wV,simprocAttr];refine⟨(),?_⟩;exact⟨[(80,.blk 80 0)],rfl,au0,au5,au6⟩
 rintro _ _;simp(disch:=first|omega|exact PairsOK.mk rfl|(simp only[lenW]<;>omega))only[wW,wV,simprocAttr];exact⟨.inr trivial,_,rfl,⟨[(80,.blk 80 0)],rfl,au0,au5,au6⟩⟩
def blkP(left:Nat->Bool)(d:List Int)(n:Nat):List Nat:=(List.range n).filter fun i=>left i&&decide (d.getD i 0<0)
theorem Qrw(rank:Int)(l:List Nat):(l.flatMap (bkC rank)).length=l.length*4:=Qby (f:=bkC rank) (k:=4) (fun _=>rfl) l
theorem QmP(left:Nat->Bool)(rank:Int)(d:List Int):blkF left rank d=(blkP left d d.length).map fun x=>⟨x,rank,3,-1⟩:=by unfold blkF blkP;generalize List.range d.length=r;induction r with|nil=>rfl|cons x r a=>
 rw[List.filterMap_cons,List.filter_cons];by_cases h:(left x&&decide (d.getD x 0<0))=true;·rw[if_pos h,if_pos h,List.map_cons,<-a]
 rw[if_neg h,if_neg h,<-a]
theorem bk_rm(left:Nat->Bool)(rank:Int)(d:List Int):(blkP left d d.length).flatMap (bkC rank)=(blkF left rank d).flatMap rmC:=by rw[QmP,List.flatMap_map];rfl
theorem Qp0(left:Nat->Bool)(d:List Int)(n:Nat):(blkP left d n).length<=n:=by unfold blkP;exact Nat.le_trans (List.length_filter_le _ _) (by simp)
theorem QoQ{left:Nat->Bool}{d:List Int}{i:Nat}:blkP left d (i+1)=blkP left d i++if left i&&decide (d.getD i 0<0)then[i]else[]:=by
 unfold blkP;rw[List.range_succ,List.filter_append];congr 1;by_cases h:(left i&&decide (d.getD i 0<0))=true;·rw[if_pos h,List.filter_cons,if_pos h];rfl
 rw[if_neg h,List.filter_cons,if_neg h];rfl
theorem Qjw{n:Nat}{es:List Ed}{mk:List Nat}{left:Nat->Bool}(a:InN n es mk)(b:mk.Nodup):(pDist n es mk left).length=n:=(QoE a (n+1) 0 _ (Qit a b) (by omega)).1
theorem blocked48(a:Aut)(u:List Nat)(l:LB)(rank:Int)(j:InN a.n a.es a.ms)(h:a.ms.Nodup)(t:l.length=a.n)(w:a.n<=4096)(r:a.es.length<=1000000)(m:a.ms.length<=1000000):HSpec Tryz.prog 86 [pv a u l,.int .i64 rank] .e (.sl 81 0 0 (blkF (lf l) rank (pDist a.n a.es a.ms (lf l))).length 4) (hp [(81,.cells 0 ((blkF (lf l) rank (pDist a.n a.es a.ms (lf l))).flatMap rmC))]):=by
 have p:=Qjw (left:=lf l) j h;have s:=dist53 a u l j h t w r m;generalize pDist a.n a.es a.ms (lf l)=d at*;rw[<-bk_rm,QmP,List.length_map,p];refine HSpec.QbA 100 ok86 rfl ?_;simp(disch:=first|omega|exact PairsOK.mk rfl|(simp only[lenW]<;>omega))only[s86,wW,wV,simprocAttr];refine ch (HSpec.of_O (b:=80) (by(try simp only[noRefs,Qao,Qaq,Qab,Qal,Qaf,Qan,Qar,Qaw,Qai,noRef,Bool.and_self,Bool.and_true])<;>rfl) s (by repeat(first|exact Fresh.e|exact Fresh.le (by assumption) (by omega)|refine Fresh.set ?_ (by omega) (by omega))) rfl) ?_;simp(disch:=first|omega|exact PairsOK.mk rfl|(simp only[lenW]<;>omega))only[wW,wV,simprocAttr];refine Qay 110 (fun i:Nat=>[(0,pv a u l),(1,.int .i64 rank),(5,.sl 81 0 0 (blkP (lf l) d i).length 4),(9,.sl 80 0 0 a.n 1),(10,.int .i64 a.n),(11,.int .i64 i)]) (fun i=>[(80,.cells 0 (ints d)),(81,.cells 0 ((blkP (lf l) d i).flatMap (bkC rank)))]) (fun i=>i<=a.n) (fun i=>a.n-i) 0 0 120 (fun _:Unit=>[(5,.sl 81 0 0 (blkP (lf l) d a.n).length 4)]) (fun _=>[(81,.cells 0 ((blkP (lf l) d a.n).flatMap (bkC rank)))]) (fun _=>True) ?_ (Nat.zero_le _) ?_ ?_;·exact⟨[(80,.blk 80 0),(81,.nil)],rfl,au0,au5,au6⟩
 ·rintro i hi;by_cases c:i<a.n
  ·have b:=QoQ (left:=lf l) (d:=d) (i:=i);have v:=Qp0 (lf l) d i;generalize blkP (lf l) d i=o at*;have f:i<l.length:=by omega
   have g:i<d.length:=by omega
   have q:=Qrw rank o;by_cases h1:lf l i=true
   ·by_cases k:d.getD i 0<0;·rw[if_pos (by rw[h1,decide_eq_true k];rfl)]at b;simp(disch:=first|omega|exact PairsOK.mk rfl|(simp only[lenW]<;>omega))only[c,Qbj g,Qa7 f,h1,k,q,wW,wV,simprocAttr];refine⟨i+1,by omega,by omega,?_⟩;rw[b,List.flatMap_append,List.length_append];exact⟨[(80,.blk 80 0),(81,.blk 81 1)],rfl,au0,au5,au6⟩
    rw[if_neg (by rw[h1,decide_eq_false k];decide),List.append_nil]at b;simp(disch:=first|omega|exact PairsOK.mk rfl|(simp only[lenW]<;>omega))only[c,Qbj g,Qa7 f,h1,k,wW,wV,simprocAttr];refine⟨i+1,by omega,by omega,?_⟩;rw[b];exact⟨[(80,.blk 80 0),(81,.blk 81 0)],rfl,au0,au5,au6⟩
   rw[if_neg (by simp[h1]),List.append_nil]at b;rw[Bool.not_eq_true]at h1;simp(disch:=first|omega|exact PairsOK.mk rfl|(simp only[lenW]<;>omega))only[c,Qbj g,Qa7 f,h1,wW,wV,simprocAttr];refine⟨i+1,by omega,by omega,?_⟩;rw[b];exact⟨[(80,.blk 80 0),(81,.blk 81 0)],rfl,au0,au5,au6⟩
  have e:i=a.n:=by omega
  subst e;simp(disch:=first|omega|exact PairsOK.mk rfl|(simp only[lenW]<;>omega))only[c,wW,wV,simprocAttr];refine⟨(),?_⟩;exact⟨[(81,.blk 81 0)],rfl,au0,au5,au6⟩
 rintro _ _;simp(disch:=first|omega|exact PairsOK.mk rfl|(simp only[lenW]<;>omega))only[wW,wV,simprocAttr];exact⟨.inr trivial,_,rfl,⟨[(81,.blk 81 0)],rfl,au0,au5,au6⟩⟩
end Go.AM.SE
namespace Go.AM.SE
open Go.Proofs Go.AM.SD
theorem QfV(l:List Rm):(l.flatMap rmC).length=l.length*4:=Qby (f:=rmC) (k:=4) (fun _=>rfl) l
theorem QqI(l:List Rm):flatVs (l.flatMap rmC)=true:=by induction l with|nil=>rfl|cons x l a=>rw[List.flatMap_cons];simp only[rmC,List.cons_append,List.nil_append,flatVs,flatV,Bool.true_and];exact a
theorem QcT(l:List Int):flatVs (ints l)=true:=by induction l with|nil=>rfl|cons x l a=>simp only[ints,List.map_cons,flatVs,flatV,Bool.true_and];exact a
theorem FrzTo.all{h:Heap}{b g len sz:Nat}{cs:List AV}(c:h.get b=some (.cells g cs))(a:cs.length=len*sz):FrzTo h (.sl b g 0 len sz) (.fsl cs len sz):=by refine FrzTo.sl c (by omega) ?_;rw[List.drop_zero,<-a,List.take_length];exact FrzL.same _
theorem frzP{h:Heap}{a:Aut}{u:List Nat}{l:LB}(d:h.get 70=some (.cells 0 (pblk a u)))(c:h.get 71=some (.map 0 (mapF .i64 (backF a.es) (keysR a.es))))(b:h.get 72=some (.cells 0 (bls l)))(f:l.length=a.n):FrzTo h (.ptr 70 0 0) (pv a u l):=by refine FrzTo.ptr d ?_;rw[List.drop_zero];exact FrzL.cons (FrzTo.same _) (FrzL.cons (FrzTo.same _) (FrzL.cons (FrzTo.same _) (FrzL.cons (FrzTo.same _) (FrzL.cons (FrzTo.same _) (FrzL.cons (FrzTo.mapF c fun x _=>FrzTo.same _) (FrzL.cons (FrzTo.all b (by rw[Qiv,f,Nat.mul_one])) FrzL.nil))))))
theorem next35(a:Aut)(u:List Nat)(l:LB)(rank:Int)(all:Bool)(d:InN a.n a.es a.ms)(g:a.ms.Nodup)(i:l.length=a.n)(k:a.n<=4096)(b:a.es.length<=1000000)(h:a.ms.length<=1000000)(f:u.length<=1000000):HSpec Tryz.prog 55 [pv a u l,.int .i64 rank,.bool all] .e (.sl 82 0 0 (pNext a.n a.es a.ms (lf l) u rank all).length 4) (hp [(82,.cells 0 ((pNext a.n a.es a.ms (lf l) u rank all).flatMap rmC))]):=by
 have h1:=lost47 a u l rank (fun e he=>d.1 e he) i b f;have j:=blocked48 a u l rank d g i k b h;have hlen:(lostF rank (pLost a.es (lf l) u)).length=(pLost a.es (lf l) u).length:=by unfold lostF;rw[List.length_map]
 unfold pNext;refine HSpec.QbA 100 ok55 rfl ?_;simp(disch:=first|omega|exact PairsOK.mk rfl|(simp only[lenW]<;>omega))only[s55,wW,wV,simprocAttr];refine ch (HSpec.of_O (b:=80) (by(try simp only[noRefs,Qao,Qaq,Qab,Qal,Qaf,Qan,Qar,Qai,noRef,Bool.and_self,Bool.and_true])<;>rfl) h1 (by repeat(first|exact Fresh.e|exact Fresh.le (by assumption) (by omega)|refine Fresh.set ?_ (by omega) (by omega))) rfl) ?_;rw[hlen];by_cases c:0<(pLost a.es (lf l) u).length;·rw[if_pos (by simp[c])];rw[hlen];generalize pLost a.es (lf l) u=o at*;simp(disch:=first|omega|exact PairsOK.mk rfl|(simp only[lenW]<;>omega))only[c,wW,wV,simprocAttr];exact⟨.inr trivial,_,rfl,⟨[(82,.blk 80 0)],rfl,au0,au5,au6⟩⟩
 cases all with|false=>rw[if_pos (by simp)];rw[hlen];generalize pLost a.es (lf l) u=o at*;simp(disch:=first|omega|exact PairsOK.mk rfl|(simp only[lenW]<;>omega))only[c,wW,wV,simprocAttr];exact⟨.inr trivial,_,rfl,⟨[(82,.blk 80 0)],rfl,au0,au5,au6⟩⟩|true=>rw[if_neg (by simp[c])];generalize pLost a.es (lf l) u=o at*;simp(disch:=first|omega|exact PairsOK.mk rfl|(simp only[lenW]<;>omega))only[c,wW,wV,simprocAttr];refine ch (HSpec.of_O (b:=81) (by(try simp only[noRefs,Qao,Qaq,Qab,Qal,Qaf,Qan,Qar,Qai,noRef,Bool.and_self,Bool.and_true])<;>rfl) j (by repeat(first|exact Fresh.e|exact Fresh.le (by assumption) (by omega)|refine Fresh.set ?_ (by omega) (by omega))) rfl) ?_;generalize blkF (lf l) rank (pDist a.n a.es a.ms (lf l))=q at*;simp(disch:=first|omega|exact PairsOK.mk rfl|(simp only[lenW]<;>omega))only[wW,wV,simprocAttr];exact⟨.inr trivial,_,rfl,⟨[(82,.blk 81 0)],rfl,au0,au5,au6⟩⟩
theorem WfA.auOk{a:Aut}(h:WfA a)(c:a.es.length<=1000000):AuOk (au a):=by
 have g:a.al.length<=32:=Qbb 32 a.al (by rw[List.nodup_iff_pairwise_ne];exact h.al.imp fun h=>by omega) h.al5;have d:a.ms.length<=a.n:=Qbb a.n a.ms h.nd h.msn;have f:=h.n5;refine{len:=?_,all:=?_,fr:=?_,to:=?_,ev:=?_,up:=?_,alS:=SetOk.nz (n:=32) (fun x b=>by have:=h.al5 x b;omega) h.al,msS:=SetOk.nz h.msn h.ms,mslen:=?_,n0:=?_,nm:=?_};·show(a.es.map eg).length<=_;simp;omega
 ·show(nz a.al).length<=_;simp;omega
 ·intro e he;obtain⟨x,b,rfl⟩:=List.mem_map.1 he;have:=h.esn x b;show(0:Int)<=x.1/\(x.1:Int)<a.n;omega
 ·intro e he;obtain⟨x,b,rfl⟩:=List.mem_map.1 he;have:=h.esn x b;show(0:Int)<=x.2.2/\(x.2.2:Int)<a.n;omega
 ·intro e he;obtain⟨x,b,rfl⟩:=List.mem_map.1 he;exact List.mem_map.2 ⟨x.2.1,h.ev x b,rfl⟩
 ·show(a.es.map eg).Pairwise _;rw[List.pairwise_map];refine h.es.imp fun h=>?_;show(_:Int)<_\/(_:Int)=_/\(_:Int)<_;simp only[eg];omega
 ·show(nz a.ms).length<=_;simp;omega
 ·show(0:Int)<=(a.n:Int);omega
 show(a.n:Int)<=4096;omega
structure QOk(a:Aut)(f u:List Nat):Prop where
 fS:f.Pairwise (·<·)fn:∀x∈f,x<a.n
 uS:u.Pairwise (·<·)un:∀x∈u,x<32
theorem QbD{l:List Nat}{n:Nat}(h:l.Pairwise (·<·))(a:∀x∈l,x<n):l.length<=n:=Qbb n l (by rw[List.nodup_iff_pairwise_ne];exact h.imp fun h=>by omega) a
theorem WfA.elK{a:Aut}{k:Nat}(h:WfA a)(g:∀x∈a.al,x<k):a.es.length<=a.n*k:=by
 have f:∀e∈a.es,e.2.1<k:=fun e he=>g _ (h.ev e he);have i:(a.es.map fun e=>e.1*k+e.2.1).Pairwise (·<·):=by
  rw[List.pairwise_map];refine h.es.imp_of_mem fun{x y}d l b=>?_;have h1:=f x d;rcases b with c|⟨c,j⟩;·have :=Nat.mul_le_mul_right k (show x.1+1<=y.1 from c);rw[Nat.succ_mul]at this;omega
  rw[c];omega
 have:=QbD i (n:=a.n*k) fun x d=>by obtain⟨e,he,rfl⟩:=List.mem_map.1 d;have h1:=f e he;have:=Nat.mul_le_mul_right k (show e.1+1<=a.n from(h.esn e he).1);rw[Nat.succ_mul]at this;show e.1*k+e.2.1<_;omega
 rwa[List.length_map]at this
theorem WfA.el1{a:Aut}(h:WfA a):a.es.length<=131072:=by have h1:=WfA.elK h h.al5;have b:=Nat.mul_le_mul_right 32 h.n5;omega
end Go.AM.SE
namespace Go.AM.SD
def stR(l:List Rm)(k:Nat):Nat:=(l.getD k (rm0 0)).st
def sw(l:List Rm)(j:Nat):List Rm:=(l.set (j+1) (l.getD j (rm0 0))).set j (l.getD (j+1) (rm0 0))
def insJ:Nat->List Rm->List Rm|0,l=>l|j+1,l=>if stR l (j+1)<stR l j then insJ j (sw l j)else l
def isort(l:List Rm):Nat->List Rm|0=>l|i+1=>insJ (i+1) (isort l i)
theorem Qlb{l:List Rm}{j:Nat}:(sw l j).length=l.length:=by simp[sw]
theorem Qlc:∀(j:Nat)(l:List Rm),(insJ j l).length=l.length
 |0,l=>rfl|j+1,l=>by
  simp only[insJ];split;·rw[Qlc j,Qlb]
  rfl
theorem Qcw(l:List Rm):∀i,(isort l i).length=l.length|0=>rfl|i+1=>by rw[isort,Qlc,Qcw l i]
theorem Qh2{l:List Rm}{j k:Nat}(b:j+1<l.length):stR (sw l j) k=if k=j then stR l (j+1)else if k=j+1 then stR l j else stR l k:=by
 unfold stR sw;simp only[List.getD_eq_getElem?_getD,List.getElem?_set,List.length_set];by_cases h1:k=j;·subst h1;rw[if_pos rfl,if_pos rfl,if_pos (by omega)];rfl
 rw[if_neg (fun e=>h1 e.symm),if_neg h1];by_cases a:k=j+1;·subst a;rw[if_pos rfl,if_pos rfl,if_pos b];rfl
 rw[if_neg (fun e=>a e.symm),if_neg a]
theorem QqJ{l:List Rm}{j:Nat}(a:j+1<l.length):(sw l j).Perm l:=by
 have h1:l.getD j (rm0 0)=l[j]:=by simp[show j<l.length by omega]
 have b:l.getD (j+1) (rm0 0)=l[j+1]:=by simp[a]
 unfold sw;rw[h1,b];exact List.set_set_perm (i:=j+1) (j:=j) a (by omega)
theorem Qjx:∀(j:Nat)(l:List Rm),j<l.length->(insJ j l).Perm l
 |0,l,_=>List.Perm.refl _|j+1,l,h=>by
  simp only[insJ];split;·exact(Qjx j (sw l j) (by rw[Qlb];omega)).trans (QqJ h)
  exact List.Perm.refl _
theorem Qh3(l:List Rm):∀i,i<l.length\/i=0->(isort l i).Perm l|0,_=>List.Perm.refl _|i+1,h=>by rw[isort];exact(Qjx (i+1) _ (by rw[Qcw];omega)).trans (Qh3 l i (by omega))
def SrtTo(l:List Rm)(i:Nat):Prop:=∀p q,p<q->q<=i->stR l p<=stR l q
theorem Qld:∀(j i:Nat)(l:List Rm),j<=i->i<l.length->(∀p q,p<q->q<=i->p≠j->q≠j->stR l p<=stR l q)->(∀q,j<q->q<=i->stR l j<=stR l q)->SrtTo (insJ j l) i
 |0,i,l,m,hi,h1,f=>fun p q a b=>by
  rw[insJ];by_cases e:p=0;·subst e;exact f q a b
  exact h1 p q a b e (by omega)|j+1,i,l,m,hi,h1,f=>by
  rw[insJ];split
  ·rename_i o;refine Qld j i (sw l j) (by omega) (by rw[Qlb];exact hi) (fun p q a b hp h=>?_) (fun q b g=>?_)
   ·rw[Qh2 (by omega),Qh2 (by omega),if_neg hp,if_neg h];by_cases d:p=j+1;·subst d;rw[if_pos rfl,if_neg (by omega)];exact h1 j q (by omega) b (by omega) (by omega)
    rw[if_neg d];by_cases c:q=j+1;·subst c;rw[if_pos rfl];exact h1 p j (by omega) (by omega) d (by omega)
    rw[if_neg c];exact h1 p q a b d c
   rw[Qh2 (by omega),Qh2 (by omega),if_pos rfl,if_neg (by omega)];by_cases e:q=j+1;·subst e;rw[if_pos rfl];omega
   rw[if_neg e];exact f q (by omega) g
  rename_i k;intro p q a b;by_cases d:q=j+1
  ·subst d;by_cases c:p=j;·subst c;omega
   have :=h1 p j (by omega) (by omega) (by omega) (by omega);omega
  by_cases c:p=j+1;·subst c;exact f q a b
  exact h1 p q a b c d
theorem Qjy(l:List Rm):∀i,i<l.length->SrtTo (isort l i) i|0,_=>fun p q a c=>by omega|i+1,h=>by have d:=Qjy l i (by omega);rw[isort];refine Qld (i+1) (i+1) _ (Nat.le_refl _) (by rw[Qcw];exact h) (fun p q a c hp b=>d p q a (by omega)) (fun q c b=>by omega)
theorem Qnz{l:List Rm}(h:0<l.length):(isort l (l.length-1)).Pairwise fun a b=>a.st<=b.st:=by rw[List.pairwise_iff_getElem];intro i j hi d c;rw[Qcw]at hi d;have:=Qjy l (l.length-1) (by omega) i j c (by omega);unfold stR at this;rw[List.getD_eq_getElem?_getD,List.getD_eq_getElem?_getD,List.getElem?_eq_getElem (by rw[Qcw];exact hi),List.getElem?_eq_getElem (by rw[Qcw];exact d)]at this;exact this
def srtR(l:List Rm):List Rm:=isort l (l.length-1)
theorem QoR(l:List Rm):(srtR l).Perm l:=by unfold srtR;cases l with|nil=>exact List.Perm.refl _|cons a l=>exact Qh3 _ _ (by simp)
theorem QoS(l:List Rm):(srtR l).Pairwise fun a b=>a.st<=b.st:=by unfold srtR;cases l with|nil=>exact List.Pairwise.nil|cons a l=>exact Qnz (by simp)
theorem Qp1(l:List Rm):(srtR l).length=l.length:=Qcw l _
end Go.AM.SD
namespace Go.AM.SE
open Go.Proofs Go.AM.SD
theorem QnA:aEq (.nil 2) false .nilsl .nilsl=some (.bool true):=rfl
theorem QnB:aEq (.nil 2) false .nsl .nilsl=some (.bool false):=rfl
theorem Qev{P:Program}{N:NM}{n:Nat}{d:Option Nat}{dead:List Nat}{r:List SOper}{T:Tmps}{h:Heap}{Q:QC}{fs:List Fr}{sz bytes b2 c b a:Nat}:wM P N (aAppend .dyn n sz bytes (.sl b2 c b a sz) .nsl) d r dead fs n T h Q=wA P N (srcB (h.get b2) c b a sz) (some []) c a 0 sz bytes b2 d r dead fs n T h Q:=Qet
theorem QoT:HSpec Tryz.prog 43 [.nilsl] .e (.sl 83 0 0 0 1) (hp [(83,.cells 0 [])]):=by refine HSpec.QbA 100 ok43 rfl ?_;simp(disch:=first|omega|(simp only[lenW]<;>omega))only[s43,QnA,wW,wV,simprocAttr];exact⟨.inr trivial,_,rfl,⟨[(83,.nil)],rfl,au0,au5,au6⟩⟩
theorem QoU:HSpec Tryz.prog 43 [.nsl] .e (.sl 83 0 0 0 1) (hp [(83,.cells 0 [])]):=by refine HSpec.QbA 100 ok43 rfl ?_;simp(disch:=first|omega|(simp only[lenW]<;>omega))only[s43,QnB,Qev,wW,wV,simprocAttr];exact⟨.inr trivial,_,rfl,⟨[(83,.blk 103 1)],rfl,au0,au5,au6⟩⟩
theorem clone56(l:List Nat)(c:l.length<=1000000):HSpec Tryz.prog 43 [sliN l] .e (.sl 83 0 0 l.length 1) (hp [(83,.cells 0 (ints (nz l)))]):=by cases l with|nil=>exact HSpec.empty QoT QoU|cons x l=>
 refine HSpec.QbA 100 ok43 rfl ?_;have b:aEq (.nil 2) false (sliN (x::l)) .nilsl=some (.bool false):=rfl;have a:(ints (nz (x::l))).all AV.one=true:=by simp[ints,AV.one]
 generalize x::l=q at*;simp(disch:=first|omega|(simp only[lenW]<;>omega))only[s43,b,a,wW,wV,simprocAttr];exact⟨.inr trivial,_,rfl,⟨[(83,.blk 103 1)],rfl,au0,au5,au6⟩⟩
end Go.AM.SE
namespace Go.AM.SE
open Go.Proofs Go.AM.SD
abbrev frzE(es:List Ed)(left:Nat->Bool):Nat->AV:=fun k=>egsN (sOut es left k)
abbrev rowE(es:List Ed)(left:Nat->Bool):Nat->List AV:=fun k=>(sOut es left k).flatMap edC
abbrev ptrE(es:List Ed)(left:Nat->Bool):Nat->AV:=fun k=>.sl (300+k) 0 0 (sOut es left k).length 3
theorem Qau(es:List Ed)(left:Nat->Bool)(l:List Nat):noRefs (l.map (frzE es left))=true:=Qdr (fun x=>Qak _) l
theorem Qd9(l:List Ed):(l.flatMap edC).length=l.length*3:=Qby (f:=edC) (k:=3) (fun _=>rfl) l
theorem QqK(l:List Ed):flatVs (l.flatMap edC)=true:=by induction l with|nil=>rfl|cons x l a=>rw[List.flatMap_cons];simp only[edC,List.cons_append,List.nil_append,flatVs,flatV,Bool.true_and];exact a
theorem QoV{es:List Ed}{left:Nat->Bool}{i:Nat}{e:Ed}(h:es[i]?=some e)(v:Nat):sOut (es.take (i+1)) left v=sOut (es.take i) left v++if e.1=v/\left e.2.2=true then[e]else[]:=by unfold sOut;rw[List.take_add_one,h,Option.toList,List.filter_append];congr 1;by_cases h1:e.1=v<;>by_cases a:left e.2.2=true<;>simp[h1,a]
theorem Qea(es:List Ed)(left:Nat->Bool)(v:Nat):(sOut es left v).length<=es.length:=by unfold sOut;exact List.length_filter_le _ _
theorem repN(n:Nat):(List.replicate n [AV.nilsl]).flatten=(List.range n).map fun _=>AV.nilsl:=by rw[List.map_const',List.length_range];induction n with|zero=>rfl|succ n a=>rw[List.replicate_succ,List.flatten_cons,a];rfl
theorem Qp2{es:List Ed}{left:Nat->Bool}{n i:Nat}(h:i<n):((List.range n).map (frzE es left))[i]?=some (egsN (sOut es left i)):=Qjo h
abbrev numF(o:List Nat):Nat->AV:=fun x=>.int .i64 (idx o x:Nat)
def mks(a:Aut)(i:Nat)(o:List Nat):List Nat:=(List.range i).filter fun j=>a.ms.contains (o.getD j 0)
theorem QmQ{a:Aut}{i:Nat}{o:List Nat}:(mks a i o).length<=i:=by unfold mks;exact Nat.le_trans (List.length_filter_le _ _) (by simp)
theorem QmR{a:Aut}{i:Nat}{o t:List Nat}(h:i<=o.length):mks a i (o++t)=mks a i o:=by unfold mks;refine List.filter_congr fun j b=>?_;have:=List.mem_range.1 b;rw[List.getD_eq_getElem?_getD,List.getD_eq_getElem?_getD,List.getElem?_append_left (by omega)]
theorem Qle{a:Aut}{i v:Nat}{o:List Nat}(h:o[i]?=some v):mks a (i+1) o=mks a i o++if a.ms.contains v then[i]else[]:=by
 unfold mks;rw[List.range_succ,List.filter_append];congr 1;have:o.getD i 0=v:=by rw[List.getD_eq_getElem?_getD,h];rfl
 rw[List.filter_cons,this];rfl
theorem QfW{i:Nat}{s:OE}{es:List Ed}{j:Nat}{e:Ed}(h:es[j]?=some e):(es.take (j+1)).foldl (sEd i) s=sEd i ((es.take j).foldl (sEd i) s) e:=by rw[List.take_add_one,h,Option.toList,List.foldl_append];rfl
theorem QcK{i:Nat}:∀(es:List Ed)(s:OE),(es.foldl (sEd i) s).2.length=s.2.length+es.length|[],s=>by simp|e::es,s=>by rw[List.foldl_cons,QcK es];unfold sEd;split<;>simp<;>omega
abbrev ablk(a:Aut):List AV:=[.sl 83 0 0 a.al.length 1,.int .i64 0,.nilsl,.nilsl]
theorem _root_.Go.AM.au7{p:Prop}(h:p:=by repeat(first|exact RT.nil|(refine RT.cons ?_ ?_;·(first|exact Rn.any|exact Rn.x1 rfl rfl|exact Rn.x2 rfl rfl|exact Rn.x3 rfl rfl|exact Rn.x4 rfl rfl|exact Rn.x5 rfl|exact Rn.x6 rfl|exact Rn.x7 rfl|(refine Rn.slot ?_ ?_;(first|rfl|(rw[Int.natCast_add];rfl));(first|rfl|(simp only[noRef,noRefs,Qah,Bool.and_self,Bool.and_true,Bool.true_and,Qab,Qal,Qaf,Qan,Qar,Qaw,Qai,Qap,Qaa,Qas,Qak,Qao,Qaq,Qau];done)))|(refine Rn.fn ?_ ?_<;>(repeat'(first|exact RnL.nil|refine RnL.cons ?_ ?_|exact Rn.same rfl|exact Rn.x6 rfl|exact Rn.x2 rfl rfl|exact Rn.x5 rfl|exact Rn.x1 rfl rfl))))))):p:=h
theorem _root_.Go.AM.au8{p:Prop}(h:p:=by repeat'(first|exact RB.nil|(refine RnL.same ?_;first|rfl|(simp only[noRef,noRefs,Qah,Bool.and_self,Bool.and_true,Bool.true_and,Qab,Qal,Qaf,Qan,Qar,Qaw,Qai,Qap,Qaa,Qas,Qak,Qao,Qaq,Qau];done))|exact RnM.keyM rfl|exact RnL.nil|exact(True.intro:RnM _ _ _ [] [])|refine RnL.cons ?_ ?_|(refine Rn.same ?_;first|rfl|(simp only[noRef,noRefs,Qah,Bool.and_self,Bool.and_true,Bool.true_and,Qab,Qal,Qaf,Qan,Qar,Qaw,Qai,Qap,Qaa,Qas,Qak,Qao,Qaq,Qau];done))|exact Rn.x1 rfl rfl|exact Rn.x2 rfl rfl|exact Rn.x3 rfl rfl|exact Rn.x4 rfl rfl|exact Rn.x5 rfl|exact Rn.x6 rfl|exact Rn.x7 rfl|refine RB.newnil rfl rfl ?_|refine RB.cells rfl rfl rfl ?_ ?_|refine RB.map rfl rfl rfl ?_ ?_|refine RB.cellsB rfl rfl ?_ ?_|refine RB.mapB rfl rfl ?_ ?_)):p:=h
theorem super54(a:Aut)(u:List Nat)(l:LB)(hw:WfA a)(hl:l.length=a.n)(hel:a.es.length<=1000000)(hul:u.length<=1000000):FSpec Tryz.prog 59 [pv a u l] (.tup [aV (restr a (lf l)),sliN (sAll a (lf l)).1]):=by
 have hn5:=hw.n5;have hal:a.al.length<=32:=Qbb 32 a.al (by rw[List.nodup_iff_pairwise_ne];exact hw.al.imp fun h=>by omega) hw.al5;have hms:a.ms.length<=a.n:=Qbb a.n a.ms hw.nd hw.msn;refine FSpec.of_wS 60 ok59 rfl (by(try simp only[noRefs,Qao,Qaq,Qab,Qal,Qaf,Qan,Qar,Qai,noRef,Bool.and_self,Bool.and_true])<;>rfl) (by simp only[noRef,noRefs,Qab,Qaf];rfl) ?_;simp(disch:=first|omega|exact PairsOK.mk rfl|(simp only[lenW]<;>omega))only[s59,wW,wV,simprocAttr];refine ch (HSpec.of_O (b:=83) (by(try simp only[noRefs,Qao,Qaq,Qab,Qal,Qaf,Qan,Qar,Qai,noRef,Bool.and_self,Bool.and_true])<;>rfl) (clone56 a.al (by omega)) (by repeat(first|exact Fresh.e|exact Fresh.le (by assumption) (by omega)|refine Fresh.set ?_ (by omega) (by omega))) rfl) ?_;by_cases h0:a.n=0
 ·have e:sAll a (lf l)=([],[]):=by unfold sAll;rw[h0];rfl
  have O:(a.n:Int)=0:=by omega
  simp(disch:=first|omega|exact PairsOK.mk rfl|(simp only[lenW]<;>omega))only[O,wW,wV,simprocAttr];refine⟨.inr trivial,_,rfl,?_⟩;have hr:restr a (lf l)=⟨a.al,0,[],[]⟩:=by unfold restr;rw[e];rfl
  rw[hr,e];exact RnO.tup (RnOL.cons (RnO.agg (RnOL.cons (RnO.slm (g:=0) rfl rfl rfl (QcT _) (by simp[ints])) (RnOL.cons (RnO.flat rfl) (RnOL.cons RnO.nil (RnOL.cons RnO.nil RnOL.nil))))) (RnOL.cons RnO.nil RnOL.nil))
 have O:¬(a.n:Int)=0:=by omega
 have h0n:(0:Int)<(a.n:Int):=by omega
 have h0l:0<l.length:=by omega
 have hh0:(bls l).head?=some (.bool (lf l 0)):=by have:=Qa7 h0l;simpa using this
 by_cases E:lf l 0=true
 ·have hn':(a.n:Int)<=140737488355328:=by omega
  have hn24:(24:Int)*(a.n:Int)<=140737488355328:=by omega
  simp(disch:=first|omega|exact PairsOK.mk rfl|(simp only[lenW]<;>omega))only[O,h0n,hh0,E,hn',hn24,repN,wW,wV,simprocAttr];have hrn:∀k∈List.range a.n,k<1000000:=fun k d=>by have:=List.mem_range.1 d;omega
  refine Qay 100 (fun i:Nat=>[(0,pv a u l),(2,.ptr 60 0 0),(4,.ptr 69 0 0),(5,.sl 78 0 0 a.n 1),(48,egsN a.es),(49,.int .i64 a.es.length),(50,.int .i64 i)]) (fun i=>[(60,.cells 0 [.nilsl,.int .i64 0,.nilsl,.nilsl]),(69,.cells 0 (ablk a)),(83,.cells 0 (ints (nz a.al))),(78,.cells 0 ((List.range a.n).map (ptrE (a.es.take i) (lf l))))]++rowsL (rowE (a.es.take i) (lf l)) (List.range a.n)) (fun i=>i<=a.es.length) (fun i=>a.es.length-i) 0 0 160 (fun _:Unit=>[(0,pv a u l),(2,.ptr 60 0 0),(4,.ptr 69 0 0),(5,.sl 78 0 0 a.n 1)]) (fun _=>[(60,.cells 0 [.nilsl,.int .i64 0,.nilsl,.nilsl]),(69,.cells 0 (ablk a)),(83,.cells 0 (ints (nz a.al))),(78,.cells 0 ((List.range a.n).map (frzE a.es (lf l))))]) (fun _=>True) ?_ (Nat.zero_le _) ?_ ?_
  ·refine⟨[(60,.blk 60 0),(69,.blk 69 0),(83,.blk 83 0),(78,.blk 91 0)]++psL (fun _=>.nil) (List.range a.n),Qe3 (Qdx List.nodup_range hrn (fun _ _ _ _ _ b g Q P h=>by cases h)) rfl (by decide) (fun _ _ _ _ _ _ _ b g h=>by cases h),RO.zero,?_,au7⟩;refine RB.cells rfl rfl rfl (RnL.same rfl) (RB.cells rfl rfl rfl ?_ (RB.cells rfl rfl rfl (RnL.same (Qab _)) (RB.cells rfl rfl rfl (QeF fun k d=>Rn.x4 rfl (QeE d (A:=[(60,.blk 60 0),(69,.blk 69 0),(83,.blk 83 0),(78,.blk 91 0)]) (by decide))) ?_)));·repeat'(first|exact RB.nil|(refine RnL.same ?_;first|rfl|(simp only[noRef,noRefs,Qah,Bool.and_self,Bool.and_true,Bool.true_and,Qab,Qal,Qaf,Qan,Qar,Qaw,Qai,Qap,Qaa,Qas,Qak,Qao,Qaq,Qau];done))|exact RnM.keyM rfl|exact RnL.nil|exact(True.intro:RnM _ _ _ [] [])|refine RnL.cons ?_ ?_|(refine Rn.same ?_;first|rfl|(simp only[noRef,noRefs,Qah,Bool.and_self,Bool.and_true,Bool.true_and,Qab,Qal,Qaf,Qan,Qar,Qaw,Qai,Qap,Qaa,Qas,Qak,Qao,Qaq,Qau];done))|exact Rn.x1 rfl rfl|exact Rn.x2 rfl rfl|exact Rn.x3 rfl rfl|exact Rn.x4 rfl rfl|exact Rn.x5 rfl|exact Rn.x6 rfl|exact Rn.x7 rfl|refine RB.newnil rfl rfl ?_|refine RB.cells rfl rfl rfl ?_ ?_|refine RB.map rfl rfl rfl ?_ ?_|refine RB.cellsB rfl rfl ?_ ?_|refine RB.mapB rfl rfl ?_ ?_)
   exact Qdj fun k d=>RB.newnil rfl (QeE d (A:=[(60,.blk 60 0),(69,.blk 69 0),(83,.blk 83 0),(78,.blk 91 0)]) (by decide)) RB.nil
  ·rintro i hi;have U:∀b,b<300->(hp (rowsL (rowE (a.es.take i) (lf l)) (List.range a.n))).get b=none:=fun b Z=>QeZ hrn fun k d=>by omega
   by_cases q:i<a.es.length
   ·obtain⟨e,he⟩:=Qav q;obtain⟨J,X⟩:=hw.esn e (List.mem_of_getElem? he);have m:∀k:Nat,k<a.n->(hp (rowsL (rowE (a.es.take i) (lf l)) (List.range a.n))).get (300+k)=some (.cells 0 (rowE (a.es.take i) (lf l) k)):=fun k d=>Qct List.nodup_range hrn (List.mem_range.2 d);have y:=m e.1 J;have htl:e.2.2<l.length:=by omega
    have c:=QoV (left:=lf l) he;have hpl:=Qea (a.es.take i) (lf l) e.1;rw[List.length_take]at hpl;have A:=Qd9 (sOut (a.es.take i) (lf l) e.1);by_cases h1:lf l e.2.2=true
    ·simp(disch:=first|omega|exact PairsOK.mk rfl|(simp only[lenW]<;>omega))only[List.cons_append,List.nil_append,q,QaZ he,U,X,Qa7 htl,h1,wW,wV,simprocAttr];refine Qe2 [(69,[300+e.1])] rfl ?_ ?_;·exact QdD (a:=[103]) (b:=[123,300+e.1,122]) rfl rfl (fun x I=>by simp only[List.mem_cons,List.not_mem_nil,or_false]at I⊢;omega) Qjn
     have hfr1:e.1+1<=a.n:=by omega
     simp(disch:=first|omega|exact PairsOK.mk rfl|(simp only[lenW]<;>omega))only[U,J,y,A,Qjo J,QoD J,List.length_range,hfr1,wW,wV,simprocAttr];refine⟨⟨⟨_,rfl,fun b Z=>Z⟩,trivial⟩,i+1,by omega,by omega,?_⟩;have B:∀k b g,(fun k=>if k=e.1 then Src.blk (300+e.1) 1 else Src.blk (300+k) 0) k=.blk b g->b=300+k:=by
      intro k b g f;dsimp only at f;split at f<;>cases f;·rename_i L;rw[L]
      rfl
     refine⟨[(60,.blk 60 0),(69,.blk 69 0),(83,.blk 83 0),(78,.blk 78 0)]++psL (fun k=>if k=e.1 then Src.blk (300+e.1) 1 else Src.blk (300+k) 0) (List.range a.n),Qe3 (A:=[(60,.blk 60 0),(69,.blk 69 0),(83,.blk 83 0),(78,.blk 78 0)]) (L:=[(60,_),(69,_),(83,_),(78,_)]) (Qdx List.nodup_range hrn (fun k d j hj hkj b g Q P h1 f=>?_)) rfl (by decide) (fun p hp b g Z k d Q P h1=>?_),RO.zero,?_,au7⟩;·have :=B k b g h1;have:=B j Q P f;omega
     ·have f:=B k Q P h1;simp only[List.mem_cons,List.not_mem_nil,or_false]at hp;rcases hp with rfl|rfl|rfl|rfl<;>cases Z<;>omega
     refine RB.cells rfl rfl gg (RnL.same rfl) (RB.cells rfl rfl gg ?_ (RB.cells rfl rfl gg (RnL.same (Qab _)) (RB.cells rfl rfl gg (QeF fun k d=>?_) (Qdj fun k d=>?_))));·repeat'(first|exact RB.nil|(refine RnL.same ?_;first|rfl|(simp only[noRef,noRefs,Qah,Bool.and_self,Bool.and_true,Bool.true_and,Qab,Qal,Qaf,Qan,Qar,Qaw,Qai,Qap,Qaa,Qas,Qak,Qao,Qaq,Qau];done))|exact RnM.keyM rfl|exact RnL.nil|exact(True.intro:RnM _ _ _ [] [])|refine RnL.cons ?_ ?_|(refine Rn.same ?_;first|rfl|(simp only[noRef,noRefs,Qah,Bool.and_self,Bool.and_true,Bool.true_and,Qab,Qal,Qaf,Qan,Qar,Qaw,Qai,Qap,Qaa,Qas,Qak,Qao,Qaq,Qau];done))|exact Rn.x1 rfl rfl|exact Rn.x2 rfl rfl|exact Rn.x3 rfl rfl|exact Rn.x4 rfl rfl|exact Rn.x5 rfl|exact Rn.x6 rfl|exact Rn.x7 rfl|refine RB.newnil rfl rfl ?_|refine RB.cells rfl rfl rfl ?_ ?_|refine RB.map rfl rfl rfl ?_ ?_|refine RB.cellsB rfl rfl ?_ ?_|refine RB.mapB rfl rfl ?_ ?_)
     ·have r:=QeE (s:=fun k=>if k=e.1 then Src.blk (300+e.1) 1 else Src.blk (300+k) 0) d (A:=[(60,.blk 60 0),(69,.blk 69 0),(83,.blk 83 0),(78,.blk 78 0)]) (by decide);unfold updF ptrE;rw[c];by_cases f:k=e.1;·subst f;rw[if_pos rfl,if_pos ⟨rfl,h1⟩,List.length_append];exact Rn.x1 rfl (by rw[r];simp)
      rw[if_neg f,if_neg (fun L=>f L.1.symm),List.append_nil];exact Rn.x1 rfl (by rw[r];simp[f])
     have r:=QeE (s:=fun k=>if k=e.1 then Src.blk (300+e.1) 1 else Src.blk (300+k) 0) d (A:=[(60,.blk 60 0),(69,.blk 69 0),(83,.blk 83 0),(78,.blk 78 0)]) (by decide);have C:=List.mem_range.1 d;by_cases f:k=e.1;·subst f;refine RB.cells rfl (b:=300+e.1) (g:=1) (by rw[r];simp) gg (RnL.eq ?_ (Qaf _)) RB.nil;unfold SE.rowE;rw[c,if_pos ⟨rfl,h1⟩,List.flatMap_append];rfl
     refine RB.cells rfl (b:=300+k) (g:=0) (ds:=SE.rowE (a.es.take i) (lf l) k) (by rw[r];simp[f]) (by first|(simp(disch:=omega)only[QaA,QaE,Qa4,m k C];done)|(simp(disch:=omega)only[QaA,QaE,Qa4,m k C];rfl)) (RnL.eq ?_ (Qaf _)) RB.nil;unfold SE.rowE;rw[c,if_neg (fun L=>f L.1.symm),List.append_nil]
    rw[Bool.not_eq_true]at h1;simp(disch:=first|omega|exact PairsOK.mk rfl|(simp only[lenW]<;>omega))only[List.cons_append,List.nil_append,q,QaZ he,U,X,Qa7 htl,h1,wW,wV,simprocAttr];refine⟨i+1,by omega,by omega,?_⟩;have B:∀k b g,(fun k=>Src.blk (300+k) 0) k=.blk b g->b=300+k:=by intro k b g f;cases f;rfl
    have hno:∀k,sOut (a.es.take (i+1)) (lf l) k=sOut (a.es.take i) (lf l) k:=fun k=>by rw[c,if_neg (by rw[h1];simp),List.append_nil]
    refine⟨[(60,.blk 60 0),(69,.blk 69 0),(83,.blk 83 0),(78,.blk 78 0)]++psL (fun k=>Src.blk (300+k) 0) (List.range a.n),Qe3 (A:=[(60,.blk 60 0),(69,.blk 69 0),(83,.blk 83 0),(78,.blk 78 0)]) (L:=[(60,_),(69,_),(83,_),(78,_)]) (Qdx List.nodup_range hrn (fun k d j hj hkj b g Q P h1 f=>?_)) rfl (by decide) (fun p hp b g Z k d Q P h1=>?_),RO.zero,?_,au7⟩;·have :=B k b g h1;have:=B j Q P f;omega
    ·have f:=B k Q P h1;simp only[List.mem_cons,List.not_mem_nil,or_false]at hp;rcases hp with rfl|rfl|rfl|rfl<;>cases Z<;>omega
    refine RB.cells rfl rfl gg (RnL.same rfl) (RB.cells rfl rfl gg ?_ (RB.cells rfl rfl gg (RnL.same (Qab _)) (RB.cells rfl rfl gg (QeF fun k d=>?_) (Qdj fun k d=>?_))));·repeat'(first|exact RB.nil|(refine RnL.same ?_;first|rfl|(simp only[noRef,noRefs,Qah,Bool.and_self,Bool.and_true,Bool.true_and,Qab,Qal,Qaf,Qan,Qar,Qaw,Qai,Qap,Qaa,Qas,Qak,Qao,Qaq,Qau];done))|exact RnM.keyM rfl|exact RnL.nil|exact(True.intro:RnM _ _ _ [] [])|refine RnL.cons ?_ ?_|(refine Rn.same ?_;first|rfl|(simp only[noRef,noRefs,Qah,Bool.and_self,Bool.and_true,Bool.true_and,Qab,Qal,Qaf,Qan,Qar,Qaw,Qai,Qap,Qaa,Qas,Qak,Qao,Qaq,Qau];done))|exact Rn.x1 rfl rfl|exact Rn.x2 rfl rfl|exact Rn.x3 rfl rfl|exact Rn.x4 rfl rfl|exact Rn.x5 rfl|exact Rn.x6 rfl|exact Rn.x7 rfl|refine RB.newnil rfl rfl ?_|refine RB.cells rfl rfl rfl ?_ ?_|refine RB.map rfl rfl rfl ?_ ?_|refine RB.cellsB rfl rfl ?_ ?_|refine RB.mapB rfl rfl ?_ ?_)
    ·have r:=QeE (s:=fun k=>Src.blk (300+k) 0) d (A:=[(60,.blk 60 0),(69,.blk 69 0),(83,.blk 83 0),(78,.blk 78 0)]) (by decide);unfold ptrE;rw[hno];exact Rn.x1 rfl r
    have r:=QeE (s:=fun k=>Src.blk (300+k) 0) d (A:=[(60,.blk 60 0),(69,.blk 69 0),(83,.blk 83 0),(78,.blk 78 0)]) (by decide);have C:=List.mem_range.1 d;refine RB.cells rfl (b:=300+k) (g:=0) (ds:=SE.rowE (a.es.take i) (lf l) k) r (by first|(simp(disch:=omega)only[QaA,QaE,Qa4,m k C];done)|(simp(disch:=omega)only[QaA,QaE,Qa4,m k C];rfl)) (RnL.eq ?_ (Qaf _)) RB.nil;unfold SE.rowE;rw[hno]
   have e:i=a.es.length:=by omega
   subst e;simp(disch:=first|omega|exact PairsOK.mk rfl|(simp only[lenW]<;>omega))only[List.cons_append,List.nil_append,q,wW,wV,simprocAttr];refine⟨(),[(60,.blk 60 0),(69,.blk 69 0),(83,.blk 83 0),(78,.blk 78 0)],rfl,RO.zero,?_,au7⟩;refine RB.cells rfl rfl gg (RnL.same rfl) (RB.cells rfl rfl gg ?_ (RB.cells rfl rfl gg (RnL.same (Qab _)) (RB.cells rfl rfl gg (QeF fun k d=>?_) RB.nil)));·repeat'(first|exact RB.nil|(refine RnL.same ?_;first|rfl|(simp only[noRef,noRefs,Qah,Bool.and_self,Bool.and_true,Bool.true_and,Qab,Qal,Qaf,Qan,Qar,Qaw,Qai,Qap,Qaa,Qas,Qak,Qao,Qaq,Qau];done))|exact RnM.keyM rfl|exact RnL.nil|exact(True.intro:RnM _ _ _ [] [])|refine RnL.cons ?_ ?_|(refine Rn.same ?_;first|rfl|(simp only[noRef,noRefs,Qah,Bool.and_self,Bool.and_true,Bool.true_and,Qab,Qal,Qaf,Qan,Qar,Qaw,Qai,Qap,Qaa,Qas,Qak,Qao,Qaq,Qau];done))|exact Rn.x1 rfl rfl|exact Rn.x2 rfl rfl|exact Rn.x3 rfl rfl|exact Rn.x4 rfl rfl|exact Rn.x5 rfl|exact Rn.x6 rfl|exact Rn.x7 rfl|refine RB.newnil rfl rfl ?_|refine RB.cells rfl rfl rfl ?_ ?_|refine RB.map rfl rfl rfl ?_ ?_|refine RB.cellsB rfl rfl ?_ ?_|refine RB.mapB rfl rfl ?_ ?_)
   have C:=List.mem_range.1 d;have hr:=Qct (f:=SE.rowE a.es (lf l)) List.nodup_range hrn d;have b1:Nat.beq (300+k) 60=false:=by rw[Bool.eq_false_iff];simp;try omega
   have b2:Nat.beq (300+k) 69=false:=by rw[Bool.eq_false_iff];simp;try omega
   have b3:Nat.beq (300+k) 83=false:=by rw[Bool.eq_false_iff];simp;try omega
   have b4:Nat.beq (300+k) 78=false:=by rw[Bool.eq_false_iff];simp;try omega
   exact Rn.fzm (by first|(simp(disch:=omega)only[QaA,QaE,Qa4,hr];done)|(simp(disch:=omega)only[QaA,QaE,Qa4,hr];rfl)) (by simp[srcNew,b1,b2,b3,b4]) (by simp) rfl (Qd9 _) (RnL.same (Qaf _))
  rintro _ _;simp(disch:=first|omega|exact PairsOK.mk rfl|(simp only[lenW]<;>omega))only[wW,wV,simprocAttr];refine QbP ?_;simp(disch:=first|omega|exact PairsOK.mk rfl|(simp only[lenW]<;>omega))only[wW,wV,simprocAttr];refine QcD (x:=0) (f:=numF [0]) (l:=[]) (by simp) (by decide) ?_;simp(disch:=first|omega|exact PairsOK.mk rfl|(simp only[lenW]<;>omega))only[wW,wV,simprocAttr];have hms0:mks a 0 [0]=[]:=rfl;have o:SI a.n a.es (lf l) 0 (([0],[]):OE):=by refine⟨⟨by simp,fun x I=>by simp at I;omega⟩,fun x I=>by simp at I;subst I;exact E,Nat.zero_le _,fun j v hj=>by omega,by simp⟩
  have hq0:sQ a.es (lf l) (a.n+1) 0 ([0],[])=sAll a (lf l):=by unfold sAll;rw[E,Bool.and_true,if_pos (by simp;omega)]
  refine Qay 180 (fun t:Nat×OE=>[(0,pv a u l),(2,.ptr 60 0 0),(4,.ptr 69 0 0),(5,.sl 78 0 0 a.n 1),(8,.map 74 0),(9,.sl 75 0 0 t.2.1.length 1),(10,.int .i64 t.1)]) (fun t=>[(60,.cells 0 [.nilsl,.int .i64 0,.nilsl,.nilsl]),(69,.cells 0 [.sl 83 0 0 a.al.length 1,.int .i64 0,.sl 77 0 0 (mks a t.1 t.2.1).length 1,.sl 76 0 0 t.2.2.length 3]),(83,.cells 0 (ints (nz a.al))),(78,.cells 0 ((List.range a.n).map (frzE a.es (lf l)))),(74,.map 0 (mapF .i64 (numF t.2.1) t.2.1)),(75,.cells 0 (ints (nz t.2.1))),(76,.cells 0 (t.2.2.flatMap edC)),(77,.cells 0 (ints (nz (mks a t.1 t.2.1))))]) (fun t=>t.1<=a.n/\SI a.n a.es (lf l) t.1 t.2/\t.2.2.length<=t.1*1000000/\sQ a.es (lf l) (a.n+1-t.1) t.1 t.2=sAll a (lf l)) (fun t=>a.n+1-t.1) (0,([0],[])) 2 260 (fun _:Unit=>[(2,.ptr 60 0 0),(4,.ptr 69 0 0),(9,.sl 75 0 0 (sAll a (lf l)).1.length 1)]) (fun _=>[(60,.cells 0 [.nilsl,.int .i64 0,.nilsl,.nilsl]),(69,.cells 0 [.sl 83 0 0 a.al.length 1,.int .i64 0,.sl 77 0 0 (restr a (lf l)).ms.length 1,.sl 76 0 0 (restr a (lf l)).es.length 3]),(83,.cells 0 (ints (nz a.al))),(75,.cells 0 (ints (nz (sAll a (lf l)).1))),(76,.cells 0 ((restr a (lf l)).es.flatMap edC)),(77,.cells 0 (ints (nz (restr a (lf l)).ms)))]) (fun _=>True) ?_ ⟨Nat.zero_le _,o,Nat.zero_le _,hq0⟩ ?_ ?_
  ·dsimp only;rw[hms0];refine⟨[(60,.blk 60 0),(69,.blk 69 0),(83,.blk 83 0),(78,.blk 78 0),(74,.blk 160 0),(75,.blk 164 0),(76,.nil),(77,.nil)],rfl,RO.zero,?_,au7⟩;repeat'(first|exact RB.nil|(refine RnL.same ?_;first|rfl|(simp only[noRef,noRefs,Qah,Bool.and_self,Bool.and_true,Bool.true_and,Qab,Qal,Qaf,Qan,Qar,Qaw,Qai,Qap,Qaa,Qas,Qak,Qao,Qaq,Qau];done))|exact RnM.keyM rfl|exact RnL.nil|exact(True.intro:RnM _ _ _ [] [])|refine RnL.cons ?_ ?_|(refine Rn.same ?_;first|rfl|(simp only[noRef,noRefs,Qah,Bool.and_self,Bool.and_true,Bool.true_and,Qab,Qal,Qaf,Qan,Qar,Qaw,Qai,Qap,Qaa,Qas,Qak,Qao,Qaq,Qau];done))|exact Rn.x1 rfl rfl|exact Rn.x2 rfl rfl|exact Rn.x3 rfl rfl|exact Rn.x4 rfl rfl|exact Rn.x5 rfl|exact Rn.x6 rfl|exact Rn.x7 rfl|refine RB.newnil rfl rfl ?_|refine RB.cells rfl rfl rfl ?_ ?_|refine RB.map rfl rfl rfl ?_ ?_|refine RB.cellsB rfl rfl ?_ ?_|refine RB.mapB rfl rfl ?_ ?_)
   refine RnM.mapF (l:=[0]) fun x I=>?_;have:x=0:=by simpa using I
   subst this;exact Rn.same rfl
  ·rintro⟨i,s⟩⟨hi,o,hsl,hq⟩;dsimp only at hi o hsl hq⊢;have hfl:=o.fi.len;have hile:=o.le;by_cases q:i<s.1.length
   ·obtain⟨v,Y⟩:=Qav q;have hvn:=o.fi.lt v (List.mem_of_getElem? Y);have S:i<a.n:=by omega
    have H:=o.step hw.esn Y;have hq':sQ a.es (lf l) (a.n+1-(i+1)) (i+1) (sRow a.es (lf l) i v s)=sAll a (lf l):=by rw[<-hq,show a.n+1-i=(a.n+1-(i+1))+1 by omega];simp only[sQ,Y]
    have hol:=Qea a.es (lf l) v;have y:=fun j=>Qd8 (n:=a.n) (left:=lf l) i ((sOut a.es (lf l) v).take j) s (fun e he=>⟨(hw.esn e (Qbs.1 (List.mem_of_mem_take he)).1).2,(Qbs.1 (List.mem_of_mem_take he)).2.2⟩) o.fi o.lft;have hmsl:=@QmQ a i s.1;have hmsk:∀j,mks a i (((sOut a.es (lf l) v).take j).foldl (sEd i) s).1=mks a i s.1:=fun j=>by obtain⟨_,_,⟨t,ht⟩,_⟩:=y j;rw[ht,QmR hile]
    generalize hmm:mks a i s.1=M at*;simp(disch:=first|omega|exact PairsOK.mk rfl|(simp only[lenW]<;>omega))only[q,Qce (nz_at Y),hvn,Qp2 hvn,wW,wV,simprocAttr];refine Qay 300 (fun j:Nat=>[(90,egsN (sOut a.es (lf l) v)),(91,.int .i64 (sOut a.es (lf l) v).length),(0,pv a u l),(2,.ptr 60 0 0),(4,.ptr 69 0 0),(5,.sl 78 0 0 a.n 1),(8,.map 74 0),(9,.sl 75 0 0 (((sOut a.es (lf l) v).take j).foldl (sEd i) s).1.length 1),(10,.int .i64 i),(92,.int .i64 j)]) (fun j=>[(60,.cells 0 [.nilsl,.int .i64 0,.nilsl,.nilsl]),(69,.cells 0 [.sl 83 0 0 a.al.length 1,.int .i64 0,.sl 77 0 0 M.length 1,.sl 76 0 0 (((sOut a.es (lf l) v).take j).foldl (sEd i) s).2.length 3]),(83,.cells 0 (ints (nz a.al))),(78,.cells 0 ((List.range a.n).map (frzE a.es (lf l)))),(74,.map 0 (mapF .i64 (numF (((sOut a.es (lf l) v).take j).foldl (sEd i) s).1) (((sOut a.es (lf l) v).take j).foldl (sEd i) s).1)),(75,.cells 0 (ints (nz (((sOut a.es (lf l) v).take j).foldl (sEd i) s).1))),(76,.cells 0 ((((sOut a.es (lf l) v).take j).foldl (sEd i) s).2.flatMap edC)),(77,.cells 0 (ints (nz M)))]) (fun j=>j<=(sOut a.es (lf l) v).length) (fun j=>(sOut a.es (lf l) v).length-j) 0 4 400 (fun _:Unit=>[(0,pv a u l),(2,.ptr 60 0 0),(4,.ptr 69 0 0),(5,.sl 78 0 0 a.n 1),(8,.map 74 0),(9,.sl 75 0 0 (sRow a.es (lf l) i v s).1.length 1),(10,.int .i64 i)]) (fun _=>[(60,.cells 0 [.nilsl,.int .i64 0,.nilsl,.nilsl]),(69,.cells 0 [.sl 83 0 0 a.al.length 1,.int .i64 0,.sl 77 0 0 M.length 1,.sl 76 0 0 (sRow a.es (lf l) i v s).2.length 3]),(83,.cells 0 (ints (nz a.al))),(78,.cells 0 ((List.range a.n).map (frzE a.es (lf l)))),(74,.map 0 (mapF .i64 (numF (sRow a.es (lf l) i v s).1) (sRow a.es (lf l) i v s).1)),(75,.cells 0 (ints (nz (sRow a.es (lf l) i v s).1))),(76,.cells 0 ((sRow a.es (lf l) i v s).2.flatMap edC)),(77,.cells 0 (ints (nz M)))]) (fun _=>True) ?_ (Nat.zero_le _) ?_ ?_
    ·refine⟨[(60,.blk 60 0),(69,.blk 69 0),(83,.blk 83 0),(78,.blk 78 0),(74,.blk 74 0),(75,.blk 75 0),(76,.blk 76 0),(77,.blk 77 0)],rfl,au0,?_,au7⟩;repeat'(first|exact RB.nil|(refine RnL.same ?_;first|rfl|(simp only[noRef,noRefs,Qah,Bool.and_self,Bool.and_true,Bool.true_and,Qab,Qal,Qaf,Qan,Qar,Qaw,Qai,Qap,Qaa,Qas,Qak,Qao,Qaq,Qau];done))|exact RnM.keyM rfl|exact RnL.nil|exact(True.intro:RnM _ _ _ [] [])|refine RnL.cons ?_ ?_|(refine Rn.same ?_;first|rfl|(simp only[noRef,noRefs,Qah,Bool.and_self,Bool.and_true,Bool.true_and,Qab,Qal,Qaf,Qan,Qar,Qaw,Qai,Qap,Qaa,Qas,Qak,Qao,Qaq,Qau];done))|exact Rn.x1 rfl rfl|exact Rn.x2 rfl rfl|exact Rn.x3 rfl rfl|exact Rn.x4 rfl rfl|exact Rn.x5 rfl|exact Rn.x6 rfl|exact Rn.x7 rfl|refine RB.newnil rfl rfl ?_|refine RB.cells rfl rfl rfl ?_ ?_|refine RB.map rfl rfl rfl ?_ ?_|refine RB.cellsB rfl rfl ?_ ?_|refine RB.mapB rfl rfl ?_ ?_)
     exact RnM.mapF fun x _=>Rn.same rfl
    ·rintro j hj;by_cases K:j<(sOut a.es (lf l) v).length
     ·obtain⟨e,he⟩:=Qav K;have hem:=Qbs.1 (List.mem_of_getElem? he);have X:=(hw.esn e hem.1).2;obtain⟨k1,_,_,_,_⟩:=y j;have hfi:=k1.len;have hnd:=k1.nd;have c:=QfW (i:=i) (s:=s) he;have hsl2:=QcK (i:=i) ((sOut a.es (lf l) v).take j) s;rw[List.length_take]at hsl2;generalize((sOut a.es (lf l) v).take j).foldl (sEd i) s=t at*;have A:=Qd9 t.2;by_cases hc:e.2.2∈t.1
      ·have f:sEd i t e=(t.1,t.2++[(i,e.2.1,idx t.1 e.2.2)]):=if_pos (by simpa using hc);rw[f]at c;simp(disch:=first|omega|exact PairsOK.mk rfl|(simp only[lenW]<;>omega))only[K,QaZ he,wW,wV,simprocAttr];refine Qdq ?_;simp(disch:=first|omega|exact PairsOK.mk rfl|(simp only[lenW]<;>omega))only[wW,wV,simprocAttr];refine wK_in hc ?_;simp(disch:=first|omega|exact PairsOK.mk rfl|(simp only[lenW]<;>omega))only[A,wW,wV,simprocAttr];refine⟨j+1,by omega,by omega,?_⟩;rw[c,List.flatMap_append,List.length_append];refine⟨[(60,.blk 60 0),(69,.blk 69 0),(83,.blk 83 0),(78,.blk 78 0),(74,.blk 74 0),(75,.blk 75 0),(76,.blk 76 1),(77,.blk 77 0)],rfl,au0,?_,au7⟩;repeat'(first|exact RB.nil|(refine RnL.same ?_;first|rfl|(simp only[noRef,noRefs,Qah,Bool.and_self,Bool.and_true,Bool.true_and,Qab,Qal,Qaf,Qan,Qar,Qaw,Qai,Qap,Qaa,Qas,Qak,Qao,Qaq,Qau];done))|exact RnM.keyM rfl|exact RnL.nil|exact(True.intro:RnM _ _ _ [] [])|refine RnL.cons ?_ ?_|(refine Rn.same ?_;first|rfl|(simp only[noRef,noRefs,Qah,Bool.and_self,Bool.and_true,Bool.true_and,Qab,Qal,Qaf,Qan,Qar,Qaw,Qai,Qap,Qaa,Qas,Qak,Qao,Qaq,Qau];done))|exact Rn.x1 rfl rfl|exact Rn.x2 rfl rfl|exact Rn.x3 rfl rfl|exact Rn.x4 rfl rfl|exact Rn.x5 rfl|exact Rn.x6 rfl|exact Rn.x7 rfl|refine RB.newnil rfl rfl ?_|refine RB.cells rfl rfl rfl ?_ ?_|refine RB.map rfl rfl rfl ?_ ?_|refine RB.cellsB rfl rfl ?_ ?_|refine RB.mapB rfl rfl ?_ ?_)
       exact RnM.mapF fun x _=>Rn.same rfl
      have f:sEd i t e=(t.1++[e.2.2],t.2++[(i,e.2.1,t.1.length)]):=if_neg (by simpa using hc);rw[f]at c;simp(disch:=first|omega|exact PairsOK.mk rfl|(simp only[lenW]<;>omega))only[K,QaZ he,wW,wV,simprocAttr];refine Qdq ?_;simp(disch:=first|omega|exact PairsOK.mk rfl|(simp only[lenW]<;>omega))only[wW,wV,simprocAttr];refine QoC hc ?_;simp(disch:=first|omega|exact PairsOK.mk rfl|(simp only[lenW]<;>omega))only[A,wW,wV,simprocAttr];refine QbP ?_;simp(disch:=first|omega|exact PairsOK.mk rfl|(simp only[lenW]<;>omega))only[wW,wV,simprocAttr];refine QcD hc (by decide) ?_;have hm:mapF .i64 (updF (numF t.1) e.2.2 (.int .i64 (t.1.length:Int))) (t.1++[e.2.2])=mapF .i64 (numF (t.1++[e.2.2])) (t.1++[e.2.2]):=by
       refine Qnv fun x I=>?_;unfold updF numF;split;·rename_i V;subst V;rw[QeH hc]
       rename_i V;have:x∈t.1:=by
        rcases List.mem_append.1 I with L|L;·exact L
        exact absurd (by simpa using L) V
       rw[QeG this]
      simp(disch:=first|omega|exact PairsOK.mk rfl|(simp only[lenW]<;>omega))only[hm,A,wW,wV,simprocAttr];refine⟨j+1,by omega,by omega,?_⟩;rw[c,List.flatMap_append,List.length_append];dsimp only;rw[List.length_append,QaU,QaK];refine⟨[(60,.blk 60 0),(69,.blk 69 0),(83,.blk 83 0),(78,.blk 78 0),(74,.blk 74 0),(75,.blk 75 1),(76,.blk 76 1),(77,.blk 77 0)],rfl,au0,?_,au7⟩;repeat'(first|exact RB.nil|(refine RnL.same ?_;first|rfl|(simp only[noRef,noRefs,Qah,Bool.and_self,Bool.and_true,Bool.true_and,Qab,Qal,Qaf,Qan,Qar,Qaw,Qai,Qap,Qaa,Qas,Qak,Qao,Qaq,Qau];done))|exact RnM.keyM rfl|exact RnL.nil|exact(True.intro:RnM _ _ _ [] [])|refine RnL.cons ?_ ?_|(refine Rn.same ?_;first|rfl|(simp only[noRef,noRefs,Qah,Bool.and_self,Bool.and_true,Bool.true_and,Qab,Qal,Qaf,Qan,Qar,Qaw,Qai,Qap,Qaa,Qas,Qak,Qao,Qaq,Qau];done))|exact Rn.x1 rfl rfl|exact Rn.x2 rfl rfl|exact Rn.x3 rfl rfl|exact Rn.x4 rfl rfl|exact Rn.x5 rfl|exact Rn.x6 rfl|exact Rn.x7 rfl|refine RB.newnil rfl rfl ?_|refine RB.cells rfl rfl rfl ?_ ?_|refine RB.map rfl rfl rfl ?_ ?_|refine RB.cellsB rfl rfl ?_ ?_|refine RB.mapB rfl rfl ?_ ?_)
      exact RnM.mapF fun x _=>Rn.same rfl
     have e:j=(sOut a.es (lf l) v).length:=by omega
     subst e;simp(disch:=first|omega|exact PairsOK.mk rfl|(simp only[lenW]<;>omega))only[K,wW,wV,simprocAttr];refine⟨(),?_⟩;refine⟨[(60,.blk 60 0),(69,.blk 69 0),(83,.blk 83 0),(78,.blk 78 0),(74,.blk 74 0),(75,.blk 75 0),(76,.blk 76 0),(77,.blk 77 0)],rfl,au0,?_,au7⟩;repeat'(first|exact RB.nil|(refine RnL.same ?_;first|rfl|(simp only[noRef,noRefs,Qah,Bool.and_self,Bool.and_true,Bool.true_and,Qab,Qal,Qaf,Qan,Qar,Qaw,Qai,Qap,Qaa,Qas,Qak,Qao,Qaq,Qau];done))|exact RnM.keyM rfl|exact RnL.nil|exact(True.intro:RnM _ _ _ [] [])|refine RnL.cons ?_ ?_|(refine Rn.same ?_;first|rfl|(simp only[noRef,noRefs,Qah,Bool.and_self,Bool.and_true,Bool.true_and,Qab,Qal,Qaf,Qan,Qar,Qaw,Qai,Qap,Qaa,Qas,Qak,Qao,Qaq,Qau];done))|exact Rn.x1 rfl rfl|exact Rn.x2 rfl rfl|exact Rn.x3 rfl rfl|exact Rn.x4 rfl rfl|exact Rn.x5 rfl|exact Rn.x6 rfl|exact Rn.x7 rfl|refine RB.newnil rfl rfl ?_|refine RB.cells rfl rfl rfl ?_ ?_|refine RB.map rfl rfl rfl ?_ ?_|refine RB.cellsB rfl rfl ?_ ?_|refine RB.mapB rfl rfl ?_ ?_)
     exact RnM.mapF fun x _=>Rn.same rfl
    rintro _ _;have w:=hmsk (sOut a.es (lf l) v).length;rw[List.take_length]at w;have w:mks a i (sRow a.es (lf l) i v s).1=M:=w;have N:(sRow a.es (lf l) i v s).1[i]?=some v:=by obtain⟨_,_,⟨t,ht⟩,_⟩:=y (sOut a.es (lf l) v).length;rw[List.take_length]at ht;have ht:(sRow a.es (lf l) i v s).1=s.1++t:=ht;rw[ht,List.getElem?_append_left q];exact Y
    have F:=Qle (a:=a) N;rw[w]at F;have hsl3:(sRow a.es (lf l) i v s).2.length=s.2.length+(sOut a.es (lf l) v).length:=QcK _ _;have hfi':=H.fi.len;have hii:i<(sRow a.es (lf l) i v s).1.length:=(List.getElem?_eq_some_iff.1 N).1;generalize hrr:sRow a.es (lf l) i v s=R at*;have hc:=contains62 (nz a.ms) v (by simp;omega);rw[Qcl,Qk8]at hc;by_cases G:a.ms.contains v=true
    ·rw[if_pos G]at F;rw[G]at hc;simp(disch:=first|omega|exact PairsOK.mk rfl|(simp only[lenW]<;>omega))only[hii,Qce (nz_at N),wW,wV,simprocAttr];refine cp hc ?_;simp(disch:=first|omega|exact PairsOK.mk rfl|(simp only[lenW]<;>omega))only[wW,wV,simprocAttr];refine⟨(i+1,R),by dsimp only;omega,⟨S,H,by dsimp only;omega,hq'⟩,?_⟩;dsimp only;rw[F,List.length_append,QaU,QaK];refine⟨[(60,.blk 60 0),(69,.blk 69 0),(83,.blk 83 0),(78,.blk 78 0),(74,.blk 74 0),(75,.blk 75 0),(76,.blk 76 0),(77,.blk 77 1)],rfl,au0,?_,au7⟩;repeat'(first|exact RB.nil|(refine RnL.same ?_;first|rfl|(simp only[noRef,noRefs,Qah,Bool.and_self,Bool.and_true,Bool.true_and,Qab,Qal,Qaf,Qan,Qar,Qaw,Qai,Qap,Qaa,Qas,Qak,Qao,Qaq,Qau];done))|exact RnM.keyM rfl|exact RnL.nil|exact(True.intro:RnM _ _ _ [] [])|refine RnL.cons ?_ ?_|(refine Rn.same ?_;first|rfl|(simp only[noRef,noRefs,Qah,Bool.and_self,Bool.and_true,Bool.true_and,Qab,Qal,Qaf,Qan,Qar,Qaw,Qai,Qap,Qaa,Qas,Qak,Qao,Qaq,Qau];done))|exact Rn.x1 rfl rfl|exact Rn.x2 rfl rfl|exact Rn.x3 rfl rfl|exact Rn.x4 rfl rfl|exact Rn.x5 rfl|exact Rn.x6 rfl|exact Rn.x7 rfl|refine RB.newnil rfl rfl ?_|refine RB.cells rfl rfl rfl ?_ ?_|refine RB.map rfl rfl rfl ?_ ?_|refine RB.cellsB rfl rfl ?_ ?_|refine RB.mapB rfl rfl ?_ ?_)
     exact RnM.mapF fun x _=>Rn.same rfl
    rw[if_neg G,List.append_nil]at F;rw[Bool.not_eq_true]at G;rw[G]at hc;simp(disch:=first|omega|exact PairsOK.mk rfl|(simp only[lenW]<;>omega))only[hii,Qce (nz_at N),wW,wV,simprocAttr];refine cp hc ?_;simp(disch:=first|omega|exact PairsOK.mk rfl|(simp only[lenW]<;>omega))only[wW,wV,simprocAttr];refine⟨(i+1,R),by dsimp only;omega,⟨S,H,by dsimp only;omega,hq'⟩,?_⟩;dsimp only;rw[F];refine⟨[(60,.blk 60 0),(69,.blk 69 0),(83,.blk 83 0),(78,.blk 78 0),(74,.blk 74 0),(75,.blk 75 0),(76,.blk 76 0),(77,.blk 77 0)],rfl,au0,?_,au7⟩;repeat'(first|exact RB.nil|(refine RnL.same ?_;first|rfl|(simp only[noRef,noRefs,Qah,Bool.and_self,Bool.and_true,Bool.true_and,Qab,Qal,Qaf,Qan,Qar,Qaw,Qai,Qap,Qaa,Qas,Qak,Qao,Qaq,Qau];done))|exact RnM.keyM rfl|exact RnL.nil|exact(True.intro:RnM _ _ _ [] [])|refine RnL.cons ?_ ?_|(refine Rn.same ?_;first|rfl|(simp only[noRef,noRefs,Qah,Bool.and_self,Bool.and_true,Bool.true_and,Qab,Qal,Qaf,Qan,Qar,Qaw,Qai,Qap,Qaa,Qas,Qak,Qao,Qaq,Qau];done))|exact Rn.x1 rfl rfl|exact Rn.x2 rfl rfl|exact Rn.x3 rfl rfl|exact Rn.x4 rfl rfl|exact Rn.x5 rfl|exact Rn.x6 rfl|exact Rn.x7 rfl|refine RB.newnil rfl rfl ?_|refine RB.cells rfl rfl rfl ?_ ?_|refine RB.map rfl rfl rfl ?_ ?_|refine RB.cellsB rfl rfl ?_ ?_|refine RB.mapB rfl rfl ?_ ?_)
    exact RnM.mapF fun x _=>Rn.same rfl
   have Y:s.1[i]?=none:=List.getElem?_eq_none (by omega);have T:s=sAll a (lf l):=by rw[<-hq,show a.n+1-i=(a.n-i)+1 by omega];simp only[sQ,Y]
   have hil:i=s.1.length:=by omega
   have hmf:mks a i s.1=(restr a (lf l)).ms:=by rw[hil,T];rfl
   have hef:s.2=(restr a (lf l)).es:=by rw[T];rfl
   simp(disch:=first|omega|exact PairsOK.mk rfl|(simp only[lenW]<;>omega))only[q,wW,wV,simprocAttr];refine⟨(),?_⟩;rw[hmf,hef,<-T];exact⟨[(60,.blk 60 0),(69,.blk 69 0),(83,.blk 83 0),(75,.blk 75 0),(76,.blk 76 0),(77,.blk 77 0)],rfl,au0,au8,au7⟩
  rintro _ _;have hra:(restr a (lf l)).al=a.al:=rfl;have hrn2:(restr a (lf l)).n=(sAll a (lf l)).1.length:=rfl;simp(disch:=first|omega|exact PairsOK.mk rfl|(simp only[lenW]<;>omega))only[wW,wV,simprocAttr];refine⟨.inr trivial,_,rfl,?_⟩;refine RnO.tup (RnOL.cons (RnO.agg (RnOL.cons (RnO.slm (g:=0) rfl rfl rfl (QcT _) (by simp[ints,hra])) (RnOL.cons (RnO.flat rfl) (RnOL.cons (RnO.slm (g:=0) rfl rfl rfl (QcT _) (by simp[ints])) (RnOL.cons (RnO.slm (g:=0) rfl rfl rfl (QqK _) (Qd9 _)) RnOL.nil))))) (RnOL.cons (RnO.slm (g:=0) rfl rfl rfl (QcT _) (by simp[ints])) RnOL.nil))
 rw[Bool.not_eq_true]at E;have e:sAll a (lf l)=([],[]):=by unfold sAll;rw[E,Bool.and_false,if_neg (by decide)];unfold sQ;rfl
 simp(disch:=first|omega|exact PairsOK.mk rfl|(simp only[lenW]<;>omega))only[O,h0n,hh0,E,wW,wV,simprocAttr];refine⟨.inr trivial,_,rfl,?_⟩;have hr:restr a (lf l)=⟨a.al,0,[],[]⟩:=by unfold restr;rw[e];rfl
 rw[hr,e];exact RnO.tup (RnOL.cons (RnO.agg (RnOL.cons (RnO.slm (g:=0) rfl rfl rfl (QcT _) (by simp[ints])) (RnOL.cons (RnO.flat rfl) (RnOL.cons RnO.nil (RnOL.cons RnO.nil RnOL.nil))))) (RnOL.cons RnO.nil RnOL.nil))
end Go.AM.SE
