/- Lemmas on the way to ExplainEventsCardSaid. Conditions: none of ours. -/
import Derived.OpenShut
import Derived.Test.YtgfnbkngfedlkaaGreatDoorProg
import Derived.KernelRfl
import Derived.Test.YtgfnbkngfedlkaaGreatDoorAmW10
set_option linter.unusedSectionVars false
set_option maxHeartbeats 32000000
set_option maxRecDepth 100000
set_option linter.unusedVariables false
set_option linter.unusedSimpArgs false
namespace Go.AM
variable{ok:Okc}
open Go.ChangeShapes Go.WideShapes
def inF(w:World)(k:Nat):Prop:=k<w.heap.size
end Go.AM
namespace Go.AM
open Go.ChangeShapes Go.WideShapes
inductive Ty where|int(k:IntKind)|bool|str|arr(n:Nat)(t:Ty)|sl(t:Ty)|st(fs:Ty)|unit|pair(a b:Ty)
def Ty.sz:Ty->Nat|.int _|.bool|.str|.sl _=>1|.arr n t=>n*t.sz|.st fs=>fs.sz|.unit=>0|.pair a b=>a.sz+b.sz
abbrev Ty.D:Ty->Type|.int _=>Int|.bool=>Bool|.str=>List UInt8|.arr _ t|.sl t=>List t.D|.st fs=>fs.D|.unit=>Unit|.pair a b=>a.D×b.D
def Ty.cells:(t:Ty)->t.D->List AV|.int k,n=>[.int k n]|.bool,b=>[.bool b]|.str,s=>[.str s]|.arr _ t,l=>List.flatMap (Ty.cells t) l|.sl t,l=>[.fsl (List.flatMap (Ty.cells t) l) (List.length l) t.sz]|.st fs,d=>Ty.cells fs d|.unit,_=>[]|.pair a b,d=>Ty.cells a d.1++Ty.cells b d.2
def Ty.wf:(t:Ty)->t.D->Prop|.int k,n=>(Lit.int k n).wf=true|.bool,_=>True|.str,s=>List.length s<=9223372036854775807|.arr n t,l=>List.length l=n/\∀x∈(show List t.D from l),Ty.wf t x|.sl t,l=>List.length l<=9223372036854775807/\∀x∈(show List t.D from l),Ty.wf t x|.st fs,d=>Ty.wf fs d|.unit,_=>True|.pair a b,d=>Ty.wf a d.1/\Ty.wf b d.2
def eltT(P:Program)(a:List TypeId):List TypeId:=match a with|t::_=>(match P.underlying t with|some (.slice e)=>[e]|some (.array _ e)=>[e]|_=>[])|[]=>[]
def fldT(P:Program)(a:List TypeId):List TypeId:=match a with|t::_=>(match P.underlying t with|some (.struct l)=>l.toList.map (·.type)|_=>[])|[]=>[]
def Ty.sized(P:Program):(t:Ty)->List TypeId->t.D->Prop|.arr _ t,c,l=>∀x∈(show List t.D from l),Ty.sized P t (eltT P c) x|.sl t,c,l=>(∀e∈eltT P c,List.length l*P.bytesOf e<=reachBytes)/\∀x∈(show List t.D from l),Ty.sized P t (eltT P c) x|.st fs,c,d=>Ty.sized P fs (fldT P c) d|.pair a b,c,d=>Ty.sized P a (c.take 1) d.1/\Ty.sized P b c.tail d.2|_,_,_=>True
theorem Qds{H:Type}{P:Program}{e:TypeId}{q:Nat->Bool}:∀{l:List (DataW H)}{d:DataW H},d∈l->(DataW.weightsAll P e l).all q=true->(d.weights P e).all q=true
 |x::l,d,a,h=>by
  simp only[DataW.weightsAll,Zb8,Zaa]at h;rcases Zau.1 a with rfl|a;·exact h.1
  exact Qds a h.2
mutual def okTy(P:Program):Ty->TypeId->Bool
 |.int k,t=>match P.underlying t with|some (.int k')=>k'==k|_=>false
 |.bool,t=>match P.underlying t with|some .bool=>true|_=>false
 |.str,t=>match P.underlying t with|some .string=>true|_=>false
 |.arr n e,t=>match P.underlying t with|some (.array m u)=>n==m&&okTy P e u&&P.cellsOf u==e.sz&&P.cellsOf t==n*e.sz|_=>false
 |.sl e,t=>match P.underlying t with|some (.slice u)=>okTy P e u&&P.cellsOf u==e.sz&&Nat.blt 0 e.sz|_=>false
 |.st fs,t=>match P.underlying t with|some (.struct l)=>okFs P fs l.toList 0&&P.cellsOf t==fs.sz|_=>false
 |_,_=>false termination_by structural ty=>ty def okFs(P:Program):Ty->List Field->Nat->Bool
 |.unit,l,_=>match l with|[]=>true|_=>false
 |.pair a b,l,off=>match l with|f::l=>f.offset==off&&okTy P a f.type&&P.cellsOf f.type==a.sz&&okFs P b l (off+a.sz)|_=>false
 |_,_,_=>false termination_by structural ty=>ty end
section
variable{ok:Okc}{H:Type}{enc:TypeId×Value->H}{P:Program}{W:World}{spare:Nat->Bool}
theorem QdQ:∀(t:Ty)(d:t.D),t.wf d->(t.cells d).length=t.sz
 |.int _,_,_=>rfl|.bool,_,_=>rfl|.str,_,_=>rfl|.sl _,_,_=>rfl|.unit,_,_=>rfl|.st fs,d,h=>QdQ fs d h|.pair a b,d,h=>by simp only[Ty.cells,Ty.sz,Zaf,QdQ a d.1 h.1,QdQ b d.2 h.2]|.arr n t,l,h=>by
  obtain⟨h1,g⟩:=h;simp only[Ty.cells,Ty.sz,<-h1];have:∀(l:List t.D),(∀x∈l,t.wf x)->(l.flatMap t.cells).length=l.length*t.sz:=by intro l;induction l with|nil=>intro _;simp|cons x l i=>intro c;simp[Zay,QdQ t x (c x (by simp)),i fun y f=>c y (by simp[f]),Zbo];omega
  exact this l g
theorem Qiq{α β:Type}{f:α->Option β}:∀{l:List α}{r:List β},l.mapM f=some r->r.length=l.length/\∀(i:Nat)(x:α),l[i]?=some x->∃y,f x=some y/\r[i]?=some y|[],r,h=>by simp_all|a::l,r,h=>by simp only[List.mapM_cons,Option.bind_eq_bind,Zb1]at h;obtain⟨y,d,g,b,e⟩:=h;simp at e;subst e;obtain⟨h1,c⟩:=Qiq b;grind
theorem many{ok:Okc}{t:Ty}{R:t.D->Prop}{c:Ctx ok}{n:Nat}:∀{cs:List Value},(∀i,i<n->∃x:t.D,R x/\VRels c W (t.cells x) ((cs.drop (i*t.sz)).take t.sz))->n*t.sz<=cs.length->∃l:List t.D,l.length=n/\(∀x∈l,R x)/\VRels c W (l.flatMap t.cells) (cs.take (n*t.sz)):=by induction n with|zero=>intro cs _ _;exact⟨[],rfl,by simp,by simp[VRels]⟩|succ n d=>intro cs b f;obtain⟨x,h1,h⟩:=b 0 (by omega);rw[Zbo]at f;obtain⟨l,g,k,a⟩:=d (cs:=cs.drop t.sz) (fun i hi=>by grind[ZaW]) (by simp;omega);refine⟨x::l,by simp[g],by simp_all,?_⟩;rw[Zay,Zbo,Nat.add_comm,List.take_add];refine Qbq ?_ a;simpa using h
mutual theorem Qhf:∀(ty:Ty)(t:TypeId)(fuel:Nat)(cs:List Value)(x:DataW H×List MemPlace),(∀b,spare b=true)->okTy P ty t=true->DataW.trod enc P W 0 spare true fuel t cs=some x->∃d:ty.D,(ty.wf d/\((x.1.weights P t).all (·<=reachBytes)=true->ty.sized P [t] d))/\VRels (only (ok:=ok) (inF W)) W (ty.cells d) cs:=by intro ty t fuel cs x hs ho h;match ty with
 |.int k=>
  simp only[okTy]at ho;split at ho<;>try(cases ho;done)
  rename_i k' hu;simp only[beq_iff_eq]at ho;subst ho;obtain⟨n,rfl,_,hw⟩:=DataW.trod_int hu h;exact⟨n,⟨hw,fun _=>trivial⟩,by simp[Ty.cells,VRels,VRel]⟩|.bool=>
  simp only[okTy]at ho;split at ho<;>try(cases ho;done)
  rename_i hu;obtain⟨b,rfl,_⟩:=DataW.trod_bool hu h;exact⟨b,⟨trivial,fun _=>trivial⟩,by simp[Ty.cells,VRels,VRel]⟩|.str=>
  simp only[okTy]at ho;split at ho<;>try(cases ho;done)
  rename_i hu;obtain⟨s,rfl,_,hl⟩:=DataW.trod_string hu h;refine⟨s.data.toList,⟨?_,fun _=>trivial⟩,?_⟩;·simp only[ByteArray.size,maxLen]at hl;simp_all[Ty.wf]
  ·simp[Ty.cells,VRels,VRel]|.unit=>simp[okTy]at ho|.pair a b=>simp[okTy]at ho|.st fs=>
  simp only[okTy]at ho;split at ho<;>try(cases ho;done)
  rename_i l hu;simp only[Zaa,beq_iff_eq]at ho;obtain⟨ho,hsz⟩:=ho;cases fuel with|zero=>simp[DataW.trod]at h|succ n=>
   unfold DataW.trod at h;rw[hu]at h;split at h<;>first|(simp_all;done)|skip
   rename_i fs' he;injection he with he;injection he with he;subst he;split at h
   ·rename_i hl;simp only[Option.map_eq_some_iff]at h;obtain⟨xs,hm,rfl⟩:=h;obtain⟨d,⟨h1,h3⟩,h2⟩:=Qos fs l.toList 0 n _ xs hs ho hm (by omega);refine⟨d,⟨h1,fun hw=>?_⟩,?_⟩;·simp only[DataW.weights,hu]at hw;show Ty.sized P fs (fldT P [t]) d;simp only[fldT,hu];exact h3 hw
    grind[Ty.cells]
   ·cases h
 |.arr m e=>
  simp only[okTy]at ho;split at ho<;>try(cases ho;done)
  rename_i m' u hu;simp only[Zaa,beq_iff_eq]at ho;obtain⟨⟨⟨rfl,ho⟩,hsz⟩,hst⟩:=ho;cases fuel with|zero=>simp[DataW.trod]at h|succ n=>
   unfold DataW.trod at h;rw[hu]at h;split at h<;>first|(simp_all;done)|skip
   rename_i m' u' he;injection he with he;injection he with he1 he2;subst he1;subst he2;split at h
   ·rename_i hl;simp only[Option.map_eq_some_iff]at h;obtain⟨xs,hm,rfl⟩:=h;obtain⟨g1,g2⟩:=Qiq hm;rw[hst]at hl;obtain⟨l,k1,k2,k3⟩:=many (t:=e) (R:=fun x=>e.wf x/\((DataW.weightsAll P u (xs.map (·.1))).all (·<=reachBytes)=true->e.sized P [u] x)) (c:=only (inF W)) (n:=m) (fun i hi=>by obtain⟨y,hy,hyx⟩:=g2 i i (by simp[hi]);rw[hsz]at hy;obtain⟨d,⟨j1,j2⟩,j3⟩:=Qhf e u n _ y hs ho hy;exact⟨d,⟨j1,fun hw=>j2 (Qds (Zan.2 ⟨y,Zae hyx,rfl⟩) hw)⟩,j3⟩) (by omega);refine⟨l,⟨⟨k1,fun x hx=>(k2 x hx).1⟩,fun hw=>?_⟩,?_⟩;·simp only[DataW.weights,hu]at hw;show∀x∈l,Ty.sized P e (eltT P [t]) x;simp only[eltT,hu];exact fun x hx=>(k2 x hx).2 hw
    rw[<-hl,Zar]at k3;exact k3
   ·cases h
 |.sl e=>
  simp only[okTy]at ho;split at ho<;>try(cases ho;done)
  rename_i u hu;simp only[Zaa,beq_iff_eq,ZbZ]at ho;obtain⟨⟨ho,hsz⟩,hpos⟩:=ho;rcases DataW.trod_slice hu h with⟨rfl,_⟩|⟨a,len,cap,elems,rest,n,_,rfl,rfl,_,hl,hm,hlen,hel,hsp,hns⟩;·exact⟨[],⟨⟨by simp,by simp⟩,fun _=>⟨fun _ _=>by simp,by simp⟩⟩,by simp[Ty.cells,VRels,VRel]⟩
  obtain⟨hrl,hr⟩:=hsp (hs _);have each:∀i,i<cap->∃cs,(w':W.cells? 0 (a.add (i*e.sz)) e.sz=some cs)->True:=fun _ _=>⟨[],fun _=>trivial⟩;have each:∀i,i<cap->∃cs y,W.cells? 0 (a.add (i*e.sz)) e.sz=some cs/\DataW.trod enc P W 0 spare true n u cs=some y:=by
   intro i hi;by_cases hil:i<len;·grind[Zb1]
   ·have h1:=hr (i-len) (by omega);grind[Zb1]
  by_cases h0:cap=0
  ·have :len=0:=by omega
   subst h0;subst this;exact⟨[],⟨⟨by simp,by simp⟩,fun _=>⟨fun _ _=>by simp,by simp⟩⟩,by simp[Ty.cells,VRels,VRel]⟩
  have cellsAt:∀i cs,W.cells? 0 (a.add (i*e.sz)) e.sz=some cs->cs.length=e.sz/\∀j,j<e.sz->W.cell? ((a.add (i*e.sz)).add j)=cs[j]?:=by intro i cs hcs;unfold World.cells? at hcs;rw[if_pos (Zah _)]at hcs;obtain⟨g1,g2⟩:=Qiq hcs;refine⟨by simpa using g1,fun j hj=>?_⟩;obtain⟨y,k1,k2⟩:=g2 j j (by simp[hj]);rw[k1,k2]
  obtain⟨cs0,y0,hc0,_⟩:=each 0 (by omega);obtain⟨q1,q2⟩:=cellsAt 0 cs0 hc0;have hcell0:=q2 0 hpos;rw[Zal (by omega)]at hcell0;obtain⟨b,off,spot⟩:=a;have hspot:spot=none:=by simpa[Addr.add]using World.cell?_spot hcell0
  subst hspot;have hb:∃C e fr,W.heap[b]?=some (.cells C e fr):=by grind[World.cell?,Addr.add]
  obtain⟨C,et,fr,hb⟩:=hb;have hcell:∀i cs,W.cells? 0 ((⟨b,off,none⟩:Addr).add (i*e.sz)) e.sz=some cs->i<cap->(C.toList.drop (off+i*e.sz)).take e.sz=cs:=by
   intro i cs hcs hi;obtain⟨k1,k2⟩:=cellsAt i cs hcs;refine ZbA fun j=>?_;by_cases hj:j<e.sz;·simp_all[Go.WideShapes.add_plain,World.cell?]
   grind
  have hCs:len*e.sz<=(C.toList.drop off).length:=by
   by_cases hl0:len=0;·subst hl0;simp
   obtain⟨cs,y,hcs,_⟩:=each (len-1) (by omega);have h1:=hcell (len-1) cs hcs (by omega);obtain⟨k1,_⟩:=cellsAt (len-1) cs hcs;have h2:=congrArg List.length h1;rw[k1,Zav,Za3]at h2;rw[Za3];have h3:len*e.sz=(len-1)*e.sz+e.sz:=by rw[<-Zbo];congr 1;omega
   omega
  have eachL:∀i,i<len->∃cs y,W.cells? 0 ((⟨b,off,none⟩:Addr).add (i*e.sz)) e.sz=some cs/\DataW.trod enc P W 0 spare true n u cs=some y/\y∈elems:=by intro i hi;have h1:=hel i hi;rw[Zal (by omega),hsz,Zb1]at h1;obtain⟨cs,hcs,hy⟩:=h1;exact⟨cs,_,hcs,hy,List.getElem_mem _⟩
  obtain⟨l,k1,k2,k3⟩:=many (t:=e) (R:=fun x=>e.wf x/\((DataW.weightsAll P u (elems.map (·.1))).all (·<=reachBytes)=true->e.sized P [u] x)) (c:=only (inF W)) (n:=len) (cs:=C.toList.drop off) (fun i hi=>by obtain⟨cs,y,hcs,hy,hyx⟩:=eachL i hi;rw[ZaW,hcell i cs hcs (by omega)];obtain⟨d,⟨j1,j2⟩,j3⟩:=Qhf e u n cs y hs ho hy;exact⟨d,⟨j1,fun hw=>j2 (Qds (Zan.2 ⟨y,hyx,rfl⟩) hw)⟩,j3⟩) hCs;have k2':∀x∈l,e.wf x:=fun x hx=>(k2 x hx).1;refine⟨l,⟨⟨by grind[maxLen],k2'⟩,fun hw=>?_⟩,?_⟩
  ·replace hw:(DataW.weights P t (.slice (elems.map (·.1)) (rest.map (·.1)))).all (·<=reachBytes)=true:=hw;simp only[DataW.weights,hu,Zb9,Zb8,Zaa,decide_eq_true_eq,Zaz]at hw;refine⟨fun v hv=>?_,?_⟩;·simp only[eltT,hu,Zbd]at hv;subst hv;refine Zaw (Zba _ ?_) hw.1;show List.length l<=_;omega
   ·show∀x∈l,Ty.sized P e (eltT P [t]) x;simp only[eltT,hu];exact fun x hx=>(k2 x hx).2 hw.2.1
  simp only[Ty.cells,VRels,VRel];have hll:(l.flatMap e.cells).length=l.length*e.sz:=QdQ (.arr l.length e) l ⟨rfl,k2'⟩;refine⟨_,[],rfl,.inr ⟨b,off,cap,C,et,fr,by rw[k1],by omega,hll,QaY hb,hb,?_⟩,rfl⟩;have:=Qh5 (vs:=(C.toList.drop off).drop (len*e.sz)) k3;rwa[List.take_append_drop]at this termination_by structural ty=>ty theorem Qos:∀(ty:Ty)(fs:List Field)(off fuel:Nat)(cs:List Value)(xs:List (DataW H×List MemPlace)),(∀b,spare b=true)->okFs P ty fs off=true->(fs.mapM fun f=>DataW.trod enc P W 0 spare true fuel f.type ((cs.drop f.offset).take (P.cellsOf f.type)))=some xs->off+ty.sz<=cs.length->∃d:ty.D,(ty.wf d/\((DataW.weightsEach P (fs.map (·.type)) (xs.map (·.1))).all (·<=reachBytes)=true->ty.sized P (fs.map (·.type)) d))/\VRels (only (ok:=ok) (inF W)) W (ty.cells d) ((cs.drop off).take ty.sz):=by intro ty fs off fuel cs xs hs ho h hl;match ty with
 |.unit=>exact⟨(),⟨trivial,fun _=>trivial⟩,by simp[Ty.cells,VRels,Ty.sz]⟩|.pair a b=>cases fs with|nil=>simp[okFs]at ho|cons f fs=>
  simp only[okFs,Zaa,beq_iff_eq]at ho;obtain⟨⟨⟨rfl,h1⟩,h2⟩,h3⟩:=ho;simp only[List.mapM_cons,Option.bind_eq_bind,Zb1]at h;obtain⟨y,hy,ys,hys,hxs⟩:=h;have hxs:y::ys=xs:=by simpa using hxs
  subst hxs;rw[h2]at hy;simp only[Ty.sz]at hl;obtain⟨d1,⟨g1,w1⟩,g2⟩:=Qhf a f.type fuel _ y hs h1 hy;obtain⟨d2,⟨g3,w2⟩,g4⟩:=Qos b fs (f.offset+a.sz) fuel cs ys hs h3 hys (by omega);refine⟨(d1,d2),⟨⟨g1,g3⟩,fun hw=>?_⟩,?_⟩;·simp only[ZaJ,DataW.weightsEach,Zb8,Zaa]at hw;exact⟨w1 hw.1,w2 hw.2⟩
  simp only[Ty.cells,Ty.sz];rw[List.take_add];refine Qbq g2 ?_;rw[ZaW];exact g4
 |.int _=>simp[okFs]at ho|.bool=>simp[okFs]at ho|.str=>simp[okFs]at ho|.arr _ _=>simp[okFs]at ho|.sl _=>simp[okFs]at ho|.st _=>simp[okFs]at ho termination_by structural ty=>ty end
def Ty.val:(t:Ty)->t.D->AV|.arr n t,d=>.agg (Ty.cells (.arr n t) d)|.st fs,d=>.agg (Ty.cells (.st fs) d)|.int k,n=>.int k n|.bool,b=>.bool b|.str,s=>.str s|.sl t,l=>.fsl (List.flatMap (Ty.cells t) l) (List.length l) t.sz|.unit,_=>.any|.pair _ _,_=>.any
theorem Qtf(ty:Ty){t:TypeId}{base:Nat}{v:Value}{g:DataW H}{l:List MemPlace}(ho:okTy P ty t=true)(c:Value.okWide P W .any base t v)(h:DataW.Trod enc P W 0 (fun _=>true) true t v g l):∃d:ty.D,(ty.wf d/\((g.weights P t).all (·<=reachBytes)=true->ty.sized P [t] d))/\VRel (only (ok:=ok) (inF W)) W (ty.val d) v:=by
 obtain⟨fuel,h⟩:=h;obtain⟨d,h1,f⟩:=Qhf (spare:=fun _=>true) ty t fuel _ _ (fun _=>rfl) ho h;refine⟨d,h1,?_⟩;have one:∀(u:AV),VRels (only (ok:=ok) (inF W)) W [u] v.cells.toList->(∀cs,v≠.agg cs)->VRel (only (ok:=ok) (inF W)) W u v:=by
  intro u hu i;have:v.cells=#[v]:=by cases v<;>first|rfl|exact absurd rfl (i _)
  simp_all[VRels]
 cases ty with|unit=>simp[okTy]at ho|pair a b=>simp[okTy]at ho|arr n e=>
  simp only[okTy]at ho;split at ho<;>try(cases ho;done)
  rename_i hu;simp only[Value.okWide,hu]at c;obtain⟨cs,rfl,_⟩:=c;simp only[Ty.val,VRel];exact⟨_,rfl,f⟩|st fs=>
  simp only[okTy]at ho;split at ho<;>try(cases ho;done)
  rename_i hu;simp only[Value.okWide,hu]at c;obtain⟨cs,rfl,_⟩:=c;simp only[Ty.val,VRel];exact⟨_,rfl,f⟩|int k=>
  refine one _ f ?_;rintro cs rfl;simp only[okTy]at ho;split at ho<;>try(cases ho;done)
  rename_i hu;simp[Value.okWide,hu,Cell.okWide,Cell.ok]at c|bool=>
  refine one _ f ?_;rintro cs rfl;simp only[okTy]at ho;split at ho<;>try(cases ho;done)
  rename_i hu;simp[Value.okWide,hu,Cell.okWide,Cell.ok]at c|str=>
  refine one _ f ?_;rintro cs rfl;simp only[okTy]at ho;split at ho<;>try(cases ho;done)
  rename_i hu;simp[Value.okWide,hu,Cell.okWide,Cell.ok]at c|sl e=>
  refine one _ f ?_;rintro cs rfl;simp only[okTy]at ho;split at ho<;>try(cases ho;done)
  rename_i hu;simp[Value.okWide,hu,Cell.okWide,Cell.ok]at c
theorem arg_in(ty:Ty){t:TypeId}{base:Nat}{v:Value}{d:DataW H}{c:List MemPlace}(ho:okTy P ty t=true)(b:Value.okWide P W .any base t v)(h:DataW.Trod enc P W 0 (fun _=>true) true t v d c):∃d:ty.D,ty.wf d/\VRel (only (ok:=ok) (inF W)) W (ty.val d) v:=by obtain⟨e,h1,a⟩:=Qtf (ok:=ok) ty ho b h;exact⟨e,h1.1,a⟩
end
end Go.AM
namespace Go.AM
variable{P:Program}
section
variable{N:NM}{n:Nat}{d:Option Nat}{af dead:List Nat}{r:List SOper}{T:Tmps}{h:Heap}{Q:QC}{fs:List Fr}
def wL(P:Program)(N:NM)(o:Option (List AV))(len:Nat)(v:AV)(d:Option Nat)(ops:List SOper)(dead:List Nat)(fs:List Fr)(n:Nat)(T:Tmps)(h:Heap)(Q:QC):Prop:=∃cs,o=some cs/\cs.length=len/\wN P N cs v d ops dead fs n T h Q
theorem QjJ{cs:List AV}{len:Nat}{v:AV}:wL P N (some cs) len v d r dead fs n T h Q=if cs.length=len then wN P N cs v d r dead fs n T h Q else False:=by simp_all[wL]
theorem wN_go{x:List AV}{v:AV}(a:n<1099511627775):wN P N x v d r dead fs n T h Q=if h.get n=none then wR P N r dead fs (n+1) (putD T d v) (h.set n (.cells 0 x)) Q else False:=by
 split;·rename_i b;exact Quj b a
 simp_all[wN]
theorem wB_go{x:Blk}{b:Nat}{v:AV}(a:b<1099511627775):wB P N (some x) b v d r dead fs n T h Q=wR P N r dead fs (n+1) (putD T d v) (h.set b x) Q:=QjD a
theorem QaA{k:Nat}{x:Blk}(a:k<1099511627775):(h.set k x).get k=some x:=by rw[Zck h a];simp
theorem QaG{j k:Nat}{x:Blk}(b:k<1099511627775)(a:j≠k):(h.set k x).get j=h.get j:=by rw[Zck h b];simp[a]
theorem Qi5{x:Nat->Blk}{y:List AV}(i:x 0=.cells 0 y){w:Nat->Nat->AV}:wM P N (HM.new .dyn n x fun b g=>.ret (w b g)) d r dead fs n T h Q=wN P N y (w n 0) d r dead fs n T h Q:=by
 apply propext;constructor;·rintro⟨l,h1,hm,a⟩;unfold HM.new at hm;simp only[HM.run]at hm;cases c:h.get n with|none=>rw[c]at hm;obtain⟨k,hm⟩:=QaU hm;simp only[HM.run,Zab,Zaj]at hm;obtain⟨rfl,rfl⟩:=hm;rw[i]at a;exact⟨c,k,a⟩|some z=>rw[c]at hm;cases hm
 rintro⟨c,k,a⟩;refine⟨_,_,?_,by rw[<-i]at a;exact a⟩;unfold HM.new;simp only[HM.run,c];have f:Nat.blt n lim=true:=by simp_all
 rw[f];rfl
theorem Qms{x:AV}:wM P N (aBox .dyn n x) d r dead fs n T h Q=if x.boxable=true then wN P N x.cells (.ptr n 0 0) d r dead fs n T h Q else False:=by
 split;·simp_all[Qr0]
 simp_all[aBox,Qee]
theorem QeS{sz len:Nat}{z:List AV}{a:List (Nat×Nat×AV)}:wM P N (aBuildSlice false .dyn n sz len z a) d r dead fs n T h Q=wL P N (fillA z a) (len*sz) (.sl n 0 0 len sz) d r dead fs n T h Q:=by unfold aBuildSlice;cases fillA z a with|none=>simp[Qee,wL]|some cs=>
 simp only[QjJ,Zao,if_false];split;·exact Qi5 rfl
 exact Qee
theorem Qfg{sz bytes:Nat}{z:List AV}{k1 k2:IntKind}{l c:Int}:wM P N (aMakeSlice .dyn n sz bytes z (.int k1 l) (.int k2 c)) d r dead fs n T h Q=if 0<=l/\l<=c/\bytes*c<=140737488355328/\c<=140737488355328 then wN P N (List.replicate c.toNat z).flatten (.sl n 0 0 l.toNat sz) d r dead fs n T h Q else False:=by
 by_cases hc:0<=l/\l<=c/\bytes*c<=140737488355328/\c<=140737488355328;·simp only[aMakeSlice,if_pos hc];exact Qi5 (x:=fun g=>.cells g (List.replicate c.toNat z).flatten) rfl
 simp_all[aMakeSlice,if_neg,Qee]
theorem QkC{cs:List AV}:fillA cs []=some cs:=rfl
theorem Qi6{cs:List AV}{off size:Nat}{v:AV}{r:List (Nat×Nat×AV)}:fillA cs ((off,size,v)::r)=if v.cells.length=size/\off+size<=cs.length/\v.boxable=true then fillA (putR cs off v.cells) r else none:=rfl
theorem QkD{z:List AV}{a:List (Nat×Nat×AV)}:aBuild z a=(fillA z a).map AV.agg:=by grind[aBuild]
theorem QkE{k:IntKind}{a:Int}:(AV.int k a).cells=[.int k a]:=rfl
theorem QkF{cs:List AV}:(AV.agg cs).cells=cs:=rfl
theorem Qmt{b g off len sz:Nat}:(AV.sl b g off len sz).cells=[.sl b g off len sz]:=rfl
theorem QkG{cs:List AV}{len sz:Nat}:(AV.fsl cs len sz).cells=[.fsl cs len sz]:=rfl
theorem QhP:AV.nilsl.cells=[.nilsl]:=rfl
theorem Qot{k:IntKind}{a:Int}:(AV.int k a).boxable=true:=rfl
theorem Qou{cs:List AV}:(AV.agg cs).boxable=true:=rfl
theorem Qqv{b g off len sz:Nat}:(AV.sl b g off len sz).boxable=true:=rfl
theorem Qov{cs:List AV}{len sz:Nat}:(AV.fsl cs len sz).boxable=true:=rfl
theorem QkH:AV.nilsl.boxable=true:=rfl
theorem Qow{k:IntKind}{a:Int}:(AV.int k a).one=true:=rfl
theorem Qqw{b g off len sz:Nat}:(AV.sl b g off len sz).one=true:=rfl
theorem Qox{cs:List AV}{len sz:Nat}:(AV.fsl cs len sz).one=true:=rfl
theorem QkI:AV.nilsl.one=true:=rfl
theorem Qmu{cs:List AV}{off:Nat}{v:AV}:putR cs off [v]=cs.set off v:=rfl
theorem QkJ{cs:List AV}{off:Nat}{v w:AV}{vs:List AV}:putR cs off (v::w::vs)=cs.take off++(v::w::vs)++cs.drop (off+(v::w::vs).length):=rfl
def srcB(o:Option Blk)(g off len sz:Nat):Option (List AV):=match o with|some (.cells a cs)=>if a=g/\off+len*sz<=cs.length then some ((cs.drop off).take (len*sz))else none|_=>none
theorem QcV{g a off len sz:Nat}{cs:List AV}:srcB (some (.cells a cs)) g off len sz=if a=g/\off+len*sz<=cs.length then some ((cs.drop off).take (len*sz))else none:=rfl
theorem QnN{sz bytes b g off len:Nat}:wM P N (aAppend .dyn n sz bytes .nilsl (.sl b g off (len+1) sz)) d r dead fs n T h Q=∃ys,srcB (h.get b) g off (len+1) sz=some ys/\((len+1)*bytes<=140737488355328/\len+1<=140737488355328)/\ys.all AV.one=true/\wN P N ys (.sl n 0 0 (len+1) sz) d r dead fs n T h Q:=by
 simp only[aAppend,aSrc,if_true,slLen,ZbW,Qdo,QdN];apply propext;constructor;·rintro⟨cs,i,h1,a,f⟩;rw[i,QcV,if_pos ⟨rfl,h1⟩];exact⟨_,rfl,⟨a.1,a.2.1⟩,a.2.2,by rw[Qi5 rfl]at f;exact f⟩
 rintro⟨ys,c,a,f,k⟩;unfold srcB at c;split at c
 ·rename_i l cs i;split at c;·rename_i e;obtain⟨rfl,e⟩:=e;cases c;exact⟨cs,i,e,⟨a.1,a.2,f⟩,by rw[Qi5 rfl];exact k⟩
  cases c
 cases c
theorem Qpq{sz bytes b g off len b2 f c a:Nat}:wM P N (aAppend .dyn n sz bytes (.sl b2 f c a sz) (.sl b g off len sz)) d r dead fs n T h Q=∃ys i,srcB (h.get b) g off len sz=some ys/\srcB (h.get b2) f c a sz=some i/\((a+len)*bytes<=140737488355328/\a+len<=140737488355328)/\ys.all AV.one=true/\wB P N (some (.cells (f+1) (i++ys))) b2 (.sl b2 (f+1) 0 (a+len) sz) d r dead fs n T h Q:=by
 simp only[aAppend,aSrc,if_true,slLen,Qdo,QdN,Qgy];apply propext;constructor;·rintro⟨cs,t,h1,s,q,k,l,p⟩;rw[t,k,QcV,QcV,if_pos ⟨rfl,h1⟩,if_pos ⟨rfl,l⟩];simp_all
 rintro⟨ys,i,o,m,s,l,p⟩;unfold srcB at o m;grind
end
def Fresh(n:Nat)(h:Heap):Prop:=∀b,n<=b->h.get b=none
theorem Fresh.e{n:Nat}:Fresh n .e:=fun b _=>by simp[Tr.get]
theorem Fresh.le{n m:Nat}{h:Heap}(hf:Fresh n h)(a:n<=m):Fresh m h:=fun b c=>hf b (Zaw a c)
theorem Fresh.set{n k:Nat}{h:Heap}{x:Blk}(hf:Fresh n h)(a:k<1099511627775)(d:k<n):Fresh n (h.set k x):=fun b c=>by rw[QaG a (by omega)];exact hf b c
end Go.AM
namespace Go.AM
variable{P:Program}
def FrzTo(h:Heap)(x y:AV):Prop:=∀(ok:Okc)(c:Ctx ok)(w:World)(v:Value),HRel c h w->VRel c w x v->VRel (lent c) w y v
def FrzL(h:Heap):List AV->List AV->Prop|[],[]=>True|x::xs,y::a=>FrzTo h x y/\FrzL h xs a|_,_=>False
variable{h:Heap}
theorem FrzTo.same(x:AV):FrzTo h x x:=fun _ c w v _ a=>Zcl (Qib c w) _ _ a
theorem FrzL.same:∀(xs:List AV),FrzL h xs xs|[]=>trivial|x::xs=>⟨.same x,FrzL.same xs⟩
theorem FrzL.length:∀{xs ys:List AV},FrzL h xs ys->ys.length=xs.length|[],[],_=>rfl|[],_::_,a=>a.elim|_::_,[],a=>a.elim|x::xs,y::ys,a=>by simp[FrzL.length a.2]
theorem FrzL.pre{ok:Okc}{c:Ctx ok}{w:World}(H:HRel c h w):∀{xs ys:List AV}{vs:List Value},FrzL h xs ys->VPre c w xs vs->VPre (lent c) w ys vs|[],[],_,_,_=>by simp[VPre]|[],_::_,_,a,_=>a.elim|_::_,[],_,a,_=>a.elim|x::xs,y::ys,vs,a,d=>by simp only[VPre]at d⊢;obtain⟨v,b,rfl,f,g⟩:=d;exact⟨v,b,rfl,a.1 _ c w v H f,FrzL.pre H a.2 g⟩
theorem FrzL.rels{ok:Okc}{c:Ctx ok}{w:World}(H:HRel c h w):∀{xs ys:List AV}{vs:List Value},FrzL h xs ys->VRels c w xs vs->VRels (lent c) w ys vs|[],[],_,_,b=>by grind[VRels]|[],_::_,_,a,_=>a.elim|_::_,[],_,a,_=>a.elim|x::xs,y::ys,vs,a,b=>by simp only[VRels]at b⊢;obtain⟨v,d,rfl,f,g⟩:=b;exact⟨v,d,rfl,a.1 _ c w v H f,FrzL.rels H a.2 g⟩
theorem FrzTo.sl{b g off len sz:Nat}{cs ys:List AV}(s:h.get b=some (.cells g cs))(I:off+len*sz<=cs.length)(q:FrzL h ((cs.drop off).take (len*sz)) ys):FrzTo h (.sl b g off len sz) (.fsl ys len sz):=fun _ c w v H p=>by
 have hlen:=q.length;simp only[VRel]at p;rcases p with⟨hp,rfl,rfl,rfl⟩|⟨z,base,o,cap,C,e,A,hp,rfl,k,r,f⟩;·simp_all[VRel]
 obtain⟨C',G,y,E,d,t,u,i⟩:=H.here s hp;rw[r]at d;cases d;by_cases x:cap=0
 ·have l:len=0:=by omega
  subst l;have m:ys=[]:=by simp_all
  subst m;simp only[VRel];simp_all
 obtain⟨rfl,B⟩:=f.resolve_left x;have a:=Qb7 (len*sz) (Qba off i);rw[ZaW]at a;simp only[VRel];exact .inr ⟨z,base+off,cap,C,e,A,rfl,k,by grind,.inr E,r,q.pre H a⟩
section
variable{N:NM}{n:Nat}{d:Option Nat}{af dead:List Nat}{r:List SOper}{T:Tmps}{Q:QC}{fs:List Fr}
end
end Go.AM
theorem _root_.Go.AM.Zcv:type_of%@Go.AM.FrzTo.same:=@Go.AM.FrzTo.same
theorem _root_.Go.AM.Zcw:type_of%@Go.AM.FrzL.same:=@Go.AM.FrzL.same
namespace Go.AM
variable{P:Program}
abbrev HL:=List (Nat×Blk)
def hp:HL->Heap|[]=>.e|p::r=>(hp r).set p.1 p.2
theorem Qmv:hp []=.e:=rfl
theorem QaS{b:Nat}{x:Blk}{r:HL}:hp ((b,x)::r)=(hp r).set b x:=rfl
theorem get_e{b:Nat}:Tr.get (α:=Blk) .e b=none:=by simp[Tr.get]
def lkS:List (Nat×Src)->Nat->Option Src|[],_=>none|(b,s)::r,k=>if k=b then some s else lkS r k
def srcNew(s:Src):List (Nat×Src)->Bool|[]=>true|(_,t)::r=>(match s,t with|.blk b _,.blk a _=>!Nat.beq b a|_,_=>true)&&srcNew s r
def okPs(m:Nat):List (Nat×Src)->HL->Bool|[],[]=>true|(b,s)::r,(a,_)::l=>Nat.beq b a&&Nat.blt b 1099511627775&&(Nat.blt b m||((match s with|.blk k _=>Nat.ble m k|.nil=>true)&&srcNew s r))&&(r.all fun p=>!Nat.beq p.1 b)&&okPs m r l|_,_=>false
def ow(m:Nat)(a:List (Nat×Src)):Nat->Option Src:=fun b=>if b<m then none else lkS a b
def RB(m:Nat)(π:Nat->Option Src)(h:Heap):HL->Prop|[]=>True|(a,x)::r=>((a<m/\BRn m π h (some (.blk a x.gen)) x)\/(m<=a/\x.gen=0/\(∀g,x≠.dead g)/\BRn m π h (π a) x))/\RB m π h r
section
variable{m:Nat}{π:Nat->Option Src}{h:Heap}
theorem Qqx:∀{L:HL}{d:List (Nat×Src)},okPs m d L=true->∀{b:Nat}{x:Blk},(hp L).get b=some x->(b,x)∈L
 |[],[],_,b,x,c=>by simp[hp,Tr.get]at c|[],_::_,a,_,_,_=>by simp[okPs]at a|(i,f)::L,[],a,_,_,_=>by simp[okPs]at a|(i,f)::L,(k,s)::d,a,b,x,c=>by
  simp only[okPs,Zaa,ZbZ,ZbO]at a;obtain⟨⟨⟨⟨rfl,g⟩,_⟩,_⟩,h⟩:=a;simp only[hp]at c;by_cases e:b=k;·simp_all[QaA]
  rw[QaG g e]at c;simp[Qqx h c]
theorem Qoy:∀{L:HL}{d:List (Nat×Src)},okPs m d L=true->∀{b:Nat},(hp L).get b=none->lkS d b=none
 |[],[],_,b,_=>rfl|[],_::_,a,_,_=>by simp[okPs]at a|(i,f)::L,[],a,_,_=>by simp[okPs]at a|(i,f)::L,(k,s)::d,a,b,c=>by
  simp only[okPs,Zaa,ZbZ,ZbO]at a;obtain⟨⟨⟨⟨rfl,g⟩,_⟩,_⟩,h⟩:=a;simp only[hp]at c;by_cases e:b=k;·simp_all[QaA]
  rw[QaG g e]at c;simp only[lkS,if_neg e];exact Qoy h c
theorem RB.mem:∀{L:HL},RB m π h L->∀{b:Nat}{x:Blk},(b,x)∈L->(b<m/\BRn m π h (some (.blk b x.gen)) x)\/(m<=b/\x.gen=0/\(∀g,x≠.dead g)/\BRn m π h (π b) x)
 |[],_,_,_,hm=>by cases hm|(d,c)::L,a,b,x,hm=>by
  rcases Zau.1 hm with e|hm;·cases e;exact a.1
  exact RB.mem a.2 hm
theorem Qmw:∀{d:List (Nat×Src)}{L:HL},okPs m d L=true->∀{b f g:Nat},m<=b->lkS d b=some (.blk f g)->m<=f
 |[],_,_,_,_,_,_,a=>by simp[lkS]at a|_::_,[],c,_,_,_,_,_=>by simp[okPs]at c|(k,s)::d,(o,p)::L,c,b,f,g,l,a=>by
  simp only[okPs,Zaa,Zbq,ZbZ]at c;obtain⟨⟨⟨_,h⟩,_⟩,i⟩:=c;simp only[lkS]at a;split at a
  ·rename_i e;cases a;rcases h with h|h;·omega
   simp_all
  exact Qmw i l a
theorem QgH:∀{d:List (Nat×Src)}{b g c h k:Nat},srcNew (.blk b g) d=true->lkS d k=some (.blk c h)->b≠c
 |[],_,_,_,_,_,_,a=>by simp[lkS]at a|(j,s)::d,b,g,c,h,k,f,a=>by
  simp only[srcNew,Zaa]at f;simp only[lkS]at a;split at a;·cases a;have:=f.1;simp only[Zbx]at this;intro e;simp_all
  exact QgH f.2 a
theorem Qmx:∀{f:List (Nat×Src)}{L:HL},okPs m f L=true->∀{h b2 b g i:Nat},m<=h->m<=b2->lkS f h=some (.blk b g)->lkS f b2=some (.blk b i)->h=b2
 |[],_,_,_,_,_,_,_,_,_,q,_=>by simp[lkS]at q|_::_,[],d,_,_,_,_,_,_,_,_,_=>by simp[okPs]at d|(k,s)::f,(u,v)::L,d,h,b2,b,g,i,r,o,h1,c=>by
  simp only[okPs,Zaa,Zbq,ZbZ]at d;obtain⟨⟨⟨_,a⟩,_⟩,p⟩:=d;simp only[lkS]at h1 c;split at h1<;>split at c;·omega
  ·rename_i l t;cases h1;rcases a with a|a;·omega
   exact absurd rfl (QgH a.2 c)
  ·rename_i l t;cases c;rcases a with a|a;·omega
   exact absurd rfl (QgH a.2 h1)
  exact Qmx p r o h1 c
theorem Qoz:∀{d:List (Nat×Src)}{L:HL},okPs m d L=true->∀{b:Nat}{s:Src},lkS d b=some s->∃x,(b,x)∈L
 |[],_,_,_,_,a=>by simp[lkS]at a|_::_,[],c,_,_,_=>by simp[okPs]at c|(k,t)::d,(h,i)::L,c,b,s,a=>by
  simp only[okPs,Zaa,ZbO]at c;obtain⟨⟨⟨⟨rfl,_⟩,_⟩,_⟩,f⟩:=c;simp only[lkS]at a;split at a;·simp_all
  obtain⟨x,g⟩:=Qoz f a;grind
def RO(m:Nat)(L:HL)(h:Heap):Prop:=∀b,b<m->(∀p∈L,p.1≠b)->h.get b=none
theorem RO.zero{L:HL}:RO 0 L h:=fun b a=>absurd a (ZaC _)
theorem RO.e{L:HL}:RO m L .e:=fun b _ _=>get_e
theorem RO.set{L:HL}{k:Nat}{x:Blk}(a:(Nat.blt k 1099511627775&&(Nat.ble m k||L.any fun p=>Nat.beq p.1 k))=true)(f:RO m L h):RO m L (h.set k x):=fun b c d=>by
 simp only[Zaa,Zbq,ZbZ,Nat.ble_eq,ZbR,ZbO]at a;obtain⟨h1,g⟩:=a;have:b≠k:=by grind
 rw[QaG h1 this];exact f b c d
def Rec(m:Nat)(T':Tmps)(L:HL)(T:Tmps)(h:Heap):Prop:=∃a,okPs m a L=true/\RO m L h/\RB m (ow m a) h L/\RT m (ow m a) h T' T
theorem ow_ge{a:List (Nat×Src)}{b:Nat}(c:m<=b):ow m a b=lkS a b:=if_neg (by omega)
theorem Rec.maps{a:List (Nat×Src)}{L:HL}(ho:okPs m a L=true)(q:RB m (ow m a) h L):Maps m (ow m a) h:=by
 refine⟨fun w b g hm d=>?_,fun t b2 b g v i l h1 o=>Qmx ho i l (by rw[<-ow_ge i];exact h1) (by rw[<-ow_ge l];exact o)⟩;rw[ow_ge hm]at d;refine⟨?_,Qmw ho hm d⟩;obtain⟨x,r⟩:=Qoz ho d;rcases q.mem r with⟨u,_⟩|⟨_,q1,q2,c⟩;·omega
 rw[ow_ge hm,d]at c;cases x with|cells f cs=>obtain⟨p,_,k1,_⟩:=c;exact⟨_,k1,rfl,fun k=>by simp⟩|map f es=>obtain⟨p,k1,_⟩:=c;exact⟨_,k1,rfl,fun k=>by simp⟩|loop f N T a s body st=>obtain⟨T0,k1,_⟩:=c;exact⟨_,k1,rfl,fun k=>by simp⟩|dead f=>exact absurd rfl (q2 f)
theorem Rec.heap{a:List (Nat×Src)}{L:HL}(ho:okPs m a L=true)(b:RB m (ow m a) h L):RH m (ow m a) h (hp L):=fun d f c=>b.mem (Qqx ho c)
theorem Qqy:∀{L:HL}{f:List (Nat×Src)},okPs m f L=true->∀{b:Nat},(hp L).get b=none->∀p∈L,p.1≠b
 |[],_,_,_,_,p,hp=>by cases hp|(i,l)::L,[],c,_,_,_,_=>by simp[okPs]at c|(i,l)::L,(k,s)::f,c,b,d,p,a=>by
  simp only[okPs,Zaa,ZbZ,ZbO]at c;obtain⟨⟨⟨⟨rfl,g⟩,_⟩,_⟩,h⟩:=c;simp only[hp]at d;by_cases e:b=k;·simp_all[QaA]
  rw[QaG g e]at d;rcases Zau.1 a with rfl|a;·omega
  exact Qqy h d p a
theorem Rec.dom{b:List (Nat×Src)}{L:HL}(ho:okPs m b L=true)(f:RO m L h):RD m (ow m b) h (hp L):=fun g d=>⟨fun a=>f g a (Qqy ho d),fun c=>by grind[ow_ge,Qoy]⟩
theorem W2.recL{c:SCode}{n:Nat}{Q:SX->St->Prop}{T T':Tmps}{L:HL}(f:Rec m T' L T h)(hw:W2 P ⟨n,m⟩ c Q ⟨T',hp L⟩):W2 P ⟨n,m⟩ c Q ⟨T,h⟩:=by obtain⟨g,ho,a,b,d⟩:=f;exact W2.recast (N:=⟨n,m⟩) (Rec.maps ho b) (Rec.heap ho b) (Rec.dom ho a) d hw
theorem W2.post{l:SCode}{k:Nat}{Q:SX->St->Prop}{A:St}(hw:W2 P ⟨k,m⟩ l (fun e B=>Q e B\/∃T' L,Rec m T' L B.T B.h/\Q e ⟨T',hp L⟩) A):W2 P ⟨k,m⟩ l Q A:=by
 intro code g c a w S ro b Q' r;refine hw code g c a w S ro b Q' ?_;rintro e B d s f(o|⟨T',L,⟨h,ho,b,p,q⟩,o⟩)S' E';·grind
 have M:=Rec.maps ho p;exact r e ⟨T',hp L⟩ (nctx m (ow m h) B.h d) s f o ⟨(Rec.heap ho p).hrel (Rec.dom ho b) M S'.heap,fun i=>q i _ d f _ S'.heap M (S'.tmps i),S'.size,S'.defers.mono2 (Qew (m:=m) (π:=ow m h) (h:=B.h) d f)⟩ (E'.trans (Qew d f))
theorem RT.nil{T:Tmps}:RT m π h [] T:=fun _=>Rn.any
theorem RT.cons{T' T:Tmps}{j:Nat}{v:AV}(b:Rn m π h v (lk T j))(a:RT m π h T' T):RT m π h ((j,v)::T') T:=by
 intro i;rw[QaW];split;·simp_all
 exact a i
theorem RB.nil:RB m π h []:=trivial
theorem RB.cells{b a g:Nat}{cs ds:List AV}{r:HL}(hm:Nat.ble m a=true)(hp:π a=some (.blk b g))(c:h.get b=some (.cells g ds))(hc:RnL m π h cs ds)(d:RB m π h r):RB m π h ((a,.cells 0 cs)::r):=⟨.inr ⟨Zas hm,rfl,fun _=>by simp,by rw[hp];exact⟨ds,ds.length,c,by simp_all⟩⟩,d⟩
theorem RB.newnil{a:Nat}{r:HL}(hm:Nat.ble m a=true)(hp:π a=some .nil)(b:RB m π h r):RB m π h ((a,.cells 0 [])::r):=⟨.inr ⟨Zas hm,rfl,fun _=>by simp,by rw[hp];rfl⟩,b⟩
theorem RB.map{b a g:Nat}{es fs:List (AV×AV)}{r:HL}(hm:Nat.ble m a=true)(hp:π a=some (.blk b g))(c:h.get b=some (.map g fs))(hc:RnM m π h es fs)(d:RB m π h r):RB m π h ((a,.map 0 es)::r):=⟨.inr ⟨Zas hm,rfl,fun _=>by simp,by rw[hp];exact⟨fs,c,hc⟩⟩,d⟩
theorem RB.cellsB{b g:Nat}{cs ds:List AV}{r:HL}(hm:Nat.blt b m=true)(a:h.get b=some (.cells g ds))(hc:RnL m π h cs ds)(c:RB m π h r):RB m π h ((b,.cells g cs)::r):=⟨.inl ⟨by simpa using hm,ds,ds.length,a,by simp_all⟩,c⟩
theorem RB.mapB{b g:Nat}{es fs:List (AV×AV)}{r:HL}(hm:Nat.blt b m=true)(a:h.get b=some (.map g fs))(hc:RnM m π h es fs)(c:RB m π h r):RB m π h ((b,.map g es)::r):=⟨.inl ⟨by simpa using hm,fs,a,hc⟩,c⟩
theorem QjK{s:Src}:∀{g:List (Nat×Src)},srcNew s g=true->∀d c,lkS g d=some c->(match s,c with|.blk b _,.blk b2 _=>b≠b2|_,_=>True)
 |[],_,d,c,a=>by simp[lkS]at a|(j,t)::g,f,d,c,a=>by
  simp only[srcNew,Zaa]at f;simp only[lkS]at a;split at a;·cases a;have:=f.1;cases s<;>cases t<;>simp_all;intro e;simp_all
  exact QjK f.2 d c a
theorem RnL.nil{m:Nat}{π:Nat->Option Src}{h:Heap}:RnL m π h [] []:=trivial
theorem RnL.cons{m:Nat}{π:Nat->Option Src}{h:Heap}{x y:AV}{xs ys:List AV}(h1:Rn m π h x y)(a:RnL m π h xs ys):RnL m π h (x::xs) (y::ys):=⟨h1,a⟩
theorem Rn.fz{a:List (Nat×Src)}{b g len sz:Nat}{cs ds:List AV}(d:h.get b=some (.cells g ds))(f:srcNew (.blk b g) a=true)(hm:Nat.ble m b=true)(k:ds.length=len*sz)(o:RnL m (ow m a) h cs ds):Rn m (ow m a) h (.fsl cs len sz) (.sl b g 0 len sz):=by
 refine Rn.frz d (by simpa using hm) (fun i l c e=>?_) (by omega) ?_;·rw[ow_ge c]at e;exact QjK f i _ e rfl
 grind
theorem Rn.fzm{a:List (Nat×Src)}{b g len sz k:Nat}{cs ds:List AV}(c:h.get b=some (.cells g ds))(i:srcNew (.blk b g) a=true)(hm:Nat.ble m b=true)(d:k=len)(f:ds.length=len*sz)(l:RnL m (ow m a) h cs ds):Rn m (ow m a) h (.fsl cs k sz) (.sl b g 0 len sz):=by simp_all[Rn.fz]
theorem Rn.fz0{b g len sz:Nat}{cs ds:List AV}(a:h.get b=some (.cells g ds))(c:ds.length=len*sz)(f:RnL 0 π0 h cs ds):Rn 0 π0 h (.fsl cs len sz) (.sl b g 0 len sz):=by refine Rn.frz a (Zah _) (fun i d _ e=>by simp[π0]at e) (by omega) ?_;grind
end
theorem Rn.slot{m:Nat}{π:Nat->Option Src}{h:Heap}{T:Tmps}{j:Nat}{v:AV}(a:lk T j=v)(b:noRef v=true):Rn m π h v (lk T j):=by simp_all[Zcq]
section
variable{m:Nat}{π:Nat->Option Src}{h:Heap}
theorem Rn.x1{a b g off len sz:Nat}(hm:Nat.ble m a=true)(hp:π a=some (.blk b g)):Rn m π h (.sl a 0 off len sz) (.sl b g off len sz):=Rn.sl (Zas hm) hp
theorem Rn.x2{a b g off:Nat}(hm:Nat.ble m a=true)(hp:π a=some (.blk b g)):Rn m π h (.ptr a 0 off) (.ptr b g off):=Rn.ptr (Zas hm) hp
theorem Rn.x3{a b g:Nat}(hm:Nat.ble m a=true)(hp:π a=some (.blk b g)):Rn m π h (.map a 0) (.map b g):=Rn.map (Zas hm) hp
theorem Rn.x4{a sz:Nat}(hm:Nat.ble m a=true)(hp:π a=some .nil):Rn m π h (.sl a 0 0 0 sz) .nilsl:=Rn.slnil (Zas hm) hp
theorem Rn.x5{b g off len sz:Nat}(hm:Nat.ble (b+1) m=true):Rn m π h (.sl b g off len sz) (.sl b g off len sz):=Rn.slB (Zas hm)
theorem Rn.x6{b g off:Nat}(hm:Nat.ble (b+1) m=true):Rn m π h (.ptr b g off) (.ptr b g off):=Rn.ptrB (Zas hm)
theorem Rn.x7{b g:Nat}(hm:Nat.ble (b+1) m=true):Rn m π h (.map b g) (.map b g):=Rn.mapB (Zas hm)
end
section
variable{k m n:Nat}{T:Tmps}{h:Heap}{Q:QC}{fs:List Fr}{α:Type}{env:α->Tmps}{H:α->HL}{I:α->Prop}{μ:α->Nat}{a:α}
def loopR(P:Program)(k m:Nat){α:Type}(env:α->Tmps)(H:α->HL)(I:α->Prop)(μ:α->Nat)(a:α)(fs:List Fr)(Q:QC):QC:=fun e T h n=>match e with|.normal=>∃b,μ b<μ a/\I b/\Rec m (env b) (H b) T h|e=>wX P ⟨k,m⟩ e fs n T h Q
theorem QgI:loopR P k m env H I μ a fs Q .normal T h n=∃b,μ b<μ a/\I b/\Rec m (env b) (H b) T h:=rfl
theorem Qi7{i:Nat}:loopR P k m env H I μ a fs Q (.exit i) T h n=wX P ⟨k,m⟩ (.exit i) fs n T h Q:=rfl
theorem QkK:loopR P k m env H I μ a fs Q .ret T h n=wX P ⟨k,m⟩ .ret fs n T h Q:=rfl
theorem QaL{b:SCode}(s:Nat)(env:α->Tmps)(H:α->HL)(I:α->Prop)(μ:α->Nat)(c:α)(r:Rec m (env c) (H c) T h)(l:I c)(round:∀a,I a->wS P ⟨k,m⟩ b [] s (env a) (hp (H a)) (loopR P k m env H I μ a fs Q)):wS P ⟨k,m⟩ (.loop b) fs n T h Q:=by show W2 P ⟨k,m⟩ (.loop b) (fun e B=>∃n,ct P ⟨k,m⟩ fs Q e B.T B.h n) ⟨T,h⟩;refine W2.loop (fun q B=>∃a,μ a=q/\I a/\Rec m (env a) (H a) B.T B.h) (μ c) ⟨c,rfl,l,r⟩ ?_;rintro q B⟨a,rfl,hi,o⟩;refine W2.recL o ((Zcs (round a hi)).mono ?_);rintro e C⟨f,d⟩;cases e with|normal=>obtain⟨g,h1,t,p⟩:=d;exact⟨μ g,h1,g,rfl,t,p⟩|exit i=>exact⟨f,d⟩|ret=>exact⟨f,d⟩
def loopX(P:Program)(k m:Nat){α β:Type}(env:α->Tmps)(H:α->HL)(I:α->Prop)(μ:α->Nat)(i:Nat)(T1:β->Tmps)(L1:β->HL)(J:β->Prop)(a:α)(fs:List Fr)(Q:QC):QC:=fun e T h n=>match e with|.normal=>∃c,μ c<μ a/\I c/\Rec m (env c) (H c) T h|.exit j=>if j=i then∃b,J b/\Rec m (T1 b) (L1 b) T h else wX P ⟨k,m⟩ (.exit j) fs n T h Q|.ret=>wX P ⟨k,m⟩ .ret fs n T h Q
section
variable{β:Type}{i:Nat}{T1:β->Tmps}{L1:β->HL}{J:β->Prop}
theorem QgJ:loopX P k m env H I μ i T1 L1 J a fs Q .normal T h n=∃b,μ b<μ a/\I b/\Rec m (env b) (H b) T h:=rfl
theorem QfL{j:Nat}:loopX P k m env H I μ i T1 L1 J a fs Q (.exit j) T h n=if j=i then∃b,J b/\Rec m (T1 b) (L1 b) T h else wX P ⟨k,m⟩ (.exit j) fs n T h Q:=rfl
theorem QkL:loopX P k m env H I μ i T1 L1 J a fs Q .ret T h n=wX P ⟨k,m⟩ .ret fs n T h Q:=rfl
end
theorem Qaq{b:SCode}{β:Type}(v:Nat)(env:α->Tmps)(H:α->HL)(I:α->Prop)(μ:α->Nat)(d:α)(i o:Nat)(T1:β->Tmps)(L1:β->HL)(J:β->Prop)(r:Rec m (env d) (H d) T h)(s:I d)(round:∀a,I a->wS P ⟨k,m⟩ b [] v (env a) (hp (H a)) (loopX P k m env H I μ i T1 L1 J a fs Q))(cont:∀b,J b->wX P ⟨k,m⟩ (.exit i) fs o (T1 b) (hp (L1 b)) Q):wS P ⟨k,m⟩ (.loop b) fs n T h Q:=by
 show W2 P ⟨k,m⟩ (.loop b) (fun e B=>∃n,ct P ⟨k,m⟩ fs Q e B.T B.h n) ⟨T,h⟩;refine W2.post ?_;refine W2.loop (fun q B=>∃a,μ a=q/\I a/\Rec m (env a) (H a) B.T B.h) (μ d) ⟨d,rfl,s,r⟩ ?_;rintro q B⟨a,rfl,hi,g⟩;refine W2.recL g ((Zcs (round a hi)).mono ?_);rintro e C⟨f,c⟩
 cases e with|normal=>obtain⟨l,h1,p,t⟩:=c;exact⟨μ l,h1,l,rfl,p,t⟩|exit j=>
  replace c:loopX P k m env H I μ i T1 L1 J a fs Q (.exit j) C.T C.h f:=c;rw[QfL]at c;split at c;·rename_i e;subst e;obtain⟨b,u,g⟩:=c;exact .inr ⟨_,_,g,o,cont b u⟩
  exact .inl ⟨f,c⟩|ret=>exact .inl ⟨f,c⟩
end
section
variable{N:NM}{n:Nat}{d:Option Nat}{af dead:List Nat}{r:List SOper}{T:Tmps}{h:Heap}{Q:QC}{fs:List Fr}
def wA(P:Program)(N:NM)(c ys:Option (List AV))(g a len sz bytes b:Nat)(d:Option Nat)(ops:List SOper)(dead:List Nat)(fs:List Fr)(n:Nat)(T:Tmps)(h:Heap)(Q:QC):Prop:=∃y z,ys=some y/\c=some z/\((a+len)*bytes<=140737488355328/\a+len<=140737488355328)/\y.all AV.one=true/\wB P N (some (.cells (g+1) (z++y))) b (.sl b (g+1) 0 (a+len) sz) d ops dead fs n T h Q
theorem QhQ{sz bytes b g off len b2 f c a:Nat}:wM P N (aAppend .dyn n sz bytes (.sl b2 f c a sz) (.sl b g off len sz)) d r dead fs n T h Q=wA P N (srcB (h.get b2) f c a sz) (srcB (h.get b) g off len sz) f a len sz bytes b2 d r dead fs n T h Q:=by
 rw[Qpq];apply propext;constructor;·rintro⟨l,i,h1,m,k,o,p⟩;exact⟨l,i,h1,m,k,o,p⟩
 rintro⟨l,i,h1,m,k,o,p⟩;simp_all
theorem QoA{c ys:List AV}{g a len sz bytes b:Nat}(h1:(a+len)*bytes<=140737488355328)(l:a+len<=140737488355328):wA P N (some c) (some ys) g a len sz bytes b d r dead fs n T h Q=if ys.all AV.one=true then wB P N (some (.cells (g+1) (c++ys))) b (.sl b (g+1) 0 (a+len) sz) d r dead fs n T h Q else False:=by
 by_cases ho:ys.all AV.one=true
 ·rw[if_pos ho];apply propext;constructor;·rintro⟨y,z,i,k,_,_,f⟩;simp_all
  intro f;exact⟨ys,c,rfl,rfl,⟨h1,l⟩,ho,f⟩
 rw[if_neg ho];apply propext;constructor;·rintro⟨y,z,i,k,_,m,f⟩;grind
 simp_all
theorem Qmy{g len sz:Nat}{cs:List AV}(a:cs.length=len*sz):srcB (some (.cells g cs)) g 0 len sz=some cs:=by rw[QcV,if_pos ⟨rfl,by omega⟩,Zbm,<-a,Zar]
end
end Go.AM
theorem _root_.Go.AM.Zcx:type_of%@Go.AM.RO.zero:=@Go.AM.RO.zero
theorem _root_.Go.AM.Zcy:type_of%@Go.AM.RT.nil:=@Go.AM.RT.nil
theorem _root_.Go.AM.Zcz:type_of%@Go.AM.RT.cons:=@Go.AM.RT.cons
theorem _root_.Go.AM.ZcA:type_of%@Go.AM.RB.nil:=@Go.AM.RB.nil
theorem _root_.Go.AM.ZcB:type_of%@Go.AM.RB.cells:=@Go.AM.RB.cells
theorem _root_.Go.AM.ZcC:type_of%@Go.AM.RB.newnil:=@Go.AM.RB.newnil
theorem _root_.Go.AM.ZcD:type_of%@Go.AM.RB.map:=@Go.AM.RB.map
theorem _root_.Go.AM.ZcE:type_of%@Go.AM.RB.cellsB:=@Go.AM.RB.cellsB
theorem _root_.Go.AM.ZcF:type_of%@Go.AM.RB.mapB:=@Go.AM.RB.mapB
theorem _root_.Go.AM.ZcG:type_of%@Go.AM.RnL.nil:=@Go.AM.RnL.nil
theorem _root_.Go.AM.ZcH:type_of%@Go.AM.RnL.cons:=@Go.AM.RnL.cons
theorem _root_.Go.AM.ZcI:type_of%@Go.AM.Rn.fzm:=@Go.AM.Rn.fzm
namespace Go.AM
theorem words:type_of%@Qn0/\type_of%@Qp5/\type_of%@Qn1/\type_of%@Qkh/\type_of%@Qp6/\type_of%@Qn2/\type_of%@QlW/\type_of%@Qn3/\type_of%@QlX/\type_of%@Qn4/\type_of%@Qp7/\type_of%@wX_sq/\type_of%@Qki/\type_of%@QiO/\type_of%@Qp8/\type_of%@QiP/\type_of%@QhB/\type_of%@QgC/\type_of%@QiZ/\type_of%@Qky/\type_of%@ev_t/\type_of%@ev_c/\type_of%@ev_f/\type_of%@Qp9/\type_of%@QaW/\type_of%@QjC/\type_of%@Qqa/\type_of%@Qqb/\type_of%@rm_no/\type_of%@Qn5/\type_of%@Qkj/\type_of%@Qkk/\type_of%@QlY/\type_of%@Qkl/\type_of%@Qn6/\type_of%@QlZ/\type_of%@Ql0/\type_of%@Ql1/\type_of%@QhC/\type_of%@Qgx/\type_of%@Qqc/\type_of%@Ql2/\type_of%@Qn7/\type_of%@Qn8/\type_of%@Qqd/\type_of%@Qn9/\type_of%@Qoa/\type_of%@Ql3/\type_of%@Qkm/\type_of%@Qqe/\type_of%@wR_eq/\type_of%@wR_un/\type_of%@Qob/\type_of%@Qex/\type_of%@Ql5/\type_of%@Ql6/\type_of%@Ql7/\type_of%@Ql8/\type_of%@Ql9/\type_of%@QiQ/\type_of%@Qkn/\type_of%@Qma/\type_of%@Qqg/\type_of%@Qko/\type_of%@Qoc/\type_of%@Qmb/\type_of%@Qmc/\type_of%@QiR/\type_of%@Qkp/\type_of%@Qod/\type_of%@Qqh/\type_of%@Qkq/\type_of%@Qoe/\type_of%@Qof/\type_of%@Qed/\type_of%@Qmd/\type_of%@Qqi/\type_of%@Qct/\type_of%@QjD/\type_of%@Qkt/\type_of%@QhD/\type_of%@QhE/\type_of%@QiS/\type_of%@Qku/\type_of%@Qmf/\type_of%@Qkv/\type_of%@QhF/\type_of%@Qkw/\type_of%@Qkr/\type_of%@Qks/\type_of%@Qif/\type_of%@Qig/\type_of%@Qih/\type_of%@Qii/\type_of%@Qmg/\type_of%@Qmh/\type_of%@Qey/\type_of%@Qez/\type_of%@QeA/\type_of%@QeB/\type_of%@QeC/\type_of%@QeD/\type_of%@Qoh/\type_of%@Qoi/\type_of%@Qgz/\type_of%@QiU/\type_of%@QhG/\type_of%@QiT/\type_of%@QgA/\type_of%@Qmi/\type_of%@Qmj/\type_of%@QgB/\type_of%@wr_u8/\type_of%@Qqk/\type_of%@Qql/\type_of%@Qqj/\type_of%@Qqm/\type_of%@QiV/\type_of%@Qkx/\type_of%@QiW/\type_of%@QhH/\type_of%@QiX/\type_of%@QhI/\type_of%@QhJ/\type_of%@QhK/\type_of%@List.elem_cons.{0}/\type_of%@List.elem_nil.{0}/\type_of%@Zao/\type_of%@Bool.true_eq_false/\type_of%@List.getElem?_cons_zero.{0}/\type_of%@List.getElem?_cons_succ.{0}/\type_of%@decide_eq_true_eq/\type_of%@decide_eq_false_iff_not/\type_of%@decide_true/\type_of%@decide_false/\type_of%@Bool.not_true/\type_of%@Bool.not_false/\type_of%@Zbx/\type_of%@Bool.not_eq_eq_eq_not/\type_of%@List.nil_append.{0}/\type_of%@List.append_nil.{0}/\type_of%@List.cons_append.{0}/\type_of%@and_true/\type_of%@true_and/\type_of%@Zbp/\type_of%@ZbL/\type_of%@Zcj/\type_of%@ZbW/\type_of%@Int.toNat_zero/\type_of%@Qi0/\type_of%@Qmk/\type_of%@Qoj/\type_of%@QiY:=⟨@Qn0,@Qp5,@Qn1,@Qkh,@Qp6,@Qn2,@QlW,@Qn3,@QlX,@Qn4,@Qp7,@wX_sq,@Qki,@QiO,@Qp8,@QiP,@QhB,@QgC,@QiZ,@Qky,@ev_t,@ev_c,@ev_f,@Qp9,@QaW,@QjC,@Qqa,@Qqb,@rm_no,@Qn5,@Qkj,@Qkk,@QlY,@Qkl,@Qn6,@QlZ,@Ql0,@Ql1,@QhC,@Qgx,@Qqc,@Ql2,@Qn7,@Qn8,@Qqd,@Qn9,@Qoa,@Ql3,@Qkm,@Qqe,@wR_eq,@wR_un,@Qob,@Qex,@Ql5,@Ql6,@Ql7,@Ql8,@Ql9,@QiQ,@Qkn,@Qma,@Qqg,@Qko,@Qoc,@Qmb,@Qmc,@QiR,@Qkp,@Qod,@Qqh,@Qkq,@Qoe,@Qof,@Qed,@Qmd,@Qqi,@Qct,@QjD,@Qkt,@QhD,@QhE,@QiS,@Qku,@Qmf,@Qkv,@QhF,@Qkw,@Qkr,@Qks,@Qif,@Qig,@Qih,@Qii,@Qmg,@Qmh,@Qey,@Qez,@QeA,@QeB,@QeC,@QeD,@Qoh,@Qoi,@Qgz,@QiU,@QhG,@QiT,@QgA,@Qmi,@Qmj,@QgB,@wr_u8,@Qqk,@Qql,@Qqj,@Qqm,@QiV,@Qkx,@QiW,@QhH,@QiX,@QhI,@QhJ,@QhK,@List.elem_cons.{0},@List.elem_nil.{0},@Zao,@Bool.true_eq_false,@List.getElem?_cons_zero.{0},@List.getElem?_cons_succ.{0},@decide_eq_true_eq,@decide_eq_false_iff_not,@decide_true,@decide_false,@Bool.not_true,@Bool.not_false,@Zbx,@Bool.not_eq_eq_eq_not,@List.nil_append.{0},@List.append_nil.{0},@List.cons_append.{0},@and_true,@true_and,@Zbp,@ZbL,@Zcj,@ZbW,@Int.toNat_zero,@Qi0,@Qmk,@Qoj,@QiY⟩
theorem wordsN:type_of%@Qms/\type_of%@Qfg/\type_of%@QeS/\type_of%@QkD/\type_of%@Option.map_some.{0,0}/\type_of%@QjJ/\type_of%@wN_go/\type_of%@wB_go/\type_of%@QaA/\type_of%@QaG/\type_of%@QkC/\type_of%@Qi6/\type_of%@QkE/\type_of%@QkF/\type_of%@Qmt/\type_of%@QkG/\type_of%@QhP/\type_of%@Qot/\type_of%@Qou/\type_of%@Qqv/\type_of%@Qov/\type_of%@QkH/\type_of%@Qow/\type_of%@Qqw/\type_of%@Qox/\type_of%@QkI/\type_of%@Qmu/\type_of%@List.set_cons_zero.{0}/\type_of%@List.set_cons_succ.{0}/\type_of%@List.length_cons.{0}/\type_of%@List.length_nil.{0}/\type_of%@List.all_cons.{0}/\type_of%@List.all_nil.{0}/\type_of%@Zac/\type_of%@Zai/\type_of%@List.drop_zero.{0}/\type_of%@List.drop_succ_cons.{0}/\type_of%@List.take_succ_cons.{0}/\type_of%@List.take_zero.{0}/\type_of%@List.head?_cons.{0}/\type_of%@QkJ/\type_of%@ZaM/\type_of%@Int.cast_ofNat_Int/\type_of%@Int.natCast_zero/\type_of%@Int.natCast_one:=⟨@Qms,@Qfg,@QeS,@QkD,@Option.map_some.{0,0},@QjJ,@wN_go,@wB_go,@QaA,@QaG,@QkC,@Qi6,@QkE,@QkF,@Qmt,@QkG,@QhP,@Qot,@Qou,@Qqv,@Qov,@QkH,@Qow,@Qqw,@Qox,@QkI,@Qmu,@List.set_cons_zero.{0},@List.set_cons_succ.{0},@List.length_cons.{0},@List.length_nil.{0},@List.all_cons.{0},@List.all_nil.{0},@Zac,@Zai,@List.drop_zero.{0},@List.drop_succ_cons.{0},@List.take_succ_cons.{0},@List.take_zero.{0},@List.head?_cons.{0},@QkJ,@ZaM,@Int.cast_ofNat_Int,@Int.natCast_zero,@Int.natCast_one⟩
theorem wordsR:type_of%@Qmv/\type_of%@QaS/\type_of%@get_e/\type_of%@QgI/\type_of%@Qi7/\type_of%@QkK/\type_of%@QgJ/\type_of%@QfL/\type_of%@QkL/\type_of%@QhQ/\type_of%@QoA/\type_of%@Qmy/\type_of%@Int.ofNat_lt/\type_of%@Int.ofNat_le/\type_of%@Int.ofNat_inj/\type_of%@Int.natCast_pos/\type_of%@ZaS/\type_of%@List.length_map.{0,0}/\type_of%@List.length_append.{0}/\type_of%@List.take_length.{0}/\type_of%@Nat.zero_mul/\type_of%@Nat.one_mul/\type_of%@Nat.add_zero/\type_of%@Int.zero_add/\type_of%@ZaC/\type_of%@Int.le_refl/\type_of%@not_true/\type_of%@not_false_iff/\type_of%@Nat.lt_irrefl/\type_of%@Int.lt_irrefl:=⟨@Qmv,@QaS,@get_e,@QgI,@Qi7,@QkK,@QgJ,@QfL,@QkL,@QhQ,@QoA,@Qmy,@Int.ofNat_lt,@Int.ofNat_le,@Int.ofNat_inj,@Int.natCast_pos,@ZaS,@List.length_map.{0,0},@List.length_append.{0},@List.take_length.{0},@Nat.zero_mul,@Nat.one_mul,@Nat.add_zero,@Int.zero_add,@ZaC,@Int.le_refl,@not_true,@not_false_iff,@Nat.lt_irrefl,@Int.lt_irrefl⟩
end Go.AM
namespace Go.AM
variable{P:Program}
def FSpec(P:Program)(f:Nat)(args:List AV)(v:AV):Prop:=Callable P f/\noRefs args=true/\noRef v=true/\∀(F:Nat->Prop)(w:World)(a:Array Value),(∀k,F k->k<w.heap.size)->VRels (only (ok:=okc P) F) w args a.toList->Calls P f a w fun e b=>∃c F',e=.returned c/\Evo2 0 (only (ok:=okc P) F) w (only (ok:=okc P) fun k=>F k\/F' k) b/\(∀k,F' k->w.heap.size<=k/\k<b.heap.size)/\VRel (only (ok:=okc P) F') b v c
def RnO(h:Heap)(x y:AV):Prop:=∀(ok:Okc)(c:Ctx ok)(w:World)(v:Value),HRel c h w->VRel c w y v->VRel (only (ok:=ok) c.O) w x v
def RnOL(h:Heap):List AV->List AV->Prop|[],[]=>True|x::xs,y::a=>RnO h x y/\RnOL h xs a|_,_=>False
section
variable{h:Heap}
theorem RnO.flat{x:AV}(hf:flatV x=true):RnO h x x:=fun _ c w v _ a=>VRel.flat _ _ hf a
theorem RnOL.nil:RnOL h [] []:=trivial
theorem RnOL.cons{x y:AV}{xs ys:List AV}(h1:RnO h x y)(a:RnOL h xs ys):RnOL h (x::xs) (y::ys):=⟨h1,a⟩
theorem RnOL.rels{ok:Okc}{c:Ctx ok}{w:World}(H:HRel c h w):∀{xs ys:List AV}{vs:List Value},RnOL h xs ys->VRels c w ys vs->VRels (only (ok:=ok) c.O) w xs vs|[],[],_,_,b=>by grind[VRels]|[],_::_,_,a,_=>a.elim|_::_,[],_,a,_=>a.elim|x::xs,y::ys,vs,a,b=>by simp only[VRels]at b⊢;obtain⟨v,d,rfl,f,g⟩:=b;exact⟨v,d,rfl,a.1 _ c w v H f,RnOL.rels H a.2 g⟩
theorem RnO.tup{xs ys:List AV}(d:RnOL h xs ys):RnO h (.tup xs) (.tup ys):=fun _ c w v H a=>by simp only[VRel]at a⊢;obtain⟨b,rfl,a⟩:=a;exact⟨b,rfl,d.rels H a⟩
theorem RnO.sl{b g len sz:Nat}{ds:List AV}(q:h.get b=some (.cells g ds))(hf:flatVs ds=true)(p:ds.length=len*sz):RnO h (.fsl ds len sz) (.sl b g 0 len sz):=fun _ c w v H k=>by
 simp only[VRel]at k;rcases k with⟨hp,rfl,_,rfl⟩|⟨y,base,o,cap,C,e,u,hp,rfl,f,l,d⟩;·simp_all[VRel]
 obtain⟨C',B,t,A,a,x,r,m⟩:=H.here q hp;rw[l]at a;cases a;by_cases z:cap=0
 ·have i:len=0:=by omega
  subst i;have:ds=[]:=Zbj (by rw[p];simp);subst this;simp only[VRel];simp_all
 obtain⟨ho,s⟩:=d.resolve_left z;simp only[VRel];exact .inr ⟨y,o,cap,C,e,u,rfl,f,p,A,l,by grind[VPre.flat]⟩
theorem RnO.slm{b g len k sz:Nat}{ds es:List AV}(d:h.get b=some (.cells g ds))(he:es=ds)(c:k=len)(hf:flatVs ds=true)(a:ds.length=len*sz):RnO h (.fsl es k sz) (.sl b g 0 len sz):=by simp_all[RnO.sl]
end
theorem FSpec.of_W2{f:Nat}{sf:SFn}{args:List AV}{v:AV}(c:okFn P f sf=true)(t:args.length<=sf.n)(o:noRefs args=true)(r:noRef v=true)(hw:W2 P ⟨sf.n,0⟩ sf.body (fun e B=>(e=.normal\/e=.ret)/\∃vs,resV B.T B.h sf.res=some vs/\RnO B.h v (resOf vs)) ⟨argT 0 args,.e⟩):FSpec P f args v:=by
 obtain⟨_,_,_,_,_,_,_,hc⟩:=Qb9 c;refine⟨hc,o,r,fun F w l u o=>(Qc7 (R:=fun vs k=>RnO k v (resOf vs)) c t hw (HRel.only u) o).mono ?_⟩;rintro e x⟨q,m,vs,k,rfl,E,H',V,a⟩;have d:∀k,m.O k->w.heap.size<=k:=fun k i=>(E.own k i).elim (fun h=>h.elim) id;refine⟨q,m.O,rfl,?_,fun k i=>⟨d k i,H'.inO k i⟩,a _ m x q H' V⟩;refine⟨E.os,E.tape,E.output,E.size,E.shape,fun k a _=>E.keep k a (fun h=>h),fun b g p s=>absurd s (ZaC _),fun k a=>.inl a,fun k a=>?_,fun k a=>a.elim,rfl⟩;rcases a with a|a;·exact .inl a
 simp_all
theorem FSpec.of_wS{f:Nat}{sf:SFn}{args:List AV}{v:AV}(n:Nat)(a:okFn P f sf=true)(c:Nat.ble args.length sf.n=true)(d:noRefs args=true)(b:noRef v=true)(hw:wS P ⟨sf.n,0⟩ sf.body [] n (argT 0 args) .e fun e T h _=>(e=.normal\/e=.ret)/\∃vs,resV T h sf.res=some vs/\RnO h v (resOf vs)):FSpec P f args v:=FSpec.of_W2 a (Zas c) d b ((Zcs hw).mono fun e B⟨_,h⟩=>h)
section
variable{h:Heap}
theorem FrzTo.fn{f:Nat}{xs ys us vs:List AV}(k:FrzL h xs ys)(i:FrzL h us vs):FrzTo h (.fn f xs us) (.fn f ys vs):=fun _ c w v H a=>by simp only[VRel]at a⊢;obtain⟨g,d,rfl,h1,b⟩:=a;exact⟨g,d,rfl,k.rels H h1,i.rels H b⟩
theorem FrzTo.ptr{b g off:Nat}{cs ys:List AV}(s:h.get b=some (.cells g cs))(q:FrzL h (cs.drop off) ys):FrzTo h (.ptr b g off) (.fptr ys):=fun _ c w v H k=>by simp only[VRel]at k;obtain⟨m,base,hp,rfl⟩:=k;obtain⟨C',r,f,p,i,l,o,d⟩:=H.here s hp;have a:=Qba off d;rw[ZaW]at a;simp only[VRel];exact⟨m,base+off,C',r,f,rfl,.inr p,i,q.pre H a⟩
theorem FrzTo.map{b g:Nat}{es:List (AV×AV)}{ks vs:List AV}(f:h.get b=some (.map g es))(k:FrzL h (es.map (·.1)) ks)(q:FrzL h (es.map (·.2)) vs):FrzTo h (.map b g) (.fmap ks vs):=fun _ c w v H d=>by simp only[VRel]at d;obtain⟨p,hp,rfl⟩:=d;obtain⟨ms,clock,r,m,a,o⟩:=H.atMap f hp;obtain⟨s,i,l⟩:=Qjz a;have t:=QbI a;simp only[VRel];exact⟨p,ms,clock,rfl,.inr r,m,by simp_all,s,k.rels H i,q.rels H l⟩
theorem HSpec.lend{f:Nat}{args bs:List AV}{v:AV}(b:FrzL h args bs)(hp:PSpec P f bs v)(d:flatV v=true):HSpec P f args h v h:=by obtain⟨i,hc,_⟩:=hp.2.2;exact⟨hc,fun c w a H g=>(hp.borrow d H (b.rels H g)).2⟩
theorem HSpec.of_F{f:Nat}{args bs:List AV}{v:AV}(s:FrzL h args bs)(hp:FSpec P f bs v):HSpec P f args h v h:=by
 obtain⟨hc,p,m,q⟩:=hp;refine⟨hc,fun c w b H r=>?_⟩;have i:∀k,(c.F k\/c.O k)->k<w.heap.size:=fun k a=>a.elim (H.inF k) (H.inO k);refine(q (fun k=>c.F k\/c.O k) w b i (Zcp (c:=lent c) (c':=only fun k=>c.F k\/c.O k) (fun _ h=>h) _ _ p (s.rels H r))).mono ?_;rintro e g⟨l,F',rfl,E,d,V⟩;have a:∀k,k<w.heap.size->g.heap[k]?=w.heap[k]?:=fun k a=>E.keep k a (fun h=>h);obtain⟨E1,H1⟩:=H.grow E.os E.tape E.output E.size a;refine⟨l,{c with F:=fun k=>c.F k\/F' k},rfl,?_,H1.frozen (fun k=>c.F k\/F' k) (fun k a=>.inl a) (fun k a=>?_),Zco (c:=only F') (c':={c with F:=fun k=>c.F k\/F' k}) (fun _ h=>.inr h) _ _ m V⟩;·refine⟨E1.os,E1.tape,E1.output,E1.size,E1.shape,E1.keep,E1.rho,fun k a=>.inl a,fun k a=>?_,E1.own,rfl⟩;grind
 rcases a with a|a;·exact⟨fun o=>H.disj k a o,ZaU (H.inF k a) E.size⟩
 grind
end
end Go.AM
theorem _root_.Go.AM.ZcJ:type_of%@Go.AM.RnOL.cons:=@Go.AM.RnOL.cons
theorem _root_.Go.AM.ZcK:type_of%@Go.AM.FrzTo.ptr:=@Go.AM.FrzTo.ptr
theorem _root_.Go.AM.ZcL:type_of%@Go.AM.HSpec.lend:=@Go.AM.HSpec.lend
namespace Go.AM
variable{P:Program}
def noLoop:SCode->Bool|.loop _|.mloop ..=>false|.seq a b=>noLoop a&&noLoop b|.cond _ a b=>noLoop a&&noLoop b|.block _ b=>noLoop b|.rfunc ..=>false|_=>true
theorem wpC.toW1{N:NM}:∀{c:SCode}{n:Nat}{T:Tmps}{h:Heap}{Q:QC},noLoop c=true->wpC P N c n T h Q->W P N.n c (fun e B=>∃n,Q e B.T B.h n) ⟨T,h⟩
 |.skip,n,T,h,Q,_,d=>W.skip ⟨n,d⟩|.ret,n,T,h,Q,_,d=>W.ret ⟨n,d⟩|.exit i,n,T,h,Q,_,d=>W.exit ⟨n,d⟩|.bad,_,_,_,_,_,d=>d.elim|.mloop ..,n,T,h,Q,f,d=>by simp[noLoop]at f|.rfunc ..,n,T,h,Q,f,d=>by simp[noLoop]at f|.loop _,n,T,h,Q,f,d=>by simp[noLoop]at f|.region ops [] dead,n,T,h,Q,_,d=>by have:=wpR.toWR (i:=0) d;exact W.regionR n (this|>fun h=>by simpa using(show _ from(wpC.toW.wr_mono h)))|.region ops (p::r) dead,n,T,h,Q,_,d=>by obtain⟨fs,T',o,h1,m,q⟩:=wpRF.toF (i:=0) d;grind[W.regionF]|.seq a b,n,T,h,Q,f,d=>by simp only[wpC]at d;simp only[noLoop,Zaa]at f;refine W.seq ((wpC.toW1 (c:=a) f.1 d).mono ?_);rintro e B⟨k,g⟩;cases e with|normal=>exact wpC.toW1 f.2 g|exit i=>exact⟨k,g⟩|ret=>exact⟨k,g⟩
 |.cond x a b,n,T,h,Q,f,⟨t,l,d⟩=>by
  simp only[noLoop,Zaa]at f;refine W.cond l ?_ ?_;·intro e;rw[if_pos e]at d;exact wpC.toW1 f.1 d
  intro e;rw[if_neg (by simp[e])]at d;exact wpC.toW1 f.2 d|.block i b,n,T,h,Q,f,d=>by simp only[wpC]at d;refine W.block ((wpC.toW1 (c:=b) f d).mono ?_);grind
section
variable{N:NM}{n:Nat}{T L:Tmps}{h:Heap}{Q:QC}{fs:List Fr}{b2:Nat}{G:Prop}
end
end Go.AM
namespace Go.AM
variable{P:Program}
section
variable{N:NM}{n:Nat}{d:Option Nat}{af dead:List Nat}{r:List SOper}{T:Tmps}{h:Heap}{Q:QC}{fs:List Fr}
theorem QgK(f:n<1099511627775):wM P N (aMakeMap .dyn n) d r dead fs n T h Q=if h.get n=none then wR P N r dead fs (n+1) (putD T d (.map n 0)) (h.set n (.map 0 [])) Q else False:=by
 have c:Nat.blt n lim=true:=by simp[Nat.blt];unfold lim;omega
 apply propext;constructor;·rintro⟨g,h1,hm,a⟩;unfold aMakeMap HM.new at hm;simp only[HM.run]at hm;cases b:h.get n with|none=>rw[b]at hm;obtain⟨f,hm⟩:=QaU hm;simp only[HM.run,Zab,Zaj]at hm;obtain⟨rfl,rfl⟩:=hm;rw[if_pos rfl];exact a|some z=>rw[b]at hm;cases hm
 split;·rename_i b;intro a;refine⟨_,_,?_,a⟩;grind[aMakeMap,HM.new,HM.run]
 simp_all
def keyM(k:IntKind)(v:AV)(l:List Nat):List (AV×AV):=l.map fun x:Nat=>(.int k (x:Int),v)
theorem RnM.keyM{m:Nat}{π:Nat->Option Src}{h:Heap}{k:IntKind}{v:AV}(a:noRef v=true):∀{l:List Nat},RnM m π h (keyM k v l) (keyM k v l)|[]=>trivial|x::l=>⟨⟨Zcq rfl,Zcq a⟩,RnM.keyM a (l:=l)⟩
end
theorem wordsM:AV.nilmap.boxable=true/\AV.nilmap.cells=[.nilmap]/\(∀b g,(AV.map b g).cells=[.map b g])/\(∀b g,(AV.map b g).one=true)/\(∀b g,(AV.map b g).boxable=true)/\AV.nilmap.one=true:=⟨rfl,rfl,fun _ _=>rfl,fun _ _=>rfl,fun _ _=>rfl,rfl⟩
theorem HSpec.Qun{f m:Nat}{sf:SFn}{args:List AV}{L0 L:HL}{v:AV}(n:Nat)(c:okFn P f sf=true)(l:Nat.ble args.length sf.n=true)(hm:(Nat.ble m 1099511627775&&L0.all fun p=>Nat.blt p.1 m)=true)(o:noRef v=true)(hw:wS P ⟨sf.n,m⟩ sf.body [] n (argT 0 args) (hp L0) fun e T k _=>(e=.normal\/e=.ret)/\∃vs,resV T k sf.res=some vs/\resOf vs=v/\Rec m [] L T k):HSpec P f args (hp L0) v (hp L):=by
 simp only[Zaa,Nat.ble_eq]at hm;refine HSpec.of_W2 c (Zas l) (fun b d=>?_) ((Zcs hw).mono ?_)
 ·have :∀M:HL,M.all (fun p=>Nat.blt p.1 m)=true->(hp M).get b=none:=by intro M;induction M with|nil=>intro _;exact get_e|cons q M h=>obtain⟨j,x⟩:=q;intro i;simp only[Zb9,Zaa,Nat.blt,Nat.ble_eq]at i;rw[QaS,QaG (by omega) (by omega)];exact h (by grind[Nat.blt])
  grind
 rintro e B⟨s,h1,vs,g,t,u,ho,a,d,r⟩;exact⟨h1,vs,_,g,Rec.maps ho d,Rec.heap ho d,Rec.dom ho a,by simp_all[Zcq]⟩
end Go.AM
theorem _root_.Go.AM.ZcM:type_of%@Go.AM.RnM.keyM:=@Go.AM.RnM.keyM
namespace Go.AM
variable{P:Program}
section
variable{N:NM}{n:Nat}{d:Option Nat}{dead:List Nat}{r:List SOper}{T:Tmps}{h:Heap}{Q:QC}{fs:List Fr}
theorem QhR{sz bytes len b2 g b a:Nat}{cs:List AV}:wM P N (aAppend .dyn n sz bytes (.sl b2 g b a sz) (.fsl cs len sz)) d r dead fs n T h Q=wA P N (srcB (h.get b2) g b a sz) (some cs) g a len sz bytes b2 d r dead fs n T h Q:=by
 simp only[aAppend,aSrc,if_true,slLen,Qdo,QdN,Qgy];apply propext;constructor;·rintro⟨c,o,f,k,i⟩;rw[f,QcV,if_pos ⟨rfl,k⟩];exact⟨_,_,rfl,rfl,⟨c.1,c.2.1⟩,c.2.2,i⟩
 rintro⟨p,q,l,m,c,k,i⟩;cases l;unfold srcB at m;grind
theorem Qe5{sz bytes b2 g b a:Nat}:wM P N (aAppend .dyn n sz bytes (.sl b2 g b a sz) .nilsl) d r dead fs n T h Q=wA P N (srcB (h.get b2) g b a sz) (some []) g a 0 sz bytes b2 d r dead fs n T h Q:=by
 simp only[aAppend,aSrc,if_true,slLen,Qdo,QdN,Qgy];apply propext;constructor;·rintro⟨c,o,f,k,i⟩;rw[f,QcV,if_pos ⟨rfl,k⟩];exact⟨_,_,rfl,rfl,⟨c.1,c.2.1⟩,c.2.2,i⟩
 rintro⟨p,q,l,m,c,k,i⟩;cases l;unfold srcB at m;grind
end
theorem QhS{cs:List AV}{len sz:Nat}{k:IntKind}{a:Int}:aSliceC (some sz) (.fsl cs len sz) (some (.int k a)) none none=if 0<=a/\a<=len then some (.fsl ((cs.drop (a.toNat*sz)).take ((len-a.toNat)*sz)) (len-a.toNat) sz)else none:=by simp_all[aSliceC,aSlice,bnd]
theorem QhT{cs:List AV}{len sz:Nat}{k:IntKind}{b:Int}:aSliceC (some sz) (.fsl cs len sz) none (some (.int k b)) none=if 0<=b/\b<=len then some (.fsl (cs.take (b.toNat*sz)) b.toNat sz)else none:=by simp_all[aSliceC,aSlice,bnd]
theorem QhU{cs:List AV}{len sz:Nat}{k k2:IntKind}{a b:Int}:aSliceC (some sz) (.fsl cs len sz) (some (.int k a)) (some (.int k2 b)) none=if 0<=a/\a<=b/\b<=len then some (.fsl ((cs.drop (a.toNat*sz)).take ((b.toNat-a.toNat)*sz)) (b.toNat-a.toNat) sz)else none:=by simp_all[aSliceC,aSlice,bnd]
theorem Qi8{b g off len sz:Nat}{k:IntKind}{a:Int}:aSliceC (some sz) (.sl b g off len sz) (some (.int k a)) none none=if 0<=a/\a<=len then some (.sl b g (off+a.toNat*sz) (len-a.toNat) sz)else none:=by simp_all[aSliceC,aSlice,bnd]
theorem Qi9{b g off len sz:Nat}{k:IntKind}{c:Int}:aSliceC (some sz) (.sl b g off len sz) none (some (.int k c)) none=if 0<=c/\c<=len then some (.sl b g off c.toNat sz)else none:=by simp_all[aSliceC,aSlice,bnd]
theorem Qja{b g off len sz:Nat}{k k2:IntKind}{a c:Int}:aSliceC (some sz) (.sl b g off len sz) (some (.int k a)) (some (.int k2 c)) none=if 0<=a/\a<=c/\c<=len then some (.sl b g (off+a.toNat*sz) (c.toNat-a.toNat) sz)else none:=by simp_all[aSliceC,aSlice,bnd]
end Go.AM
namespace Go.AM
variable{P:Program}
def HM.tch{α:Type}(B:Nat->Prop):HM α->Prop|.ret _=>True|.fail=>True|.look b k=>B b/\∀x,(k x).tch B|.put b _ k=>B b/\k.tch B
theorem HM.Quo{α:Type}{B:Nat->Prop}(m:HM α):m.tch B->∀h b,b∈(m.fp h).1\/b∈(m.fp h).2->B b:=by induction m with
 |ret a=>intro _ h b c;simp[HM.fp]at c|fail=>intro _ h b c;simp[HM.fp]at c|look b k g=>
  rintro⟨h1,f⟩h d c;simp only[HM.fp,Zau]at c;rcases c with(rfl|c)|c;·exact h1
  ·grind
  grind|put b x k g=>
  rintro⟨h1,f⟩h d c;simp only[HM.fp,Zau]at c;rcases c with c|rfl|c;·grind
  ·exact h1
  grind
theorem HM.Qr5{α β:Type}{B:Nat->Prop}{m:HM α}{f:α->HM β}(h1:m.tch B)(d:∀a,(f a).tch B):(m.bind f).tch B:=by induction m with|ret a=>exact d a|fail=>trivial|look b k c=>exact⟨h1.1,fun x=>c x (h1.2 x)⟩|put b x k c=>exact⟨h1.1,c h1.2⟩
theorem QoB{α:Type}{B:Nat->Prop}(o:Option α):(HM.opt o).tch B:=by cases o<;>trivial
theorem QdR{α:Type}{B:Nat->Prop}{b g:Nat}{k:List AV->HM α}(d:B b)(a:∀cs,(k cs).tch B):(HM.cells b g k).tch B:=by refine⟨d,fun x=>?_⟩;match x with
 |some (.cells c cs)=>simp only;cases Nat.beq c g<;>first|exact trivial|exact a cs
 |some (.map _ _)=>trivial|some (.dead _)=>trivial|some (.loop ..)=>trivial|none=>trivial
theorem QjL{α:Type}{B:Nat->Prop}{i:Nat}{x:Nat->Blk}{k:Nat->Nat->HM α}(a:B i)(c:∀b g,(k b g).tch B):(HM.new .dyn i x k).tch B:=by refine⟨a,fun y=>?_⟩;match y with|none=>exact⟨a,c _ _⟩|some z=>trivial
def blks:AV->Option (List Nat)|.ptr b _ _=>some [b]|.sl b _ _ _ _=>some [b]|.map b _=>some [b]|.any=>none|.agg _=>none|.tup []=>some []|.tup _=>none|.fn _ _ _=>none|.ifc _ _=>none|.typed _ _ _=>none|_=>some []
def Pts(v:AV)(bs:List Nat):Prop:=∃cs,blks v=some cs/\∀b∈cs,b∈bs
abbrev Abs:=List (Nat×Option (List Nat))
def absT(T:Tmps):Abs->Nat->Option (List Nat)|[],i=>blks (lk T i)|(j,a)::r,i=>bif Nat.beq j i then a else absT T r i
def absO(T:Tmps)(A:Abs):Opd->Option (List Nat)|.t i=>absT T A i|.c v=>blks v|_=>none
def SOp.absV(i:Nat)(ax:Opd->Option (List Nat)):SOp->Option (List Nat)|.mov x=>ax x|.slice _ x _ _ _=>ax x|.iaddr _ _ x _=>ax x|.faddr _ x=>ax x|.alloc .dyn _=>some [i]|.box .dyn _=>some [i]|.bslice false .dyn _ _ _ _=>some [i]|.mkslice .dyn _ _ _ _ _=>some [i]|.mkmap .dyn=>some [i]|.append .dyn _ _ x _=>(ax x).map fun a=>i::a|_=>none
def SOp.touch(i:Nat)(ax:Opd->Option (List Nat)):SOp->Option (List Nat)
 |.load _ x=>ax x|.store _ x _=>ax x|.len _ x=>ax x|.alloc .dyn _=>some [i]|.box .dyn _=>some [i]|.bslice _ .dyn _ _ _ _=>some [i]|.mkslice .dyn _ _ _ _ _=>some [i]|.mkmap .dyn=>some [i]|.append .dyn _ _ x y=>match ax x,ax y with|some a,some b=>some (i::(a++b))|_,_=>none
 |.copy _ x y=>match ax x,ax y with|some a,some b=>some (a++b)|_,_=>none
 |.lookup _ _ _ _ x _=>ax x|.mupd _ _ x _ _=>ax x|s=>bif Nat.beq s.cls 0 then some []else none
def touches(n:Nat)(T:Tmps):List SOper->Abs->List (Option (List Nat))|[],_=>[]|s::r,A=>s.op.touch n (absO T A)::touches (n+1) T r (match s.dst with|some d=>(d,s.op.absV n (absO T A))::A|none=>A)
def pairsOK(c:List (Option (List Nat)))(d:List (Nat×Nat)):Bool:=d.all fun p=>match c.getD p.1 none,c.getD p.2 none with|some a,some b=>a.all fun x=>!b.elem x|_,_=>false
section
variable{i:Nat}{T:Tmps}{ax:Opd->Option (List Nat)}{B:Nat->Prop}
theorem Qr6{n:Option Nat}{v:AV}{bs:List Nat}(h:Pts v bs):(aLoad n v).tch (·∈bs):=by
 obtain⟨cs,h1,a⟩:=h;unfold aLoad;split
 ·simp only[blks,Zab]at h1;subst h1;refine QdR (a _ (by simp)) fun cs=>?_;split;·exact QoB _
  split<;>trivial
 ·split;·exact QoB _
  split<;>trivial
 trivial
theorem Qqz{n:Nat}{v u:AV}{bs:List Nat}(h:Pts v bs):(aStore n v u).tch (·∈bs):=by
 obtain⟨cs,h1,b⟩:=h;unfold aStore;split
 ·simp only[blks,Zab]at h1;subst h1;have a:=b _ (Zbd.2 rfl);refine QdR a fun cs=>?_;split;·exact⟨a,trivial⟩
  trivial
 trivial
theorem Qtg{k:Nat}{v:AV}{bs:List Nat}(h:Pts v bs):(aLenC k v).tch (·∈bs):=by
 obtain⟨cs,h1,a⟩:=h;unfold aLenC;split
 ·unfold aLen;split<;>try trivial
  simp only[blks,Zab]at h1;subst h1;refine⟨a _ (by simp),fun y=>?_⟩;match y with|some (.map b es)=>simp only;generalize Nat.beq b _=t;cases t<;>trivial|some (.cells _ _)=>trivial|some (.dead _)=>trivial|some (.loop ..)=>trivial|none=>trivial
 trivial
theorem Qhg{sz:Nat}{v:AV}{bs:List Nat}{k:List AV->Nat->HM AV}(h:Pts v bs)(c:∀b∈bs,B b)(a:∀ys n,(k ys n).tch B):(aSrc sz v k).tch B:=by
 obtain⟨cs,h1,d⟩:=h;unfold aSrc;split
 ·simp only[blks,Zab]at h1;subst h1;split
  ·refine QdR (c _ (d _ (by simp))) fun cs=>?_;split;·exact a _ _
   trivial
  trivial
 ·split;·exact a _ _
  trivial
 ·exact a _ _
 ·exact a _ _
 ·exact a _ _
 ·split;·exact a _ _
  trivial
 trivial
theorem Qpr{sz bytes:Nat}{x y:AV}{a b:List Nat}(g:Pts x a)(f:Pts y b):(aAppend .dyn i sz bytes x y).tch (·∈i::(a++b)):=by
 unfold aAppend;refine Qhg f (fun c hc=>by simp[hc]) fun k n=>?_;split
 ·obtain⟨cs,h1,h⟩:=g;split
  ·split;·trivial
   exact QjL (by simp) fun _ _=>trivial
  ·split;·trivial
   exact QjL (by simp) fun _ _=>trivial
  ·split<;>trivial
  ·simp only[blks,Zab]at h1;subst h1;have d:=h _ (Zbd.2 rfl);split
   ·refine QdR (by simp[d]) fun cs=>?_;split;·exact⟨by simp[d],trivial⟩
    trivial
   trivial
  ·simp[blks]at h1
  trivial
 trivial
theorem Qr7{sz:Nat}{x y:AV}{a b:List Nat}(h:Pts x a)(d:Pts y b):(aCopy sz x y).tch (·∈a++b):=by
 obtain⟨cs,h1,i⟩:=h;unfold aCopy;split
 ·simp only[blks,Zab]at h1;subst h1;have f:=i _ (Zbd.2 rfl);split
  ·refine Qhg d (fun c hc=>by simp[hc]) fun g n=>?_;refine QdR (by simp[f]) fun cs=>?_;split;·exact⟨by simp[f],trivial⟩
   trivial
  trivial
 ·exact Qhg d (fun c hc=>by simp[hc]) fun g n=>trivial
 ·exact Qhg d (fun c hc=>by simp[hc]) fun g n=>trivial
 trivial
theorem QhV{α:Type}{b g:Nat}{k:List (AV×AV)->HM α}(d:B b)(a:∀es,(k es).tch B):(HM.entries b g k).tch B:=by refine⟨d,fun x=>?_⟩;match x with
 |some (.map c es)=>simp only;cases Nat.beq c g<;>first|exact trivial|exact a es
 |some (.cells _ _)=>trivial|some (.dead _)=>trivial|some (.loop ..)=>trivial|none=>trivial
theorem Qps{row ok:Bool}{ks:List LK}{z x k:AV}{bs:List Nat}(h:Pts x bs):(aLookup row ks z ok x k).tch (·∈bs):=by
 obtain⟨cs,h1,a⟩:=h;unfold aLookup;split
 ·split;·trivial
  ·simp only[blks,Zab]at h1;subst h1;refine QhV (a _ (by simp)) fun es=>?_;split<;>trivial
  ·split<;>trivial
  trivial
 trivial
theorem Qr8{row:Bool}{ks:List LK}{x k v:AV}{bs:List Nat}(h:Pts x bs):(aMapUpd row ks x k v).tch (·∈bs):=by
 obtain⟨cs,h1,b⟩:=h;unfold aMapUpd;split
 ·split
  ·simp only[blks,Zab]at h1;subst h1;have a:=b _ (Zbd.2 rfl);refine QhV a fun es=>?_;split;·exact⟨a,trivial⟩
   ·exact⟨a,trivial⟩
   trivial
  trivial
 trivial
theorem QbF{m:HM AV}(h:m.tch B):(hval m).tch B:=HM.Qr5 h fun _=>trivial
theorem Qr9{s:SOp}{q:List Nat}(d:∀x bs,ax x=some bs->Pts (ev T x) bs)(h:s.touch i ax=some q):s.cls≠0->(aop i T s).tch (·∈q)/\∀m x k,s≠.call m x k:=by
 intro t;have f:∀{x:Nat->Blk}{r:Nat->Nat->AV},(HM.new .dyn i x fun b g=>.ret (r b g)).tch (·∈[i]):=fun{x r}=>QjL (by simp) fun _ _=>trivial;cases s<;>try(exact absurd rfl t)
 ·rename_i s z;cases s<;>simp only[SOp.touch,SOp.cls,show Nat.beq 2 0=false from rfl,cond_false,reduceCtorEq,Zab]at h;subst h;refine⟨QbF ?_,fun _ _ _=>by simp⟩;unfold aBox;split;·exact f
  trivial
 ·simp only[SOp.touch,SOp.cls,show Nat.beq 2 0=false from rfl,cond_false,reduceCtorEq]at h
 ·rename_i s z;cases s<;>simp only[SOp.touch,SOp.cls,show Nat.beq 2 0=false from rfl,cond_false,reduceCtorEq,Zab]at h;subst h;refine⟨QbF ?_,fun _ _ _=>by simp⟩;unfold aBox;split;·exact f
  trivial
 ·rename_i fz s sz len z u;cases s<;>simp only[SOp.touch,SOp.cls,show Nat.beq 2 0=false from rfl,cond_false,reduceCtorEq,Zab]at h;subst h;refine⟨QbF ?_,fun _ _ _=>by simp⟩;unfold aBuildSlice;split
  ·split
   ·split;·split<;>trivial
    exact f
   trivial
  trivial
 ·exact⟨QbF (Qr6 (d _ _ h)),fun _ _ _=>by simp⟩
 ·exact⟨QbF (Qqz (d _ _ h)),fun _ _ _=>by simp⟩
 ·simp only[SOp.touch,SOp.cls,show Nat.beq 1 0=false from rfl,cond_false,reduceCtorEq]at h
 ·simp only[SOp.touch,SOp.cls,show Nat.beq 2 0=false from rfl,cond_false,reduceCtorEq]at h
 ·simp only[SOp.touch,SOp.cls,show Nat.beq 2 0=false from rfl,cond_false,reduceCtorEq]at h
 ·simp only[SOp.touch,SOp.cls,show Nat.beq 2 0=false from rfl,cond_false,reduceCtorEq]at h
 ·simp only[SOp.touch,SOp.cls,show Nat.beq 2 0=false from rfl,cond_false,reduceCtorEq]at h
 ·simp only[SOp.touch,SOp.cls,show Nat.beq 2 0=false from rfl,cond_false,reduceCtorEq]at h
 ·simp only[SOp.touch,SOp.cls,show Nat.beq 2 0=false from rfl,cond_false,reduceCtorEq]at h
 ·simp only[SOp.touch,SOp.cls,show Nat.beq 1 0=false from rfl,cond_false,reduceCtorEq]at h
 ·rename_i s;cases s<;>simp only[SOp.touch,SOp.cls,show Nat.beq 2 0=false from rfl,cond_false,reduceCtorEq,Zab]at h;subst h;exact⟨QbF f,fun _ _ _=>by simp⟩
 ·rename_i s sz b z l c;cases s<;>simp only[SOp.touch,SOp.cls,show Nat.beq 2 0=false from rfl,cond_false,reduceCtorEq,Zab]at h;subst h;refine⟨QbF ?_,fun _ _ _=>by simp⟩;unfold aMakeSlice;split
  ·split;·exact f
   trivial
  trivial
 ·exact⟨QbF (Qps (d _ _ h)),fun _ _ _=>by simp⟩
 ·exact⟨QbF (Qr8 (d _ _ h)),fun _ _ _=>by simp⟩
 ·exact⟨QbF (Qtg (d _ _ h)),fun _ _ _=>by simp⟩
 ·rename_i s sz b x y;cases s<;>simp only[SOp.touch,SOp.cls,show Nat.beq 2 0=false from rfl,cond_false,reduceCtorEq]at h;split at h;·rename_i a b p o;cases h;exact⟨QbF (Qpr (d _ _ p) (d _ _ o)),fun _ _ _=>by simp⟩
  cases h
 ·rename_i sz x y;simp only[SOp.touch]at h;split at h;·rename_i a b p o;cases h;exact⟨QbF (Qr7 (d _ _ p) (d _ _ o)),fun _ _ _=>by simp⟩
  cases h
 rename_i m x k;exfalso;simp only[SOp.touch]at h;have:Nat.beq (SOp.call m x k).cls 0=false:=by cases m<;>rfl
 simp_all
theorem QhW{s:SOper}{h h1:Heap}{v:AV}{f:FP}{d:List Nat}(k:∀x bs,ax x=some bs->Pts (ev T x) bs)(r:s.op.touch i ax=some d)(l:StepV P i s T h v h1 f):f.all=false/\∀b,b∈f.R\/b∈f.W->b∈d:=by
 by_cases t:s.op.cls=0;·obtain⟨k1,k2,k3⟩:=l.cls (by omega);simp_all
 obtain⟨w,p⟩:=Qr9 k r t;have key:∀{g:SOp},g=s.op->StepX P i g T h v h1 f->f.all=false/\∀b,b∈f.R\/b∈f.W->b∈d:=by
  rintro g rfl⟨out,B,hm,ho⟩;have fin:f=fpOf ((aop i T s.op).fp h)->f.all=false/\∀b,b∈f.R\/b∈f.W->b∈d:=by rintro rfl;exact⟨rfl,fun b q=>HM.Quo _ w h b q⟩
  match out,ho with
  |.val u,ho=>exact fin ho.2.2|.call .pure o args,ho=>exact fin ho.2.2|.call .borrow o args,ho=>exact fin ho.2.2.2|.call .heap o args,ho=>exfalso;cases a:s.op with|call m x c=>exact p m x c a|_=>rw[a]at hm;first|(obtain⟨u,hu,he⟩:=QaN hm;cases he)|(obtain⟨u,y,hu,he⟩:=QaK hm;cases he)|(simp[aop,HM.run]at hm)
  |.round z A args,ho=>exfalso;cases a:s.op with|call m x c=>exact p m x c a|_=>rw[a]at hm;first|(obtain⟨u,hu,he⟩:=QaN hm;cases he)|(obtain⟨u,y,hu,he⟩:=QaK hm;cases he)|(simp[aop,HM.run]at hm)
 unfold StepV at l;grind
theorem Pts.slice{n:Option Nat}{x v:AV}{l h m:Option AV}{bs:List Nat}(f:Pts x bs)(a:aSliceC n x l h m=some v):Pts v bs:=by
 obtain⟨cs,h1,c⟩:=f;have key:aSlice x l h m=some v->Pts v bs:=by
  intro a;unfold aSlice at a;have nil:∀{v:AV},blks v=some []->Pts v bs:=fun h=>⟨[],h,fun b d=>by cases d⟩;split at a;·cases a
  split at a
  ·split at a
   ·split at a;·split at a<;>first|(cases a;exact nil rfl)|cases a
    split at a<;>first|(split at a<;>first|(cases a;first|exact⟨cs,h1,c⟩|exact nil rfl)|cases a)|cases a
   cases a
  ·cases a
  split at a
  ·split at a;·cases a
   split at a;·cases a;exact⟨cs,h1,c⟩
   cases a
  ·split at a;·cases a
   split at a;·cases a;exact nil rfl
   cases a
  ·split at a;·cases a
   split at a;·cases a;exact nil rfl
   cases a
  ·split at a;·cases a
   split at a;·cases a;exact nil rfl
   cases a
  ·split at a;·cases a
   split at a;·cases a;exact nil rfl
   cases a
  cases a
 unfold aSliceC at a;grind
theorem Pts.iaddr{a:Option Nat}{sz:Nat}{x j v:AV}{bs:List Nat}(f:Pts x bs)(c:aIAddr a sz x j=some v):Pts v bs:=by
 obtain⟨cs,h1,g⟩:=f;have nil:∀{v:AV},blks v=some []->Pts v bs:=fun h=>⟨[],h,fun b d=>by cases d⟩;unfold aIAddr at c;split at c;·split at c<;>first|(split at c<;>first|(cases c;first|exact⟨cs,h1,g⟩|exact nil rfl)|cases c)|cases c
 cases c
theorem Pts.faddr{off:Nat}{x v:AV}{bs:List Nat}(d:Pts x bs)(a:aFAddr off x=some v):Pts v bs:=by
 obtain⟨cs,h1,f⟩:=d;have nil:∀{v:AV},blks v=some []->Pts v bs:=fun h=>⟨[],h,fun b c=>by cases c⟩;unfold aFAddr at a;split at a;·cases a;exact⟨cs,h1,f⟩
 ·cases a;exact nil rfl
 ·simp[blks]at h1
 cases a
def HM.gives{α:Type}(R:α->Prop):HM α->Prop|.ret a=>R a|.fail=>True|.look _ k=>∀x,(k x).gives R|.put _ _ k=>k.gives R
theorem HM.QqA{α:Type}{R:α->Prop}(m:HM α):m.gives R->∀h a h1,m.run h=some (a,h1)->R a:=by induction m with|ret a=>intro c h b h1 hm;simp only[HM.run,Zab,Zaj]at hm;rw[<-hm.1];exact c|fail=>intro _ h b h1 hm;simp[HM.run]at hm|look b k d=>intro c h a h1 hm;exact d _ (c _) h a h1 hm|put b x k d=>intro c h a h1 hm;exact d c _ a h1 (QaU hm).2
theorem QhX{α:Type}{R:α->Prop}{b g:Nat}{k:List AV->HM α}(a:∀cs,(k cs).gives R):(HM.cells b g k).gives R:=by intro x;match x with
 |some (.cells c cs)=>simp only;cases Nat.beq c g<;>first|exact trivial|exact a cs
 |some (.map _ _)=>trivial|some (.dead _)=>trivial|some (.loop ..)=>trivial|none=>trivial
theorem Qcv{α:Type}{R:α->Prop}{i:Nat}{x:Nat->Blk}{k:Nat->Nat->HM α}(a:(k i 0).gives R):(HM.new .dyn i x k).gives R:=by intro y;match y with|none=>exact a|some z=>trivial
theorem QqB{R:AV->Prop}{sz:Nat}{v:AV}{k:List AV->Nat->HM AV}(a:∀ys n,(k ys n).gives R):(aSrc sz v k).gives R:=by
 unfold aSrc;split
 ·split
  ·refine QhX fun cs=>?_;split;·exact a _ _
   trivial
  trivial
 ·split;·exact a _ _
  trivial
 ·exact a _ _
 ·exact a _ _
 ·exact a _ _
 ·split;·exact a _ _
  trivial
 trivial
theorem Qmz{sz bytes:Nat}{x y:AV}{a:List Nat}(d:Pts x a):(aAppend .dyn i sz bytes x y).gives fun v=>Pts v (i::a):=by
 have nil:∀{v:AV},blks v=some []->Pts v (i::a):=fun h=>⟨[],h,fun b c=>by cases c⟩;unfold aAppend;refine QqB fun g n=>?_;split
 ·obtain⟨cs,h1,f⟩:=d;split
  ·split;·exact nil rfl
   exact Qcv ⟨_,rfl,fun b c=>by simp_all⟩
  ·split;·exact nil rfl
   exact Qcv ⟨_,rfl,fun b c=>by simp_all⟩
  ·split;·exact nil rfl
   trivial
  ·simp only[blks,Zab]at h1;subst h1;split
   ·refine QhX fun cs=>?_;split;·exact⟨_,rfl,fun b c=>ZbY _ (f b c)⟩
    trivial
   trivial
  ·simp[blks]at h1
  trivial
 trivial
theorem QfM{s:SOper}{h h1:Heap}{v:AV}{f:FP}{bs:List Nat}(g:∀x bs,ax x=some bs->Pts (ev T x) bs)(d:s.op.absV i ax=some bs)(k:StepV P i s T h v h1 f):Pts v bs:=by
 have self:∀{v:AV},blks v=some [i]->Pts v [i]:=fun h=>⟨_,h,fun b w=>w⟩;have key:∀{q:SOp},q.absV i ax=some bs->StepX P i q T h v h1 f->Pts v bs:=by
  rintro q d⟨out,C,hm,ho⟩;have p:∀{m:HM AV},aop i T q=hval m->(m.gives fun v=>Pts v bs)->Pts v bs:=by grind[QaK,HM.QqA]
  have r:∀{o:Option AV},aop i T q=lift o->(∀u,o=some u->Pts u bs)->Pts v bs:=by grind[QaN]
  cases q<;>try(simp only[SOp.absV,reduceCtorEq]at d;done)
  ·simp only[aop,HM.run,Zab,Zaj]at hm;obtain⟨rfl,rfl⟩:=hm;rw[ho.1];exact g _ _ d
  ·rename_i s z;cases s<;>simp only[SOp.absV,reduceCtorEq,Zab]at d;subst d;refine p rfl ?_;unfold aBox;split;·exact Qcv (self rfl)
   trivial
  ·rename_i s z;cases s<;>simp only[SOp.absV,reduceCtorEq,Zab]at d;subst d;refine p rfl ?_;unfold aBox;split;·exact Qcv (self rfl)
   trivial
  ·rename_i fz s sz len z B;cases fz<;>cases s<;>simp only[SOp.absV,reduceCtorEq,Zab]at d;subst d;refine p rfl ?_;unfold aBuildSlice;split
   ·split;·rw[if_neg (by simp)];exact Qcv (self rfl)
    trivial
   trivial
  ·rename_i s;cases s<;>simp only[SOp.absV,reduceCtorEq,Zab]at d;subst d;exact p rfl (Qcv (self rfl))
  ·rename_i s sz b z l c;cases s<;>simp only[SOp.absV,reduceCtorEq,Zab]at d;subst d;refine p rfl ?_;unfold aMakeSlice;split
   ·split;·exact Qcv (self rfl)
    trivial
   trivial
  ·exact r rfl fun u hu=>(g _ _ d).slice hu
  ·exact r rfl fun u hu=>(g _ _ d).faddr hu
  ·exact r rfl fun u hu=>(g _ _ d).iaddr hu
  rename_i s sz b x y;cases s<;>simp only[SOp.absV,reduceCtorEq,Option.map_eq_some_iff]at d;obtain⟨a,A,rfl⟩:=d;exact p rfl (Qmz (g _ _ A))
 unfold StepV at k;split at k;·exact key d k
 obtain⟨t,_,k⟩:=k;split at k;·exact key d k
 obtain⟨rfl,_⟩:=k;exact⟨[],rfl,fun b w=>by cases w⟩
end
def AbsOK(T0:Tmps)(A:Abs)(T:Tmps):Prop:=∀j a,absT T0 A j=some a->Pts (lk T j) a
theorem AbsOK.opd{T0 T:Tmps}{A:Abs}(h:AbsOK T0 A T):∀x bs,absO T0 A x=some bs->Pts (ev T x) bs:=by intro x bs a;cases x with|t i=>exact h i bs a|c v=>exact⟨bs,a,fun b c=>c⟩|f n=>cases a|g n=>cases a
theorem AbsOK.nil{T:Tmps}:AbsOK T [] T:=fun j c h=>⟨c,h,fun b a=>a⟩
theorem AbsOK.up{T0 T:Tmps}{A:Abs}{d:Nat}{v:AV}{a:Option (List Nat)}(h:AbsOK T0 A T)(c:∀bs,a=some bs->Pts v bs):AbsOK T0 ((d,a)::A) (up T d v):=by
 intro j bs b;rw[lk_up];simp only[absT]at b;by_cases e:d=j;·simp_all
 have :Nat.beq d j=false:=by simp_all[ZaA]
 rw[this]at b;rw[if_neg (fun h=>e h.symm)];exact h j bs b
theorem QoC{T0:Tmps}:∀{r:List SOper}{n:Nat}{A:Abs}{T:Tmps}{h:Heap}{K:Tmps->Heap->Nat->Prop}(hA:AbsOK T0 A T)(K':List FP->Tmps->Heap->Nat->Prop),(∀fs T h n',fs.length=r.length->(∀(j:Nat)a,(touches n T0 r A).getD j none=some a->(fs.getD j ⟨false,[],[]⟩).all=false/\∀b,b∈(fs.getD j ⟨false,[],[]⟩).R\/b∈(fs.getD j ⟨false,[],[]⟩).W->b∈a)->K T h n'->K' fs T h n')->wpR P n r T h K->wpRF P n r T h K'
 |[],n,A,T,h,K,hA,K',g,hw=>g [] T h n rfl (fun j a c=>by simp_all) hw|s::r,n,A,T,h,K,hA,K',g,hw=>by
  obtain⟨v,h1,f,i,m⟩:=hw;refine⟨v,h1,f,i,?_⟩;have k:AbsOK T0 (match s.dst with|some d=>(d,s.op.absV n (absO T0 A))::A|none=>A) (putD T s.dst v):=by cases s.dst with|none=>exact hA|some d=>exact AbsOK.up hA fun q l=>QfM hA.opd l i
  refine QoC k (fun fs T h n=>K' (f::fs) T h n) (fun fs T h n' p hf o=>?_) m;refine g (f::fs) T h n' (by simp[p]) (fun j a c=>?_) o;cases j with|zero=>simp only[touches,List.getD_cons_zero]at c⊢;exact QhW hA.opd c i|succ j=>simp only[touches,List.getD_cons_succ]at c⊢;exact hf j a c
inductive PairsOK(n:Nat)(T:Tmps)(ops:List SOper)(ps:List (Nat×Nat)):Prop|mk(h:pairsOK (touches n T ops []) ps=true)
theorem Qjb{N:NM}{ops:List SOper}{p:Nat×Nat}{k:List (Nat×Nat)}{dead:List Nat}{fs:List Fr}{n:Nat}{T:Tmps}{h:Heap}{Q:QC}(hp:PairsOK n T ops (p::k)):wS P N (.region ops (p::k) dead) fs n T h Q=wR P N ops dead fs n T h Q:=by
 obtain⟨hp⟩:=hp;apply propext;constructor
 ·intro hw;have:∀{r:List SOper}{n:Nat}{T:Tmps}{h:Heap}{K:List FP->Tmps->Heap->Nat->Prop}{K':Tmps->Heap->Nat->Prop},(∀fs T h n,K fs T h n->K' T h n)->wpRF P n r T h K->wpR P n r T h K':=by intro r;induction r with|nil=>intro n T h K K' g hw;exact g _ _ _ _ hw|cons s r m=>rintro n T h K K' g⟨v,h1,f,w,u⟩;exact⟨v,h1,f,w,m (fun fs T h n c=>g _ _ _ _ c) u⟩
  exact this (fun i T h n c=>c.2) hw
 intro hw;refine QoC AbsOK.nil _ (fun i T h E H hf c=>⟨?_,c⟩) hw;rw[ZaH];intro q o;have:=ZaH.1 hp q o;split at this
 ·rename_i a b t l;obtain⟨C,I⟩:=hf _ _ t;obtain⟨G,B⟩:=hf _ _ l;have z:∀x y,x∈a->y∈b->x≠y:=by grind
  have A:∀xs d:List Nat,(∀x∈xs,∀y∈d,x≠y)->disj xs d=true:=by intro xs d J;unfold disj;grind
  grind[FP.apart]
 cases this
theorem FrzL.nil{h:Heap}:FrzL h [] []:=trivial
theorem FrzL.cons{h:Heap}{x y:AV}{xs ys:List AV}(h1:FrzTo h x y)(a:FrzL h xs ys):FrzL h (x::xs) (y::ys):=⟨h1,a⟩
end Go.AM
theorem _root_.Go.AM.ZcN:type_of%@Go.AM.FrzL.nil:=@Go.AM.FrzL.nil
theorem _root_.Go.AM.ZcO:type_of%@Go.AM.FrzL.cons:=@Go.AM.FrzL.cons
namespace Go.AM
variable{P:Program}
def setL:HL->Heap->Heap|[],h=>h|(k,x)::r,h=>(setL r h).set k x
theorem QmA{h:Heap}:setL [] h=h:=rfl
theorem QkM{k:Nat}{x:Blk}{r:HL}{h:Heap}:setL ((k,x)::r) h=(setL r h).set k x:=rfl
theorem QmB{b:Nat}{h:Heap}(hf:Fresh b h):∀{L:HL},(L.all fun p=>Nat.ble b p.1&&Nat.blt p.1 1099511627775)=true->∀k,(setL L h).get k=if k<b then h.get k else(hp L).get k
 |[],_,k=>by
  simp only[setL,hp];split;·rfl
  rw[hf k (by omega),get_e]|(j,x)::r,a,k=>by
  simp only[Zb9,Zaa,Nat.ble_eq,ZbZ]at a;obtain⟨⟨h1,d⟩,c⟩:=a;have f:=QmB hf (L:=r) (by simpa using c) k;simp only[setL,hp];by_cases e:k=j;·simp_all[QaA,if_neg]
  simp_all[QaG]
theorem HSpec.of_O{f b:Nat}{args:List AV}{v:AV}{h:Heap}{L:HL}(hn:noRefs args=true)(Q:HSpec P f args .e v (hp L))(hf:Fresh b h)(Z:(L.all fun p=>Nat.ble b p.1&&Nat.blt p.1 1099511627775)=true):HSpec P f args h v (setL L h):=by
 obtain⟨hc,Q⟩:=Q;refine⟨hc,fun c w u H ha=>?_⟩;refine(Q (only c.F) w u (HRel.only H.inF) (Zcp (c:=c) (c':=only c.F) (fun _ h=>h) _ _ hn ha)).mono ?_;rintro e I⟨cv,o,rfl,E,H',V⟩;have i:∀k,o.O k->w.heap.size<=k:=fun k d=>(E.own k d).elim (fun h=>h.elim) id;have m:∀k,o.F k->c.F k\/w.heap.size<=k:=fun k B=>(E.frzNew k B).elim .inl fun h=>h.elim (fun h=>h.elim) .inr;have l:∀k,k<w.heap.size->I.heap[k]?=w.heap[k]?:=fun k a=>E.keep k a (fun h=>h);have J:=QmB hf Z;have Y:∀k,(hp L).get k≠none->b<=k:=fun k a=>by
  rcases ZbE k b with h1|h1
  ·exfalso;apply a;have:∀{M:HL},(M.all fun p=>Nat.ble b p.1&&Nat.blt p.1 1099511627775)=true->(hp M).get k=none:=by intro M;induction M with|nil=>intro _;exact get_e|cons q M ih=>obtain⟨j,x⟩:=q;intro X;simp only[Zb9,Zaa,Nat.ble_eq,ZbZ]at X;rw[QaS,QaG X.1.2 (by omega)];exact ih (by grind)
   exact this Z
  exact h1
 have R:∀k g,k<b->o.ρ k g=none:=fun k g a=>by
  have:(hp L).get k=none:=by grind
  exact H'.fresh k this g
 have K:∀k g,b<=k->c.ρ k g=none:=fun k g a=>H.fresh k (hf k a) g;let c2:Ctx (okc P):={ρ:=fun k g=>if k<b then c.ρ k g else o.ρ k g,F:=o.F,O:=fun k=>c.O k\/o.O k,base:=c.base};have y:∀k g,k<b->c2.ρ k g=c.ρ k g:=fun k g a=>if_pos a;have A:∀k g,b<=k->c2.ρ k g=o.ρ k g:=fun k g a=>if_neg (by omega);have T:∀k g p,c.ρ k g=some p->c2.ρ k g=some p:=fun k g p hp=>by grind
 have S:∀k g p,o.ρ k g=some p->c2.ρ k g=some p:=fun k g p hp=>by grind
 have E2:Evo c w c2 I:=⟨E.os,E.tape,E.output,E.size,E.shape,fun k a _=>l k a,T,fun k a=>E.frz k a,fun k a=>(m k a).elim .inl fun h=>.inr (.inr h),fun k a=>a.elim .inl fun h=>.inr (i k h),rfl⟩;have X2:Ext o I c2 I:=⟨S,fun _ h=>h,fun k _ _ h=>h,fun k C e fr h=>⟨C,fr,h,rfl⟩⟩;refine⟨cv,c2,rfl,E2,?_,Zcl X2 _ _ V⟩;refine⟨fun k a g=>?_,fun k x a g G=>?_,fun k x a=>?_,?_,fun k B d=>?_,fun k B=>H'.inF k B,fun k d=>d.elim (fun h=>ZaU (H.inO k h) E.size) (H'.inO k)⟩
 ·rw[J k]at a;split at a;·rename_i h1;rw[y k g h1];exact H.fresh k a g
  rename_i h1;rw[A k g (by omega)];exact H'.fresh k a g
 ·rw[J k]at a;split at a;·rename_i h1;rw[y k g h1];exact H.later k x a g G
  rename_i h1;rw[A k g (by omega)];exact H'.later k x a g G
 ·rw[J k]at a;split at a;·refine Zcn (E2.ext H.disj) (fun r base s hp=>?_) (H.blk k x a);have d:=H.owned ⟨x,a,rfl,s⟩ hp;exact⟨.inl d,l r (H.inO _ d)⟩
  refine Zcn X2 (fun r base s hp=>?_) (H'.blk k x a);have d:=H'.owned ⟨x,a,rfl,s⟩ hp;grind
 ·intro b1 g1 b2 g2 r t z l1 l2 p1 p2;have key:∀k g base,Live (setL L h) k g->c2.ρ k g=some (.loc r base)->(k<b/\Live h k g/\c.ρ k g=some (.loc r base)/\r<w.heap.size)\/(b<=k/\Live (hp L) k g/\o.ρ k g=some (.loc r base)/\w.heap.size<=r):=by
   rintro k g base⟨x,a,rfl,s⟩hp;rw[J k]at a;split at a;·rename_i h1;rw[y k _ h1]at hp;exact .inl ⟨h1,⟨x,a,rfl,s⟩,hp,H.inO _ (H.owned ⟨x,a,rfl,s⟩ hp)⟩
   rename_i h1;rw[A k _ (by omega)]at hp;exact .inr ⟨by omega,⟨x,a,rfl,s⟩,hp,i _ (H'.owned ⟨x,a,rfl,s⟩ hp)⟩
  rcases key b1 g1 t l1 p1 with⟨k1,k2,k3,k4⟩|⟨k1,k2,k3,k4⟩<;>rcases key b2 g2 z l2 p2 with⟨j1,N,U,j4⟩|⟨j1,N,U,j4⟩;·exact H.inj _ _ _ _ _ _ _ k2 N k3 U
  ·omega
  ·omega
  exact H'.inj _ _ _ _ _ _ _ k2 N k3 U
 rcases d with d|d
 ·rcases m k B with h1|h1;·exact H.disj k h1 d
  have:=H.inO k d;omega
 exact H'.disj k B d
theorem HSpec.Qb0{f:Nat}{sf:SFn}{args:List AV}{v:AV}{L:HL}(n:Nat)(c:okFn P f sf=true)(h:Nat.ble args.length sf.n=true)(hw:wS P ⟨sf.n,0⟩ sf.body [] n (argT 0 args) .e fun e T k _=>(e=.normal\/e=.ret)/\∃vs,resV T k sf.res=some vs/\Rec 0 [(0,v)] L [(0,resOf vs)] k):HSpec P f args .e v (hp L):=by refine HSpec.of_W2 (m:=0) c (Zas h) (fun b _=>get_e) ((Zcs hw).mono ?_);rintro e B⟨l,h1,vs,i,m,ho,a,d,g⟩;exact⟨h1,vs,_,i,Rec.maps ho d,Rec.heap ho d,Rec.dom ho a,g 0⟩
end Go.AM
namespace Go.AM
theorem wV:type_of%@words/\type_of%@wordsN/\type_of%@wordsR/\type_of%@Qjb/\type_of%@QhR/\type_of%@Qe5/\type_of%@QhS/\type_of%@QhT/\type_of%@QhU/\type_of%@Qi8/\type_of%@Qi9/\type_of%@Qja/\type_of%@QkM/\type_of%@QmA/\type_of%@SX.exit.injEq/\type_of%@if_true.{1}/\type_of%@if_false.{1}/\type_of%@ne_eq.{1}:=⟨@words,@wordsN,@wordsR,@Qjb,@QhR,@Qe5,@QhS,@QhT,@QhU,@Qi8,@Qi9,@Qja,@QkM,@QmA,@SX.exit.injEq,@if_true,@if_false,@ne_eq⟩
theorem gg{p:Prop}(h:p:=by first|(simp(disch:=omega)only[QaA,QaG,QaS];done)|(simp(disch:=omega)only[QaA,QaG,QaS];rfl)):p:=h
end Go.AM
namespace Go.AM
variable{P:Program}
def mapF(k:IntKind)(f:Nat->AV)(l:List Nat):List (AV×AV):=l.map fun x:Nat=>(.int k (x:Int),f x)
def updF(f:Nat->AV)(x:Nat)(v:AV):Nat->AV:=fun y=>if y=x then v else f y
theorem QgL{k:IntKind}{x y:Nat}:keyEq false [.i] (.int k (x:Int)) (.int k (y:Int))=some (decide (x=y)):=by
 by_cases e:x=y;·grind[keyEq,eqCells,eqCell]
 have :¬(x:Int)=y:=by omega
 grind[keyEq,eqCells,eqCell]
theorem QfN{k:IntKind}{f:Nat->AV}{x:Nat}:∀(l:List Nat)(i:Nat),x∈l->aFind false [.i] (.int k (x:Int)) (mapF k f l) i=some (some (i+l.findIdx (·==x),f x))
 |[],_,h=>by cases h|y::l,i,b=>by
  show(match keyEq false [.i] (.int k (x:Int)) (.int k (y:Int))with|some true=>_|some false=>_|none=>_)=_;rw[QgL,List.findIdx_cons];by_cases e:x=y;·subst e;simp
  have a:(y==x)=false:=by grind
  rw[decide_eq_false e,a];show aFind false [.i] (.int k (x:Int)) (mapF k f l) (i+1)=_;rw[QfN l (i+1) ((Zau.1 b).resolve_left e)];grind
theorem QeT{k:IntKind}{f:Nat->AV}{x:Nat}:∀(l:List Nat)(i:Nat),x∉l->aFind false [.i] (.int k (x:Int)) (mapF k f l) i=some none|[],_,_=>rfl|y::l,i,a=>by simp only[Zau,not_or]at a;show(match keyEq false [.i] (.int k (x:Int)) (.int k (y:Int))with|some true=>_|some false=>_|none=>_)=_;rw[QgL,decide_eq_false a.1];exact QeT l (i+1) a.2
theorem QmC{k:IntKind}{f:Nat->AV}{x:Nat}{v:AV}:∀(l:List Nat),l.Nodup->x∈l->(mapF k f l).set (l.findIdx (·==x)) (.int k (x:Int),v)=mapF k (updF f x v) l
 |[],_,h=>by cases h|y::l,a,c=>by
  rw[Zci]at a;rw[List.findIdx_cons];by_cases e:y=x
  ·subst e;have:mapF k f l=mapF k (updF f y v) l:=Za8 fun z d=>by grind[updF]
   grind[mapF,updF]
  have b:(y==x)=false:=by simpa using e
  rw[b];simp only[cond_false];show(.int k (y:Int),f y)::(mapF k f l).set (l.findIdx (·==x)) (.int k (x:Int),v)=(.int k (y:Int),updF f x v y)::mapF k (updF f x v) l;rw[QmC l a.2 ((Zau.1 c).resolve_left fun h=>e h.symm)];simp[updF,e]
theorem Qsa{k:IntKind}{f:Nat->AV}{x:Nat}{v:AV}{l:List Nat}(a:x∉l):mapF k f l++[(.int k (x:Int),v)]=mapF k (updF f x v) (l++[x]):=by grind[mapF,updF,Za8]
theorem RnM.mapF{m:Nat}{π:Nat->Option Src}{h:Heap}{k:IntKind}{f g:Nat->AV}:∀{l:List Nat},(∀x∈l,Rn m π h (f x) (g x))->RnM m π h (mapF k f l) (mapF k g l)|[],_=>trivial|x::l,hf=>⟨⟨Zcq rfl,hf x (by simp)⟩,RnM.mapF (l:=l) fun y a=>hf y (by simp[a])⟩
section
variable{N:NM}{n:Nat}{d:Option Nat}{af dead:List Nat}{r:List SOper}{T:Tmps}{h:Heap}{Q:QC}{fs:List Fr}
def lkV(ok:Bool)(z:AV):Option (Nat×AV)->AV|some (_,v)=>if ok then .tup [v,.bool true]else v|none=>if ok then .tup [z,.bool false]else z
def wK(P:Program)(N:NM)(o:Option Blk)(g:Nat)(k z:AV)(ok:Bool)(d:Option Nat)(ops:List SOper)(dead:List Nat)(fs:List Fr)(n:Nat)(T:Tmps)(h:Heap)(Q:QC):Prop:=∃es q,o=some (.map g es)/\aFind false [.i] k es 0=some q/\wR P N ops dead fs (n+1) (putD T d (lkV ok z q)) h Q
theorem QdI{k:IntKind}{x:Int}{b g:Nat}{z:AV}{ok:Bool}(hu:wK P N (h.get b) g (.int k x) z ok d r dead fs n T h Q):wM P N (aLookup false [.i] z ok (.map b g) (.int k x)) d r dead fs n T h Q:=by
 obtain⟨es,q,i,hf,c⟩:=hu;refine⟨_,_,?_,c⟩;have a:keyOK false [.i] (.int k x)=true:=by simp[keyOK,keyEq,eqCells,eqCell]
 have f:Nat.beq g g=true:=by simp
 grind[aLookup,HM.entries,HM.run,lkV]
abbrev fmapF(k:IntKind)(f:Nat->AV)(l:List Nat):AV:=.fmap (l.map fun x:Nat=>.int k (x:Int)) (l.map f)
theorem QmD{k:IntKind}{f:Nat->AV}(l:List Nat):(l.map fun x:Nat=>AV.int k (x:Int)).zip (l.map f)=mapF k f l:=by induction l with|nil=>rfl|cons x l a=>simp only[ZaJ,List.zip_cons_cons,a];rfl
theorem QnO{k:IntKind}{f:Nat->AV}{x:Nat}{l:List Nat}{z:AV}{ok:Bool}(a:x∈l)(b:wR P N r dead fs (n+1) (putD T d (if ok then .tup [f x,.bool true]else f x)) h Q):wM P N (aLookup false [.i] z ok (fmapF k f l) (.int k (x:Int))) d r dead fs n T h Q:=by
 refine⟨_,h,?_,b⟩;have e:keyOK false [.i] (AV.int k (x:Int))=true:=by simp[keyOK,keyEq,eqCells,eqCell]
 unfold aLookup;rw[if_pos e];simp only[fmapF];rw[QmD,QfN l 0 a];rfl
theorem QmE{k:IntKind}{f:Nat->AV}{x:Nat}{l:List Nat}{z:AV}{ok:Bool}(hx:x∉l)(hk:wR P N r dead fs (n+1) (putD T d (if ok then .tup [z,.bool false]else z)) h Q):wM P N (aLookup false [.i] z ok (fmapF k f l) (.int k (x:Int))) d r dead fs n T h Q:=by
 refine⟨_,h,?_,hk⟩;have e:keyOK false [.i] (AV.int k (x:Int))=true:=by simp[keyOK,keyEq,eqCells,eqCell]
 unfold aLookup;rw[if_pos e];simp only[fmapF];rw[QmD,QeT l 0 hx];rfl
theorem FrzTo.mapF{k:IntKind}{f g:Nat->AV}{b gg:Nat}{l:List Nat}(a:h.get b=some (.map gg (Go.AM.mapF k f l)))(c:∀x∈l,FrzTo h (f x) (g x)):FrzTo h (.map b gg) (fmapF k g l):=by
 refine FrzTo.map a ?_ ?_
 ·have :(Go.AM.mapF k f l).map (·.1)=l.map fun x:Nat=>AV.int k (x:Int):=by simp[Go.AM.mapF]
  simp_all[Zcw]
 have :(Go.AM.mapF k f l).map (·.2)=l.map f:=by simp[Go.AM.mapF]
 rw[this];clear a this;induction l with|nil=>trivial|cons x l d=>exact⟨c x (by simp),d fun y i=>c y (by simp[i])⟩
theorem wK_in{k:IntKind}{f:Nat->AV}{x g:Nat}{l:List Nat}{z:AV}{ok:Bool}(a:x∈l)(b:wR P N r dead fs (n+1) (putD T d (if ok then .tup [f x,.bool true]else f x)) h Q):wK P N (some (.map g (mapF k f l))) g (.int k (x:Int)) z ok d r dead fs n T h Q:=⟨_,_,rfl,QfN l 0 a,b⟩
theorem QqC{k:IntKind}{f:Nat->AV}{x g:Nat}{l:List Nat}{z:AV}{ok:Bool}(a:x∉l)(b:wR P N r dead fs (n+1) (putD T d (if ok then .tup [z,.bool false]else z)) h Q):wK P N (some (.map g (mapF k f l))) g (.int k (x:Int)) z ok d r dead fs n T h Q:=⟨_,_,rfl,QeT l 0 a,b⟩
def wUF(P:Program)(N:NM)(o:Option Blk)(b g:Nat)(k v:AV)(d:Option Nat)(ops:List SOper)(dead:List Nat)(fs:List Fr)(n:Nat)(T:Tmps)(h:Heap)(Q:QC):Prop:=∃es q,o=some (.map g es)/\aFind false [.i] k es 0=some q/\b<lim/\wR P N ops dead fs (n+1) (putD T d .any) (h.set b (.map g (match q with|some (i,_)=>es.set i (k,v)|none=>es++[(k,v)]))) Q
theorem QbJ{k:IntKind}{x:Int}{b g:Nat}{v:AV}(hu:wUF P N (h.get b) b g (.int k x) v d r dead fs n T h Q):wM P N (aMapUpd false [.i] (.map b g) (.int k x) v) d r dead fs n T h Q:=by
 obtain⟨es,q,m,hf,i,f⟩:=hu;refine⟨_,_,?_,f⟩;have a:keyOK false [.i] (.int k x)=true:=by simp[keyOK,keyEq,eqCells,eqCell]
 have c:Nat.blt b lim=true:=by simp_all
 have l:Nat.beq g g=true:=by simp
 grind[aMapUpd,HM.entries,HM.run]
theorem Qup{k:IntKind}{f:Nat->AV}{x b g:Nat}{l:List Nat}{v:AV}(m:l.Nodup)(c:x∈l)(i:b<1099511627775)(o:wR P N r dead fs (n+1) (putD T d .any) (h.set b (.map g (mapF k (updF f x v) l))) Q):wUF P N (some (.map g (mapF k f l))) b g (.int k (x:Int)) v d r dead fs n T h Q:=by have a:b<lim:=i;refine⟨_,_,rfl,QfN l 0 c,a,?_⟩;simp_all[QmC]
theorem QcH{k:IntKind}{f:Nat->AV}{x b g:Nat}{l:List Nat}{v:AV}(c:x∉l)(i:b<1099511627775)(m:wR P N r dead fs (n+1) (putD T d .any) (h.set b (.map g (mapF k (updF f x v) (l++[x])))) Q):wUF P N (some (.map g (mapF k f l))) b g (.int k (x:Int)) v d r dead fs n T h Q:=by have a:b<lim:=i;refine⟨_,_,rfl,QeT l 0 c,a,?_⟩;simp_all[Qsa]
end
end Go.AM
theorem _root_.Go.AM.ZcP:type_of%@Go.AM.RnM.mapF:=@Go.AM.RnM.mapF
namespace Go.AM
theorem QmF{b:Bool}:(AV.bool b).cells=[.bool b]:=rfl
theorem QqD{b:Bool}:(AV.bool b).one=true:=rfl
theorem QqE{b:Bool}:(AV.bool b).boxable=true:=rfl
theorem QmG{b g o:Nat}:aNil (.ptr b g o)=some (.ptr b g o):=rfl
theorem QkN{cs:List AV}:aNil (.fptr cs)=some (.fptr cs):=rfl
end Go.AM
namespace Go.AM.SD
open Go.AM
def ints(l:List Int):List AV:=l.map (.int .i64)
abbrev sli(l:List Int):AV:=.fsl (ints l) l.length 1
theorem Qad(l:List Int):noRefs (ints l)=true:=by induction l with|nil=>rfl|cons x l a=>simp only[ints,ZaJ,noRefs,noRef,Zai];exact a
theorem QcO{l:List Int}:(ints l).length=l.length:=by simp[ints]
theorem lenW:type_of%@List.length_map.{0,0}/\type_of%@List.length_append.{0}/\type_of%@List.length_cons.{0}/\type_of%@List.length_nil.{0}/\type_of%@QcO:=⟨@List.length_map.{0,0},@List.length_append.{0},@List.length_cons.{0},@List.length_nil.{0},@QcO⟩
theorem QaV{l:List Int}{i:Nat}{x:Int}(h:l[i]?=some x):((ints l).drop i).head?=some (.int .i64 x):=by rw[Zb7];simp[ints,h]
abbrev nz(l:List Nat):List Int:=l.map fun x:Nat=>(x:Int)
theorem nz_at{l:List Nat}{i x:Nat}(h:l[i]?=some x):(nz l)[i]?=some (x:Int):=by simp[nz,h]
theorem Qap{α:Type}{l:List α}{i:Nat}(h:i<l.length):∃x,l[i]?=some x:=⟨l[i],Zal h⟩
theorem Qag{a b:List AV}:noRefs (a++b)=(noRefs a&&noRefs b):=by induction a with|nil=>simp[noRefs]|cons x a c=>simp only[Za0,noRefs,c,Bool.and_assoc]
theorem Qa1{α:Type}{f:α->List AV}(h:∀x,noRefs (f x)=true)(l:List α):noRefs (l.flatMap f)=true:=by induction l with|nil=>rfl|cons x l a=>rw[Zay,Qag,h,a];rfl
theorem Qa9{α:Type}{f:α->List AV}{k:Nat}(h:∀x,(f x).length=k)(l:List α):(l.flatMap f).length=l.length*k:=by induction l with|nil=>simp|cons x l a=>rw[Zay,Zaf,h,a,ZaF,Zbo];omega
theorem Qa7{α:Type}{f:α->List AV}{k:Nat}(h:∀x,(f x).length=k):∀{l:List α}{i:Nat}{x:α},l[i]?=some x->(l.flatMap f).drop (i*k)=f x++(l.drop (i+1)).flatMap f
 |[],_,_,a=>by simp at a|y::l,0,x,a=>by simp at a;subst a;simp|y::l,i+1,x,a=>by
  simp at a;rw[Zay,List.drop_append,h,List.drop_of_length_le (by rw[h,Zbo];omega),ZaX];have:(i+1)*k-k=i*k:=by rw[Zbo];omega
  rw[this,Qa7 h a,Zbs]
structure Eg where
 fr:Int
 ev:Int
 to:Int deriving DecidableEq
def egC(e:Eg):List AV:=[.int .i64 e.fr,.int .i64 e.ev,.int .i64 e.to]
abbrev egs(l:List Eg):AV:=.fsl (l.flatMap egC) l.length 3
theorem Qaj(l:List Eg):noRefs (l.flatMap egC)=true:=Qa1 (fun x=>rfl) l
theorem Qar(l:List Eg):noRef (egs l)=true:=by simp only[noRef];exact Qaj l
theorem Qdt{l:List Eg}{i:Nat}{e:Eg}(h:l[i]?=some e):(l.flatMap egC).drop (i*3)=.int .i64 e.fr::.int .i64 e.ev::.int .i64 e.to::(l.drop (i+1)).flatMap egC:=Qa7 (f:=egC) (k:=3) (fun _=>rfl) h
theorem Qan(l:List Int):noRef (sli l)=true:=by simp only[noRef];exact Qad l
structure Au where
 al:List Int
 n:Int
 ms:List Int
 es:List Eg
abbrev auV(a:Au):AV:=.agg [sli a.al,.int .i64 a.n,sli a.ms,egs a.es]
def eg(e:Ed):Eg:=⟨e.1,e.2.1,e.2.2⟩
def au(a:Aut):Au:=⟨nz a.al,a.n,nz a.ms,a.es.map eg⟩
def rmC(r:Rm):List AV:=[.int .i64 r.st,.int .i64 r.rank,.int .i64 r.reason,.int .i64 r.ev]
abbrev rms(l:List Rm):AV:=.fsl (l.flatMap rmC) l.length 4
theorem Qak(l:List Rm):noRefs (l.flatMap rmC)=true:=Qa1 (fun x=>rfl) l
theorem Qsb{l:List Rm}{i:Nat}{r:Rm}(h:l[i]?=some r):(l.flatMap rmC).drop (i*4)=.int .i64 r.st::.int .i64 r.rank::.int .i64 r.reason::.int .i64 r.ev::(l.drop (i+1)).flatMap rmC:=Qa7 (f:=rmC) (k:=4) (fun _=>rfl) h
end Go.AM.SD
namespace Go.AM.SD
def edC(e:Ed):List AV:=[.int .i64 (e.1:Int),.int .i64 (e.2.1:Int),.int .i64 (e.2.2:Int)]
abbrev egsN(l:List Ed):AV:=.fsl (l.flatMap edC) l.length 3
theorem Qaf(l:List Ed):noRefs (l.flatMap edC)=true:=Qa1 (fun x=>rfl) l
theorem Qai(l:List Ed):noRef (egsN l)=true:=by simp only[noRef];exact Qaf l
theorem QaJ{l:List Ed}{i:Nat}{e:Ed}(h:l[i]?=some e):(l.flatMap edC).drop (i*3)=.int .i64 (e.1:Int)::.int .i64 (e.2.1:Int)::.int .i64 (e.2.2:Int)::(l.drop (i+1)).flatMap edC:=Qa7 (f:=edC) (k:=3) (fun _=>rfl) h
theorem Qth(l:List Ed):egs (l.map eg)=egsN l:=by unfold egs egsN;rw[Zaz,List.flatMap_map];rfl
abbrev sliN(l:List Nat):AV:=.fsl (ints (nz l)) l.length 1
theorem Qbn(l:List Nat):sli (nz l)=sliN l:=by unfold sli sliN;rw[Zaz]
theorem Qae(l:List Nat):noRef (sliN l)=true:=by simp only[noRef];exact Qad _
theorem Qaz{l:List Nat}{i x:Nat}(h:l[i]?=some x):((ints (nz l)).drop i).head?=some (.int .i64 (x:Int)):=QaV (nz_at h)
abbrev aV(a:Aut):AV:=.agg [sliN a.al,.int .i64 (a.n:Int),sliN a.ms,egsN a.es]
theorem Quq(a:Aut):auV (au a)=aV a:=by show AV.agg [sli (nz a.al),.int .i64 (a.n:Int),sli (nz a.ms),egs (a.es.map eg)]=_;rw[Qbn,Qbn,Qth]
theorem Qdu(a:Aut):noRef (aV a)=true:=by rw[aV,noRef,noRefs,noRefs,noRefs,noRefs,Qae,Qae,Qai];rfl
def bls(l:List Bool):List AV:=l.map .bool
theorem Qah(l:List Bool):noRefs (bls l)=true:=by induction l with|nil=>rfl|cons x l a=>simp only[bls,ZaJ,noRefs,noRef,Zai];exact a
theorem QjM{l:List Bool}:(bls l).length=l.length:=by simp[bls]
theorem QjN{l:List Bool}{i:Nat}{b:Bool}:(bls l).set i (.bool b)=bls (l.set i b):=by simp[bls,List.map_set]
theorem Qa0{l:List Bool}{i:Nat}(h:i<l.length):((bls l).drop i).head?=some (.bool (lf l i)):=by rw[Zb7];simp[bls,lf,h]
theorem QoD{l:List Bool}{i:Nat}(h:i<l.length):(bls l)[i]?=some (.bool (lf l i)):=by simp[bls,lf,h]
theorem Qay{a b:List Int}:ints (a++b)=ints a++ints b:=by simp[ints]
theorem QaF{a b:List Nat}:nz (a++b)=nz a++nz b:=by simp
theorem QdS{α:Type}{l:List α}{x:α}(h:x∈l):∃j:Nat,l[j]?=some x/\j<l.length:=by obtain⟨j,a⟩:=List.mem_iff_getElem?.1 h;exact⟨j,a,(Zag.1 a).1⟩
theorem Qfh{l:List Nat}{x:Nat}:decide ((x:Int)∈nz l)=l.contains x:=by
 have:(x:Int)∈nz l↔x∈l:=⟨fun h=>by
  obtain⟨y,b,e⟩:=Zan.1 h;have e:y=x:=by omega
  exact e▸b,fun h=>Zan.2 ⟨x,h,rfl⟩⟩;by_cases h:x∈l;·rw[decide_eq_true (this.2 h)];simp[h]
 rw[decide_eq_false fun a=>h (this.1 a)];simp[h]
end Go.AM.SD
namespace Go.AM
theorem QmH{s:List UInt8}:(AV.str s).cells=[.str s]:=rfl
theorem QqF{s:List UInt8}:(AV.str s).one=true:=rfl
theorem QqG{s:List UInt8}:(AV.str s).boxable=true:=rfl
theorem QkO{a b:List UInt8}:aBin .add (.str a) (.str b)=if a.length+b.length<=140737488355328 then some (.str (a++b))else none:=rfl
open SD
theorem wW:type_of%@QgK/\type_of%@wordsM/\type_of%@QmG/\type_of%@QkN/\type_of%@Int.one_mul/\type_of%@QjM/\type_of%@QcO/\type_of%@QmF/\type_of%@QqD/\type_of%@QqE/\type_of%@List.length_replicate.{0}/\type_of%@QmH/\type_of%@QqF/\type_of%@QqG/\type_of%@Ql4/\type_of%@Qqf/\type_of%@Qex/\type_of%@QkO:=⟨@QgK,@wordsM,@QmG,@QkN,@Int.one_mul,@QjM,@QcO,@QmF,@QqD,@QqE,@ZbT,@QmH,@QqF,@QqG,@Ql4,@Qqf,@Qex,@QkO⟩
end Go.AM
namespace Go.AM.SE
open Go.Proofs
set_option maxHeartbeats 4000000
noncomputable section
def cf:YA.Cf:={most:=.pure,always:=[41,227,228,229,231,232,174,270,271,272,297,298,299,300,301,302,303,304,294].map fun k=>(k,.heap),value:=.pure,eqn:=false}
def s36:SFn:=by
 refine(?f:YA.Yt Tryz.prog cf 36 [[4],[6,7,8,9],[0,1,10],[4,10,11],[],[14,15],[5,16,17,18,19,20,21,22,23],[0,1,12,13,24],[4,24,25],[0,1,12,13]]) ?s ?h;case h=>exact YA.rr
 exact fun s _=>s
def s112:SFn:=by
 refine(?f:YA.Yt Tryz.prog cf 112 [[0,1,4],[2,3,5,6,7,8,9,10,11,12,13,14,15,16,17,18,19,20,21,22,23,24,25,26,27,28,29,30]]) ?s ?h;case h=>exact YA.rr
 exact fun s _=>s
def s39:SFn:=by
 refine(?f:YA.Yt Tryz.prog cf 39 [[4],[0,1,5,6,7,8]]) ?s ?h;case h=>exact YA.rr
 exact fun s _=>s
def s41:SFn:=by
 refine(?f:YA.Yt Tryz.prog cf 41 [[2],[3],[0,4],[0,4,5,6,7]]) ?s ?h;case h=>exact YA.rr
 exact fun s _=>s
def s295:SFn:=by
 refine(?f:YA.Yt Tryz.prog cf 295 [[0,6],[],[8,9,10,11],[12,15,16,17,18,19,20,21,22,23],[1,2,3,7,31,29,30,28,27,25,26,24,32,33,34,35,36,37,38],[6,32,13,14],[1,2,3,7,31,29,30,28,27,25,26,24]]) ?s ?h;case h=>exact YA.rr
 exact fun s _=>s
def s160:SFn:=by
 refine(?f:YA.Yt Tryz.prog cf 160 [[0],[2,4,19,20,21,22],[],[1],[],[26,27,28],[12,29,30,31,32,33,34,35,36,37],[38],[39],[23,24,25],[42,43,44,45],[46,47],[48],[],[52,53,54],[16,55,56,57,58,59,60,61],[62],[14,49,50,51,63,64,65,66,67,68,69],[70,71],[40,41],[3,13,72,73,74,75],[76],[],[80,81,82,83],[84,85,86,87,88,89],[17,90,91,92,93,94,95,96,97,98],[18,99,100,101,102,103,104,105,106],[17,18,90,107],[9,77,78,79,109,110,108,111,112,113,114],[10,115]]) ?s ?h;case h=>exact YA.rr
 exact fun s _=>s
def s153:SFn:=by
 refine(?f:YA.Yt Tryz.prog cf 153 [[2],[],[],[5],[6,9,10,11,12],[13,14,15,16,17],[13,7,8],[0,3,4,18]]) ?s ?h;case h=>exact YA.rr
 exact fun s _=>s
def s48:SFn:=by
 refine(?f:YA.Yt Tryz.prog cf 48 [[4],[6,7,8,9],[0,1,10],[4,10,11],[],[14,15],[5,16,17,18,19,20,21,22,23],[0,1,12,13,24],[4,24,25],[0,1,12,13]]) ?s ?h;case h=>exact YA.rr
 exact fun s _=>s
def s90:SFn:=by
 refine(?f:YA.Yt Tryz.prog cf 90 [[4],[6],[],[9,10],[11,12,13,14,15],[0,1,7,8,5,16,17],[4,5,16,18],[0,1,7,8]]) ?s ?h;case h=>exact YA.rr
 exact fun s _=>s
def s91:SFn:=by
 refine(?f:YA.Yt Tryz.prog cf 91 [[0,2],[5,6,7],[8],[1,3,9,10],[2,3,9,12,13,14],[1,11],[11,16,17,18],[1,15],[2,15,19,20,21,22,23],[24],[1,4,25,26],[1,4,25,27,28]]) ?s ?h;case h=>exact YA.rr
 exact fun s _=>s
def s218:SFn:=by
 refine(?f:YA.Yt Tryz.prog cf 218 [[4,5],[10,11],[12],[13,14],[15,16,17,18,19,20,21],[22,23,24,25,26],[9,27,28,29],[9,27,30],[0,1,6,7,8,52,42,51,48,50,49,47,46,45,43,44,41,39,40,38,36,37,31,32,33,34,35,53]]) ?s ?h;case h=>exact YA.rr
 exact fun s _=>s
def s214:SFn:=by
 refine(?f:YA.Yt Tryz.prog cf 214 [[0],[12,13,14,15],[16,17],[1,3,18,19],[18,20,21,22],[23],[],[26,27],[5,28,29,30],[31],[24,25,32,33],[34],[],[35,36,37],[38,42,43,44,45,46,47,48,41,49,50,8],[9],[51,52,53,54,55,56,57],[51,58,59,60,61,62],[],[66,67,68],[69,70,71,72,73],[74,75,76,77,78,79,80],[81,82,83,84,85],[11,74,86,87,88,89,90,91,92,93,94,95,96,97,98,99],[100],[63,64,65,39,40],[1,4,6,7,101,102,103],[3,104]]) ?s ?h;case h=>exact YA.rr
 exact fun s _=>s
def s227:SFn:=by
 refine(?f:YA.Yt Tryz.prog cf 227 [[0,6],[2,13,14,15,16,17,18,19,20],[21,22,23,24],[],[27,28],[8,29,30,31,32,33,34],[35],[1,25,26],[],[39,40,41],[10,42,43,44,45,46,47],[48],[3,36,37,38,49],[],[53,54,55],[12,56,57,58,59,60,61,62,63,64,65,66,67,68,69,70,71,72],[73],[7,50,51,52,74]] [(16,[(2,4)]),(2,[(12,15),(3,16),(5,16)])]) ?s ?h;case h=>exact YA.rr
 exact fun s _=>s
def s228:SFn:=by
 refine(?f:YA.Yt Tryz.prog cf 228 [[6],[8,9,10],[2,11,12,13,14,15,16],[0,1,7,17,18],[0,1,7,17,19,20,21]]) ?s ?h;case h=>exact YA.rr
 exact fun s _=>s
def s231:SFn:=by
 refine(?f:YA.Yt Tryz.prog cf 231 [[2],[11,12,13,14,15,16],[17],[],[20,21],[4,22,23,24],[25],[18,19],[26,27,28,29],[],[33,34,35],[36,37,38,39,40,41],[42,43,44,45],[7,46,47,48,49],[7,42,50],[30,31,32],[51,52,53],[54,57,58,59,60,61,62,63,64],[],[68,69,70],[71,72,73,74,75,76,77,78],[84,85,86,87,88,89,90,91,92,93,94,95],[10,96,97,98,99],[10,84,100],[65,66,67,55,56],[0,3,83,82,81,79,80,5,8,101]]) ?s ?h;case h=>exact YA.rr
 exact fun s _=>s
def s232:SFn:=by
 refine(?f:YA.Yt Tryz.prog cf 232 [[3],[15,16,17,18,19,20,21],[22,23,24,25,26,27,28,29,30,31,32,33,34,35],[0,4,36,37],[3,36,38,39,40,41,42,43],[44,45,46,47],[],[51,52,53],[54,55,56,57,58,59,60],[7,61,62,63,64,65,66,67,68,69,70,71,72,73],[7,61,74],[48,49,50,75,76],[77],[],[78,79,80],[81,84,85,86,87,88,89],[],[93,94,95],[97,98,99,100,96,101,102],[14,103],[104,105,106],[107,108,109,110],[111,112,113,114,115],[12,13,104,116,117,118,119,120,121,122,123,124,125],[126],[90,91,92,127,128,129,130,131,132,133,134,135],[136,137,138,139,140,141,142],[136,82,83],[0,5,8,10,143,144,145],[4,9,146,147]] [(20,[(2,10)])]) ?s ?h;case h=>exact YA.rr
 exact fun s _=>s
def s225:SFn:=by
 refine(?f:YA.Yt Tryz.prog cf 225 [[1],[9,10],[0,3,11,12,13],[11,14,15],[16,17,18,19,20,21],[],[22,23,24],[25,28,29,30,31,32],[33,34,35,36,37,38,39],[33],[40,41,42,43,44],[47,50,51,52,53,54,55,56,57,58,59,60],[61,62,63],[8,64,65,66,67,68,69,70,71,72,73,74,75,76],[8,64,48,49],[7,26,27],[0,3,5,6,46,45,77,78]]) ?s ?h;case h=>exact YA.rr
 exact fun s _=>s
def s161:SFn:=by
 refine(?f:YA.Yt Tryz.prog cf 161 [[4],[],[],[10,11,12,13],[15,16,17,21],[0,1,7,8,9,32,26,31,30,27,29,28,20,18,19,5,6,14],[5,6,14,23,24,25,33],[0,1,7,8,9,32,26,31,30,27,29,28,20,18,19,22],[4,22,34],[0,1,7,8,9,32,26,31,30,27,29,28,20,18,19]]) ?s ?h;case h=>exact YA.rr
 exact fun s _=>s
def s162:SFn:=by
 refine(?f:YA.Yt Tryz.prog cf 162 [[0,2],[6],[],[10,11,12,13],[15,16,17,18,24,25,29,30,36],[1,7,8,9,69,63,68,65,67,66,64,62,59,61,60,58,35,32,34,33,31,28,27,26,23,20,22,21,19,4,3,14],[14,38,39,40,41,42,43],[1,7,8,9,69,63,68,65,67,66,64,62,59,61,60,58,35,32,34,33,31,28,27,26,23,20,22,21,19,4,3,37],[2,37,44],[3,45,46,47,48,49,50,51],[4,5,52,53,54,55,56,57],[1,7,8,9,69,63,68,65,67,66,64,62,59,61,60,58,35,32,34,33,31,28,27,26,23,20,22,21,19,70],[2,70,71],[1,7,8,9,69,63,68,65,67,66,64,62,59,61,60,58,35,32,34,33,31,28,27,26,23,20,22,21,19]]) ?s ?h;case h=>exact YA.rr
 exact fun s _=>s
def s171:SFn:=by
 refine(?f:YA.Yt Tryz.prog cf 171 [[4],[0,1,5,6,7,8,9,10,11,12,13,14,15,16]]) ?s ?h;case h=>exact YA.rr
 exact fun s _=>s
def s262:SFn:=by
 refine(?f:YA.Yt Tryz.prog cf 262 [[2],[0,3,4,5]]) ?s ?h;case h=>exact YA.rr
 exact fun s _=>s
def s205:SFn:=by
 refine(?f:YA.Yt Tryz.prog cf 205 [[0,4],[10,11,12,13,9,14,15,6],[1,17,18,19,20,21,16,22,23,8],[2,5,7,24,25,26,27,28]]) ?s ?h;case h=>exact YA.rr
 exact fun s _=>s
def s270:SFn:=by
 refine(?f:YA.Yt Tryz.prog cf 270 [[4],[],[9,10,11,12],[],[16,17,18],[19,20,21,22,23,24,25,26,27,28,37,38],[47,48,49],[8,50,51,52],[7,62,63,64,65,66,67,68,69,70,71],[72],[0,1,5,13,14,15,61,58,60,59,57,56,53,55,54,46,45,42,44,43,41,40,39,36,35,32,34,33,31,30,29,73]]) ?s ?h;case h=>exact YA.rr
 exact fun s _=>s
def s271:SFn:=by
 refine(?f:YA.Yt Tryz.prog cf 271 [[4],[],[8],[],[12,13,14,15],[7,16,17,18,19,20,21,22,23],[6,26,27,28,29,30,31,32],[6,26,33],[0,1,5,9,10,11,25,24,34]]) ?s ?h;case h=>exact YA.rr
 exact fun s _=>s
def s268:SFn:=by
 refine(?f:YA.Yt Tryz.prog cf 268 [[],[0,3,4,5,6]]) ?s ?h;case h=>exact YA.rr
 exact fun s _=>s
def s269:SFn:=by
 refine(?f:YA.Yt Tryz.prog cf 269 [[0],[8,9],[10,11,12],[13,14,15],[],[16,17,18],[19,22,23,24,25,26,27],[28,29,30,31,32,33,34],[28],[35,36,37,38],[39,42,43,44,45,46,47,48,49,50,51,52],[53],[7,54,55,56,57,58,59,60,61,62,63,64,65,66,67,68,69],[7,54,40,41],[6,20,21],[1,3,4,5,70]]) ?s ?h;case h=>exact YA.rr
 exact fun s _=>s
def s238:SFn:=by
 refine(?f:YA.Yt Tryz.prog cf 238 [[2],[0,3,4,5]]) ?s ?h;case h=>exact YA.rr
 exact fun s _=>s
def s255:SFn:=by
 refine(?f:YA.Yt Tryz.prog cf 255 [[6,7],[12,13],[14],[15,16],[17,18,19,20,21,22,23],[24,25,26,27,28,29,30],[11,31,32,33],[11,31,34],[0,1,2,8,9,10,47,46,40,44,45,43,41,42,35,36,37,38,39,48]]) ?s ?h;case h=>exact YA.rr
 exact fun s _=>s
def s256:SFn:=by
 refine(?f:YA.Yt Tryz.prog cf 256 [[0,4],[1,2,5,6,7,8]]) ?s ?h;case h=>exact YA.rr
 exact fun s _=>s
def s257:SFn:=by
 refine(?f:YA.Yt Tryz.prog cf 257 [[0,4],[1,2,5,6,7,8]]) ?s ?h;case h=>exact YA.rr
 exact fun s _=>s
def s293:SFn:=by
 refine(?f:YA.Yt Tryz.prog cf 293 [[0,2],[],[7,8],[9,10,11,12],[9],[13,14,15],[16],[19,20,21,22],[23,26,27,28,29,30,31,32,33,34,35,36],[37,38,39],[6,44,45,46,47,48],[6,44,24,25],[5,17,18],[1,3,4,43,42,40,41,49]]) ?s ?h;case h=>exact YA.rr
 exact fun s _=>s
def s294:SFn:=by
 refine(?f:YA.Yt Tryz.prog cf 294 [[4],[],[6,7,8],[9,12,13,14,15,16],[0,1,5,17],[4,17,10,11],[0,1,5]]) ?s ?h;case h=>exact YA.rr
 exact fun s _=>s
def s296:SFn:=by
 refine(?f:YA.Yt Tryz.prog cf 296 [[4],[],[6,7,8],[9,12,13,14,15,16],[0,1,5,17,18],[4,17,10,11],[0,1,5]]) ?s ?h;case h=>exact YA.rr
 exact fun s _=>s
theorem ok36:Kq 36 s36=true:=by kernel_rfl
theorem ok112:Kq 112 s112=true:=by kernel_rfl
theorem ok39:Kq 39 s39=true:=by kernel_rfl
theorem ok41:Kq 41 s41=true:=by kernel_rfl
theorem ok295:Kq 295 s295=true:=by kernel_rfl
theorem ok160:Kq 160 s160=true:=by kernel_rfl
theorem ok153:Kq 153 s153=true:=by kernel_rfl
theorem ok48:Kq 48 s48=true:=by kernel_rfl
theorem ok90:Kq 90 s90=true:=by kernel_rfl
theorem ok91:Kq 91 s91=true:=by kernel_rfl
theorem ok218:Kq 218 s218=true:=by kernel_rfl
theorem ok214:Kq 214 s214=true:=by kernel_rfl
theorem ok227:Kq 227 s227=true:=by kernel_rfl
theorem ok228:Kq 228 s228=true:=by kernel_rfl
theorem ok231:Kq 231 s231=true:=by kernel_rfl
theorem ok232:Kq 232 s232=true:=by kernel_rfl
theorem ok225:Kq 225 s225=true:=by kernel_rfl
theorem ok161:Kq 161 s161=true:=by kernel_rfl
theorem ok162:Kq 162 s162=true:=by kernel_rfl
theorem ok171:Kq 171 s171=true:=by kernel_rfl
theorem ok262:Kq 262 s262=true:=by kernel_rfl
theorem ok205:Kq 205 s205=true:=by kernel_rfl
theorem ok270:Kq 270 s270=true:=by kernel_rfl
theorem ok271:Kq 271 s271=true:=by kernel_rfl
theorem ok268:Kq 268 s268=true:=by kernel_rfl
theorem ok269:Kq 269 s269=true:=by kernel_rfl
theorem ok238:Kq 238 s238=true:=by kernel_rfl
theorem ok255:Kq 255 s255=true:=by kernel_rfl
theorem ok256:Kq 256 s256=true:=by kernel_rfl
theorem ok257:Kq 257 s257=true:=by kernel_rfl
theorem ok293:Kq 293 s293=true:=by kernel_rfl
theorem ok294:Kq 294 s294=true:=by kernel_rfl
theorem ok296:Kq 296 s296=true:=by kernel_rfl
end
end Go.AM.SE
namespace Go.AM.SE
open Go.Proofs Go.AM.SD
theorem _root_.Go.AM.Zc1{A B:Prop}(a:A)(b:B):A/\B:=⟨a,b⟩
theorem _root_.Go.AM.Zc2{A B C:Prop}(a:A)(b:B)(c:C):A/\B/\C:=⟨a,b,c⟩
theorem _root_.Go.AM.Zc3{A B C D:Prop}(a:A)(b:B)(c:C)(d:D):A/\B/\C/\D:=⟨a,b,c,d⟩
theorem _root_.Go.AM.Zc4{A B C D E:Prop}(a:A)(b:B)(c:C)(d:D)(e:E):A/\B/\C/\D/\E:=⟨a,b,c,d,e⟩
theorem _root_.Go.AM.Zc5{A B C D E F:Prop}(a:A)(b:B)(c:C)(d:D)(e:E)(f:F):A/\B/\C/\D/\E/\F:=⟨a,b,c,d,e,f⟩
theorem _root_.Go.AM.Zc6{A B C D E F G:Prop}(a:A)(b:B)(c:C)(d:D)(e:E)(f:F)(g:G):A/\B/\C/\D/\E/\F/\G:=⟨a,b,c,d,e,f,g⟩
theorem _root_.Go.AM.Zc7{A B C D E F G H:Prop}(a:A)(b:B)(c:C)(d:D)(e:E)(f:F)(g:G)(h:H):A/\B/\C/\D/\E/\F/\G/\H:=⟨a,b,c,d,e,f,g,h⟩
theorem _root_.Go.AM.Zc8{A B C D E F G H I:Prop}(a:A)(b:B)(c:C)(d:D)(e:E)(f:F)(g:G)(h:H)(i:I):A/\B/\C/\D/\E/\F/\G/\H/\I:=⟨a,b,c,d,e,f,g,h,i⟩
theorem _root_.Go.AM.Zc9{A B C D E F G H I J:Prop}(a:A)(b:B)(c:C)(d:D)(e:E)(f:F)(g:G)(h:H)(i:I)(j:J):A/\B/\C/\D/\E/\F/\G/\H/\I/\J:=⟨a,b,c,d,e,f,g,h,i,j⟩
theorem _root_.Go.AM.Zdb{A B C D E F G H I J K L:Prop}(a:A)(b:B)(c:C)(d:D)(e:E)(f:F)(g:G)(h:H)(i:I)(j:J)(k:K)(l:L):A/\B/\C/\D/\E/\F/\G/\H/\I/\J/\K/\L:=⟨a,b,c,d,e,f,g,h,i,j,k,l⟩
theorem _root_.Go.AM.Zdc{A B C D E F G H I J K L M:Prop}(a:A)(b:B)(c:C)(d:D)(e:E)(f:F)(g:G)(h:H)(i:I)(j:J)(k:K)(l:L)(m:M):A/\B/\C/\D/\E/\F/\G/\H/\I/\J/\K/\L/\M:=⟨a,b,c,d,e,f,g,h,i,j,k,l,m⟩
theorem _root_.Go.AM.Zdd{A B C D E F G H I J K L M N:Prop}(a:A)(b:B)(c:C)(d:D)(e:E)(f:F)(g:G)(h:H)(i:I)(j:J)(k:K)(l:L)(m:M)(n:N):A/\B/\C/\D/\E/\F/\G/\H/\I/\J/\K/\L/\M/\N:=⟨a,b,c,d,e,f,g,h,i,j,k,l,m,n⟩
theorem _root_.Go.AM.ZcR{p q:Prop}(k:q)(h:p=q:=by conv=>lhs;simp(disch:=first|omega|exact PairsOK.mk rfl|(simp only[lenW]<;>omega))only[wV,simprocAttr]):p:=h▸k
theorem _root_.Go.AM.ZcS{p q A:Prop}(a:A)(k:q)(h:A->p=q:=by intro a;conv=>lhs;simp(disch:=first|omega|exact PairsOK.mk rfl|(simp only[lenW]<;>omega))only[a,wV,simprocAttr]):p:=h a▸k
theorem PSpec.weak{P:Program}{f:Nat}{args bs:List AV}{v:AV}(k:∀(ok:Okc)(c:Ctx ok)(w:World)(vs:List Value),HRel c .e w->VRels c w args vs->VRels c w bs vs)(d:noRefs args=true)(hp:PSpec P f bs v):PSpec P f args v:=by obtain⟨l,b,g,hc,i⟩:=hp;exact⟨d,b,g,hc,fun c w a H h=>i c w a H (k _ c w _ H h)⟩
theorem _root_.Go.AM.au0{p:Prop}(h:p:=by repeat(first|exact Zcx|exact RO.e|refine RO.set rfl ?_)):p:=h
theorem _root_.Go.AM.au1{p:Prop}(h:p:=by repeat'(first|exact ZcA|(refine Zcr ?_;first|rfl|(simp only[noRef,noRefs,Qag,Zad,Zac,Zai,Qad,Qaj,Qaf,Qak,Qah,Qan,Qae,Qar,Qai];done))|exact ZcM rfl|exact ZcG|exact(True.intro:RnM _ _ _ [] [])|refine ZcH ?_ ?_|(refine Zcq ?_;first|rfl|(simp only[noRef,noRefs,Qag,Zad,Zac,Zai,Qad,Qaj,Qaf,Qak,Qah,Qan,Qae,Qar,Qai];done))|exact Rn.x1 rfl rfl|exact Rn.x2 rfl rfl|exact Rn.x3 rfl rfl|exact Rn.x4 rfl rfl|exact Rn.x5 rfl|exact Rn.x6 rfl|exact Rn.x7 rfl|refine ZcC rfl rfl ?_|refine ZcB rfl rfl rfl ?_ ?_|refine ZcD rfl rfl rfl ?_ ?_|refine ZcE rfl rfl ?_ ?_|refine ZcF rfl rfl ?_ ?_)):p:=h
theorem _root_.Go.AM.au2{p:Prop}(h:p:=by repeat(first|exact Zcy|(refine Zcz ?_ ?_;·(first|exact Rn.any|exact Rn.x1 rfl rfl|exact Rn.x2 rfl rfl|exact Rn.x3 rfl rfl|exact Rn.x4 rfl rfl|exact Rn.x5 rfl|exact Rn.x6 rfl|exact Rn.x7 rfl|(refine Rn.slot ?_ ?_;(first|rfl|(rw[ZaS];rfl));(first|rfl|(simp only[noRef,noRefs,Qag,Zad,Zac,Zai,Qad,Qaj,Qaf,Qak,Qah,Qan,Qae,Qar,Qai];done)))|(refine Rn.fn ?_ ?_<;>(repeat'(first|exact ZcG|refine ZcH ?_ ?_|exact Zcq rfl|exact Rn.x6 rfl|exact Rn.x2 rfl rfl|exact Rn.x5 rfl|exact Rn.x1 rfl rfl))))))):p:=h
theorem has36(l:List Int)(n:Int)(m:l.length<=140737488355328):Pq 294 [sli l,.int .i64 n] (.bool (decide (n∈l))):=by
 refine Zcu 64 ok294 rfl (by(try simp only[noRefs,Qad,Qaj,Qaf,Qak,Qah,noRef,Zad,Zac])<;>rfl) rfl ?_;unfold s294;refine ZcR ?_;refine QaL 100 (fun i:Nat=>[(0,sli l),(1,.int .i64 n),(5,.int .i64 i)]) (fun _=>[]) (fun i=>i<=l.length/\∀(j:Nat)y,j<i->l[j]?=some y->y≠n) (fun i=>l.length-i) 0 ⟨[],rfl,au0,au1,au2⟩ ⟨Zah _,fun j y c=>absurd c (ZaC _)⟩ ?_;rintro i⟨hi,g⟩;by_cases a:i<l.length
 ·obtain⟨x,d⟩:=Qap a;by_cases b:x=n;·refine ZcS (Zc2 a (QaV d) b) ?_;refine⟨.inr trivial,_,rfl,?_⟩;have:n∈l:=b▸Zae d;simp[resOf,QaW,this]
  refine ZcS (Zc2 a (QaV d) b) ?_;refine⟨i+1,by omega,⟨by omega,fun j y c f=>?_⟩,⟨[],rfl,au0,au1,au2⟩⟩;by_cases e:j=i;·subst e;rw[d]at f;cases f;exact b
  exact g j y (by omega) f
 have :n∉l:=fun h=>by obtain⟨j,c,k⟩:=QdS h;exact g j n (by omega) c rfl
 refine ZcS a ?_;exact⟨.inr trivial,_,rfl,by simp[resOf,QaW,this]⟩
def indexR(l:List Int)(n:Int):Int:=if n∈l then(l.findIdx (·==n):Int)else-1
theorem index70(l:List Int)(n:Int)(o:l.length<=140737488355328):Pq 90 [sli l,.int .i64 n] (.int .i64 (indexR l n)):=by
 refine Zcu 64 ok90 rfl (by(try simp only[noRefs,Qad,Qaj,Qaf,Qak,Qah,noRef,Zad,Zac])<;>rfl) rfl ?_;unfold s90;refine ZcR ?_;refine QaL 100 (fun i:Nat=>[(0,sli l),(1,.int .i64 n),(7,.int .i64 l.length),(8,.int .i64 i)]) (fun _=>[]) (fun i=>i<=l.length/\∀(j:Nat)y,j<i->l[j]?=some y->y≠n) (fun i=>l.length-i) 0 ⟨[],rfl,au0,au1,au2⟩ ⟨Zah _,fun j y d=>absurd d (ZaC _)⟩ ?_;rintro i⟨hi,f⟩;by_cases a:i<l.length
 ·obtain⟨x,c⟩:=Qap a;by_cases b:n=x
  ·refine ZcS (Zc2 a (QaV c) b) ?_;refine⟨.inr trivial,_,rfl,?_⟩;have h1:n∈l:=b▸Zae c;have k:l.findIdx (·==n)=i:=by rw[List.findIdx_eq a];refine⟨by rw[Zal a]at c;cases c;simp[b],fun j d=>?_⟩;have:=f j l[j] d (Zal (by omega));simpa using this
   subst b;simp only[indexR,if_pos h1,k];rfl
  refine ZcS (Zc2 a (QaV c) b) ?_;refine⟨i+1,by omega,⟨by omega,fun j y d g=>?_⟩,⟨[],rfl,au0,au1,au2⟩⟩;by_cases e:j=i;·subst e;rw[c]at g;cases g;exact fun e=>b e.symm
  exact f j y (by omega) g
 have :n∉l:=fun h=>by obtain⟨j,d,m⟩:=QdS h;exact f j n (by omega) d rfl
 refine ZcS a ?_;exact⟨.inr trivial,_,rfl,by simp only[indexR,if_neg this];rfl⟩
theorem contains62(l:List Int)(n:Int)(c:l.length<=140737488355328):Pq 39 [sli l,.int .i64 n] (.bool (decide (n∈l))):=by
 refine Zcu 64 ok39 rfl (by(try simp only[noRefs,Qad,Qaj,Qaf,Qak,Qah,noRef,Zad,Zac])<;>rfl) rfl ?_;unfold s39;refine ZcR ?_;refine cp (index70 l n c) ?_;have e:decide (0<=indexR l n)=decide (n∈l):=by
  unfold indexR;by_cases h:n∈l;·rw[if_pos h];simp[h]
  rw[if_neg h];simp[h]
 by_cases h:n∈l
 ·have a:0<=indexR l n:=by rw[decide_eq_decide]at e;exact e.2 h
  refine ZcS a ?_;exact⟨.inr trivial,_,rfl,by simp[resOf,QaW,h]⟩
 have a:¬0<=indexR l n:=by rw[decide_eq_decide]at e;exact fun b=>h (e.1 b)
 refine ZcS a ?_;exact⟨.inr trivial,_,rfl,by simp[resOf,QaW,h]⟩
theorem QcW{k:IntKind}{a i:Nat}(hi:i<=k.bits):aBin .shr (.int k (a:Int)) (.int .i64 (i:Int))=some (.int k ((a/2^i:Nat):Int)):=by
 have h1:¬(i:Int)<0:=by omega
 simp only[aBin,if_neg h1];have b:min (i:Int).toNat k.bits=i:=by simp;omega
 rw[b];have:(2:Int)^i=((2^i:Nat):Int):=by norm_cast
 rw[this,Int.fdiv_eq_ediv_of_nonneg _ (Zbp _)];norm_cast
theorem and1(n a:Nat)(d:0<n):(BitVec.ofInt n (a:Int)&&&BitVec.ofInt n 1).toNat=a%2:=by
 rw[BitVec.toNat_and,BitVec.toNat_ofInt,BitVec.toNat_ofInt];have h1:((a:Int)%((2^n:Nat):Int)).toNat=a%2^n:=by norm_cast
 have b:((1:Int)%((2^n:Nat):Int)).toNat=1:=by
  have:1%2^n=1:=Nat.mod_eq_of_lt (Nat.one_lt_two_pow (by omega));have c:((1:Int)%((2^n:Nat):Int))=((1%2^n:Nat):Int):=by norm_cast
  rw[c,this];rfl
 rw[h1,b,Nat.and_one_is_mod,Nat.mod_mod_of_dvd _ ⟨2^(n-1),by rw[<-Nat.pow_succ'];congr 1;omega⟩]
theorem QcX{a:Nat}:aBin .and (.int .u8 (a:Int)) (.int .u8 1)=some (.int .u8 ((a%2:Nat):Int)):=by simp only[aBin,if_true];rw[show IntKind.u8.bits=8 from rfl,and1 8 a (by omega),wr_u8 (by omega) (by omega)]
theorem Qeh{s i:Nat}:(((s/2^i%2:Nat):Int)=1)↔s.testBit i=true:=by rw[Nat.testBit_eq_decide_div_mod_eq,decide_eq_true_eq];omega
theorem QdT{n b i:Nat}:SD.part (i+1) b=SD.part i b++if b.testBit i=true then[i]else[]:=by unfold SD.part;rw[ZaO,Zbi];congr 1;by_cases h:b.testBit i=true<;>simp[h]
theorem Qdv{i b:Nat}:(SD.part i b).length<=i:=by unfold SD.part;exact Zaw (ZaI _ _) (by simp)
theorem events16(s:Nat)(hs:s<256):Pq 153 [.int .u8 s] (sliN (SD.part 5 s)):=by
 refine Zct 64 ok153 rfl (by(try simp only[noRefs,Qad,Qaj,Qaf,Qak,Qah,noRef,Zad,Zac])<;>rfl) (Qae _) ?_;unfold s153;refine ZcR ?_;refine QaL 100 (fun i:Nat=>[(0,.int .u8 s),(3,.sl 50 0 0 (SD.part i s).length 1),(4,.int .i64 i)]) (fun i=>[(50,.cells 0 (ints (nz (SD.part i s))))]) (fun i=>i<=5) (fun i=>5-i) 0 ⟨[(50,.nil)],rfl,au0,au1,au2⟩ (Zah _) ?_;rintro i hi;have hpl:=@Qdv i s;by_cases hlt:i<5
 ·have hlt2:(i:Int)<5:=by omega
  by_cases h0:s.testBit i=true;·have hb:=Qeh.2 h0;have hp:=QdT (n:=5) (b:=s) (i:=i);rw[if_pos h0]at hp;simp(disch:=first|omega|(simp only[lenW]<;>omega))only[hlt2,QcW (k:=.u8) (show i<=8 by omega),QcX,hb,wV,simprocAttr];refine⟨i+1,by omega,by omega,?_⟩;rw[hp,QaF,Qay,Zaf];exact⟨[(50,.blk 50 1)],rfl,au0,au1,au2⟩
  ·have hb:¬((s/2^i%2:Nat):Int)=1:=fun e=>h0 (Qeh.1 e);have hp:=QdT (n:=5) (b:=s) (i:=i);rw[if_neg h0,Zap]at hp;simp(disch:=first|omega|(simp only[lenW]<;>omega))only[hlt2,QcW (k:=.u8) (show i<=8 by omega),QcX,hb,wV,simprocAttr];refine⟨i+1,by omega,by omega,?_⟩;rw[hp];exact⟨[(50,.blk 50 0)],rfl,au0,au1,au2⟩
 ·have hlt2:¬(i:Int)<5:=by omega
  have e:i=5:=by omega
  subst e;refine ZcS hlt2 ?_;refine⟨.inr trivial,_,rfl,?_⟩;exact Rn.fz0 rfl (by simp[ints]) (Zcr (Qad _))
def SetOk(l:List Int)(n:Int):Prop:=(∀x∈l,0<=x/\x<n)/\l.Pairwise (·<·)
theorem SetOk.up{l:List Int}{n:Int}(h:SetOk l n){i:Nat}{x y:Int}(b:l[i]?=some x)(c:l[i+1]?=some y):x<y:=by obtain⟨h1,f⟩:=Zag.1 b;obtain⟨a,d⟩:=Zag.1 c;have:=Zbe.1 h.2 i (i+1) h1 a (by omega);rw[f,d]at this;exact this
theorem SetOk.nz{l:List Nat}{n:Nat}(h1:∀x∈l,x<n)(b:l.Pairwise (·<·)):SetOk (nz l) n:=by
 refine⟨fun x c=>?_,?_⟩;·obtain⟨a,d,rfl⟩:=Zan.1 c;have:=h1 a d;omega
 rw[ZbB];exact b.imp fun h=>by omega
theorem set49(l:List Int)(n:Int)(q:l.length<=140737488355328)(h:SetOk l n):Pq 161 [sli l,.int .i64 n] (.int .i64 0):=by
 refine Zcu 64 ok161 rfl (by(try simp only[noRefs,Qad,Qaj,Qaf,Qak,Qah,noRef,Zad,Zac])<;>rfl) rfl ?_;unfold s161;refine ZcR ?_;refine QaL 100 (fun i:Nat=>[(0,sli l),(1,.int .i64 n),(7,sli l),(8,.int .i64 l.length),(9,.int .i64 i)]) (fun _=>[]) (fun i=>i<=l.length) (fun i=>l.length-i) 0 ⟨[],rfl,au0,au1,au2⟩ (Zah _) ?_;rintro i hi;by_cases a:i<l.length
 ·obtain⟨x,d⟩:=Qap a;obtain⟨h1,s⟩:=h.1 x (Zae d);have c:¬x<0:=by omega
  have b:¬n<=x:=by omega
  by_cases p:i=0
  ·have f:¬(0:Int)<(i:Int):=by omega
   refine ZcS (Zc4 a (QaV d) c b f) ?_;exact⟨i+1,by omega,by omega,⟨[],rfl,au0,au1,au2⟩⟩
  obtain⟨y,k⟩:=Qap (l:=l) (i:=i-1) (by omega);have r:=h.up k (by rw[show i-1+1=i by omega];exact d);have g:¬x<=y:=by omega
  have f:(0:Int)<(i:Int):=by omega
  have o:(i:Int)-1=((i-1:Nat):Int):=by omega
  have m:((i-1:Nat):Int)<l.length:=by omega
  refine ZcS (Zc8 a (QaV d) c b f o m (QaV k) g) ?_;exact⟨i+1,by omega,by omega,⟨[],rfl,au0,au1,au2⟩⟩
 refine ZcS a ?_;exact⟨.inr trivial,_,rfl,rfl⟩
structure EgsOk(a:Au):Prop where
 len:a.es.length<=140737488355328
 all:a.al.length<=140737488355328
 fr:∀e∈a.es,0<=e.fr/\e.fr<a.n
 to:∀e∈a.es,0<=e.to/\e.to<a.n
 ev:∀e∈a.es,e.ev∈a.al
 up:a.es.Pairwise fun x y=>x.fr<y.fr\/(x.fr=y.fr/\x.ev<y.ev)
theorem EgsOk.step{a:Au}(h:EgsOk a){i:Nat}{x y:Eg}(c:a.es[i]?=some x)(d:a.es[i+1]?=some y):x.fr<y.fr\/(x.fr=y.fr/\x.ev<y.ev):=by obtain⟨h1,g⟩:=Zag.1 c;obtain⟨b,f⟩:=Zag.1 d;have:=Zbe.1 h.up i (i+1) h1 b (by omega);rw[g,f]at this;exact this
theorem edges50(a:Au)(h:EgsOk a):Pq 162 [auV a] (.int .i64 0):=by
 refine Zcu 64 ok162 rfl (by(try simp only[noRefs,Qad,Qaj,Qaf,Qak,Qah,noRef,Zad,Zac])<;>rfl) rfl ?_;have z:=h.len;unfold s162;refine ZcR ?_;refine QaL 100 (fun i:Nat=>[(1,.ptr 50 0 0),(7,egs a.es),(8,.int .i64 a.es.length),(9,.int .i64 i)]) (fun _=>[(50,.cells 0 [sli a.al,.int .i64 a.n,sli a.ms,egs a.es])]) (fun i=>i<=a.es.length) (fun i=>a.es.length-i) 0 ⟨[(50,.blk 64 0)],rfl,au0,au1,au2⟩ (Zah _) ?_;rintro i hi;by_cases b:i<a.es.length
 ·obtain⟨x,c⟩:=Qap b;have hm:=Zae c;obtain⟨B,A⟩:=h.fr x hm;obtain⟨w,E⟩:=h.to x hm;have o:¬x.fr<0:=by omega
  have l:¬a.n<=x.fr:=by omega
  have q:¬x.to<0:=by omega
  have g:¬a.n<=x.to:=by omega
  have k:decide (x.ev∈a.al)=true:=decide_eq_true (h.ev x hm);refine ZcS (Zc5 b (Qdt c) o l q g) ?_;refine cp (contains62 a.al x.ev h.all) ?_;rw[k];by_cases C:i=0
  ·have d:(i:Int)=0:=by omega
   refine ZcS (Zc2 b (Qdt c) d) ?_;exact⟨1,by omega,by omega,⟨[(50,.blk 50 0)],rfl,au0,au1,au2⟩⟩
  obtain⟨y,m⟩:=Qap (l:=a.es) (i:=i-1) (by omega);have d:¬(i:Int)=0:=by omega
  have s:(i:Int)-1=((i-1:Nat):Int):=by omega
  have r:((i-1:Nat):Int)<a.es.length:=by omega
  rcases h.step m (by rw[show i-1+1=i by omega];exact c)with t|⟨t,v⟩
  ·have f:¬x.fr<y.fr:=by omega
   have p:¬x.fr=y.fr:=by omega
   refine ZcS (Zc7 b (Qdt c) d s r (Qdt m) f p) ?_;exact⟨i+1,by omega,by omega,⟨[(50,.blk 50 0)],rfl,au0,au1,au2⟩⟩
  have f:¬x.fr<y.fr:=by omega
  have p:x.fr=y.fr:=by omega
  have u:¬x.ev<=y.ev:=by omega
  refine ZcS (Zc8 b (Qdt c) d s r (Qdt m) f p u) ?_;exact⟨i+1,by omega,by omega,⟨[(50,.blk 50 0)],rfl,au0,au1,au2⟩⟩
 refine ZcS b ?_;exact⟨.inr trivial,_,rfl,rfl⟩
structure AuOk(a:Au):Prop extends EgsOk a where
 alS:SetOk a.al 32
 msS:SetOk a.ms a.n
 mslen:a.ms.length<=140737488355328
 n0:0<=a.n
 nm:a.n<=4096
theorem check37(a:Au)(h:AuOk a):Pq 91 [auV a] (.int .i64 0):=by
 refine Zcu 64 ok91 rfl (by(try simp only[noRefs,Qad,Qaj,Qaf,Qak,Qah,noRef,Zad,Zac])<;>rfl) rfl ?_;have h1:¬a.n<0:=by have:=h.n0;omega
 have b:¬4096<a.n:=by have:=h.nm;omega
 unfold s91;refine ZcR ?_;refine cp (set49 a.al 32 h.all h.alS) ?_;refine ZcS (Zc1 h1 b) ?_;refine cp (set49 a.ms a.n h.mslen h.msS) ?_;refine ZcR ?_;refine cp (edges50 a h.toEgsOk) ?_;refine ZcR ?_;exact⟨.inr trivial,_,rfl,rfl⟩
end Go.AM.SE
namespace Go.AM
variable{P:Program}
def rowsL(f:Nat->List AV)(ks:List Nat):HL:=ks.map fun k=>(300+k,.cells 0 (f k))
def psL(s:Nat->Src)(ks:List Nat):List (Nat×Src):=ks.map fun k=>(300+k,s k)
theorem Qcw{f:Nat->List AV}:∀{ks:List Nat},ks.Nodup->(∀k∈ks,k<1000000)->∀{k:Nat},k∈ks->(hp (rowsL f ks)).get (300+k)=some (.cells 0 (f k))
 |[],_,_,k,h=>by cases h|j::ks,b,a,k,h=>by
  have d:=a j (by simp);show((hp (rowsL f ks)).set (300+j) _).get (300+k)=_;by_cases e:k=j;·grind[QaA]
  rw[QaG (by omega) (by omega)];exact Qcw (Zci.1 b).2 (fun k c=>a k (by simp[c])) (by simp_all)
theorem QfO{f:Nat->List AV}:∀{ks:List Nat},(∀k∈ks,k<1000000)->∀{b:Nat},(∀k∈ks,b≠300+k)->(hp (rowsL f ks)).get b=none|[],_,b,_=>get_e|j::ks,c,b,h=>by have d:=c j (by simp);show((hp (rowsL f ks)).set (300+j) _).get b=_;rw[QaG (by omega) (h j (by simp))];exact QfO (fun k a=>c k (by simp[a])) (fun k a=>h k (by simp[a]))
theorem Qco{b g:Nat}{s:Nat->Src}:∀{ks:List Nat},(∀k∈ks,∀a c,s k=.blk a c->b≠a)->srcNew (.blk b g) (psL s ks)=true|[],_=>rfl|j::ks,h=>by show((match(Src.blk b g),s j with|.blk b _,.blk a _=>!Nat.beq b a|_,_=>true)&&srcNew (.blk b g) (psL s ks))=true;rw[Qco fun k d=>h k (by simp[d]),Zac];cases e:s j with|nil=>rfl|blk a c=>
 have:=h j (by simp) a c e;have f:Nat.beq b a=false:=by simp_all[ZaA]
 simp[f]
theorem QfP{s:Nat->Src}:∀{ks:List Nat},srcNew .nil (psL s ks)=true|[]=>rfl|j::ks=>by show((match Src.nil,s j with|.blk b _,.blk a _=>!Nat.beq b a|_,_=>true)&&srcNew .nil (psL s ks))=true;rw[QfP];rfl
theorem QdU{s:Nat->Src}{f:Nat->List AV}:∀{ks:List Nat},ks.Nodup->(∀k∈ks,k<1000000)->(∀k∈ks,∀j∈ks,k≠j->∀b g c d,s k=.blk b g->s j=.blk c d->b≠c)->okPs 0 (psL s ks) (rowsL f ks)=true
 |[],_,_,_=>rfl|j::ks,o,h,l=>by
  have q:=h j (by simp);obtain⟨h1,p⟩:=Zci.1 o;show okPs 0 ((300+j,s j)::psL s ks) ((300+j,.cells 0 (f j))::rowsL f ks)=true;simp only[okPs,Zaa,ZbO,ZbZ,Zbq,ZaH];refine⟨⟨⟨⟨trivial,by omega⟩,.inr ⟨?_,?_⟩⟩,?_⟩,QdU p (fun k a=>h k (by simp[a])) (fun k a i hi=>l k (by simp[a]) i (by simp[hi]))⟩;·cases s j with|nil=>rfl|blk b g=>simp
  ·cases e:s j with|nil=>exact QfP|blk b g=>exact Qco fun k a c d m=>l j (by simp) k (by simp[a]) (fun e=>h1 (e▸a)) b g c d e m
  rintro⟨b,x⟩hp;obtain⟨k,a,e⟩:=Zan.1 hp;cases e;have:k≠j:=fun e=>h1 (e▸a);simp_all[ZaA]
theorem Qir{s:Nat->Src}:∀{ks:List Nat}{k:Nat},k∈ks->lkS (psL s ks) (300+k)=some (s k)
 |[],k,h=>by cases h|j::ks,k,h=>by
  show(if 300+k=300+j then some (s j)else lkS (psL s ks) (300+k))=_;by_cases e:k=j;·subst e;simp
  rw[if_neg (by omega)];exact Qir (by simp_all)
theorem Qdw{m:Nat}{π:Nat->Option Src}{h:Heap}{f:Nat->List AV}:∀{ks:List Nat},(∀k∈ks,RB m π h [(300+k,.cells 0 (f k))])->RB m π h (rowsL f ks)|[],_=>trivial|j::ks,a=>⟨(a j (by simp)).1,Qdw fun k h=>a k (by simp[h])⟩
mutual theorem QhY:∀v:AV,flatV v=true->noRef v=true|.any,_=>rfl|.bool _,_=>rfl|.int _ _,_=>rfl|.str _,_=>rfl|.agg cs,h=>by simp only[flatV]at h;simp only[noRef];exact QbQ cs h|.tup cs,h=>by simp only[flatV]at h;simp only[noRef];exact QbQ cs h|.nilptr,_=>rfl|.ptr _ _ _,h=>by simp[flatV]at h|.fptr _,h=>by simp[flatV]at h|.nilsl,_=>rfl|.sl _ _ _ _ _,h=>by simp[flatV]at h|.fsl _ _ _,h=>by simp[flatV]at h|.esl,_=>rfl|.nsl,_=>rfl|.nilmap,_=>rfl|.map _ _,h=>by simp[flatV]at h|.fmap _ _,h=>by simp[flatV]at h|.nilfn,_=>rfl|.fn f x y,h=>by simp only[flatV,Zaa]at h;simp only[noRef,Zaa];exact⟨QbQ x h.1,QbQ y h.2⟩|.nilif,_=>rfl|.ifc t v,h=>by simp only[flatV]at h;simp only[noRef];exact QhY v h|.typed _ _ _,h=>by simp[flatV]at h theorem QbQ:∀l:List AV,flatVs l=true->noRefs l=true|[],_=>rfl|x::l,h=>by simp only[flatVs,Zaa]at h;simp only[noRefs,Zaa];exact⟨QhY x h.1,QbQ l h.2⟩end
theorem FSpec.Qb0{f b len sz:Nat}{args cs:List AV}(m:HSpec P f args .e (.sl b 0 0 len sz) (hp [(b,.cells 0 cs)]))(v:noRefs args=true)(hf:flatVs cs=true)(t:cs.length=len*sz)(q:Nat.blt b 1099511627775=true):FSpec P f args (.fsl cs len sz):=by
 obtain⟨hc,m⟩:=m;refine⟨hc,v,by simp_all[noRef,QbQ],fun F w d s c=>(m (only F) w d (HRel.only s) c).mono ?_⟩;rintro e u⟨r,o,rfl,E,H',V⟩;have i:∀k,o.O k->w.heap.size<=k:=fun k l=>(E.own k l).elim (fun h=>h.elim) id;refine⟨r,o.O,rfl,?_,fun k l=>⟨i k l,H'.inO k l⟩,RnO.sl (h:=hp [(b,.cells 0 cs)]) (by simp_all[hp,QaA]) hf t _ o u r H' V⟩;refine⟨E.os,E.tape,E.output,E.size,E.shape,fun k a _=>E.keep k a (fun h=>h),fun b g p q=>absurd q (ZaC _),fun k a=>.inl a,fun k a=>?_,fun k a=>a.elim,rfl⟩;rcases a with a|a;·exact .inl a
 simp_all
end Go.AM
namespace Go.AM
theorem Qe6{b g c k d:Nat}{a:List (Nat×Src)}(f:b≠k)(h:srcNew (.blk b g) a=true):srcNew (.blk b g) ((c,.blk k d)::a)=true:=by simp_all[ZaA,srcNew]
theorem QgM{b k g:Nat}{x:Blk}{a:List (Nat×Src)}{L:HL}(i:b<1099511627775)(d:srcNew (.blk k g) a=true)(c:∀p∈a,p.1≠b)(h:okPs 0 a L=true):okPs 0 ((b,.blk k g)::a) ((b,x)::L)=true:=by
 simp only[okPs,Zaa,ZbO,ZbZ,Zbq,ZaH];refine⟨⟨⟨⟨trivial,by omega⟩,.inr ⟨by simp,d⟩⟩,fun p hp=>?_⟩,h⟩;have f:Nat.beq p.1 b=false:=by rw[ZaA];simpa using c p hp
 simp[f]
theorem QeU{s:Nat->Src}{ks:List Nat}{p:Nat×Src}(h:p∈psL s ks):300<=p.1:=by obtain⟨k,_,rfl⟩:=Zan.1 h;simp
theorem QfQ{s:Nat->Src}{f:Nat->List AV}{ks:List Nat}{x1 x2 x3:Blk}{k1 k2 k3 o q r:Nat}(w:ks.Nodup)(u:∀k∈ks,k<1000000)(y:∀k∈ks,∀j∈ks,k≠j->∀b g c d,s k=.blk b g->s j=.blk c d->b≠c)(a:∀k∈ks,∀b g,s k=.blk b g->k1≠b/\k2≠b/\k3≠b)(m:k1≠k2)(l:k1≠k3)(i:k2≠k3):okPs 0 ((70,.blk k1 o)::(71,.blk k2 q)::(72,.blk k3 r)::psL s ks) ((70,x1)::(71,x2)::(72,x3)::rowsL f ks)=true:=by
 have x:=Qco (b:=k1) (g:=o) (s:=s) (ks:=ks) fun k h c d e=>(a k h c d e).1;have v:=Qco (b:=k2) (g:=q) (s:=s) (ks:=ks) fun k h c d e=>(a k h c d e).2.1;have t:=Qco (b:=k3) (g:=r) (s:=s) (ks:=ks) fun k h c d e=>(a k h c d e).2.2;refine QgM (by omega) (Qe6 m (Qe6 l x)) ?_ (QgM (by omega) (Qe6 i v) ?_ (QgM (by omega) t ?_ (QdU w u y)))
 ·intro p hp;simp only[Zau]at hp;rcases hp with rfl|rfl|hp;·simp
  ·simp
  grind[QeU]
 ·intro p hp;simp only[Zau]at hp;rcases hp with rfl|hp;·simp
  grind[QeU]
 intro p hp;grind[QeU]
theorem Qb1{s:Nat->Src}{ks:List Nat}{k:Nat}{q1 q2 b:Src}(a:k∈ks):ow 0 ((70,q1)::(71,q2)::(72,b)::psL s ks) (300+k)=some (s k):=by unfold ow;rw[if_neg (ZaC _)];simp only[lkS];rw[if_neg (by omega),if_neg (by omega),if_neg (by omega)];exact Qir a
end Go.AM
namespace Go.AM
variable{P:Program}
abbrev Claims:=List (Nat×List Nat)
def clm:Claims->Nat->Option (List Nat)|[],_=>none|(j,a)::r,d=>bif Nat.beq j d then some a else clm r d
def absH(C:Claims)(d:Nat)(a:Option (List Nat)):Option (List Nat):=match clm C d with|some b=>some b|none=>a
def touch2(i:Nat)(ax:Opd->Option (List Nat)):SOp->Option (List Nat)|.call .pure _ _=>some []|s=>s.touch i ax
theorem QgN{i:Nat}{T:Tmps}{ax:Opd->Option (List Nat)}{s:SOper}{h h1:Heap}{v:AV}{f:FP}{g:List Nat}(d:∀x bs,ax x=some bs->Pts (ev T x) bs)(o:touch2 i ax s.op=some g)(l:StepV P i s T h v h1 f):f.all=false/\∀b,b∈f.R\/b∈f.W->b∈g:=by
 by_cases hc:∃x a,s.op=.call .pure x a
 ·obtain⟨x,a,c⟩:=hc;have key:StepX P i s.op T h v h1 f->f.all=false/\∀b,b∈f.R\/b∈f.W->b∈g:=by rintro⟨out,q,hm,ho⟩;rw[c]at hm ho;simp only[aop]at hm ho;cases k:ev T x with|fn p first cap=>rw[k]at hm ho;simp only[aCall,HM.run,Zab,Zaj]at hm;obtain⟨rfl,rfl⟩:=hm;simp only[aCall,HM.fp]at ho;obtain⟨_,_,rfl⟩:=ho;exact⟨rfl,fun b m=>by simp[fpOf]at m⟩|_=>rw[k]at hm;simp[aCall,HM.run]at hm
  unfold StepV at l;grind
 refine QhW d ?_ l;simp_all[touch2]
def touchesH(C:Claims)(n:Nat)(T:Tmps):List SOper->Abs->List (Option (List Nat))|[],_=>[]|s::r,A=>touch2 n (absO T A) s.op::touchesH C (n+1) T r (match s.dst with|some d=>(d,absH C d (s.op.absV n (absO T A)))::A|none=>A)
def ssa(C:Claims):List SOper->Bool|[]=>true|s::r=>(match s.dst with|some d=>(clm C d).isNone||r.all fun a=>(match a.dst with|some e=>!Nat.beq e d|none=>true)|none=>true)&&ssa C r
theorem QoE:∀{r:List SOper}{n:Nat}{T:Tmps}{h:Heap}{K:Tmps->Heap->Nat->Prop},wpR P n r T h K->∃T' h' n',K T' h' n'/\∀d,(∀s∈r,s.dst≠some d)->lk T' d=lk T d|[],n,T,h,K,a=>⟨T,h,n,a,fun _ _=>rfl⟩|s::r,n,T,h,K,⟨v,h1,f,g,b⟩=>by obtain⟨T',h',n',a,he⟩:=QoE b;refine⟨T',h',n',a,fun d c=>?_⟩;simp_all[QbC]
theorem QmI{T0:Tmps}{C:Claims}:∀{r:List SOper}{n:Nat}{A:Abs}{T:Tmps}{h:Heap}{K:Tmps->Heap->Nat->Prop}(hA:AbsOK T0 A T)(K':List FP->Tmps->Heap->Nat->Prop)(k:∀T h n,K T h n->∀d bs,clm C d=some bs->Pts (lk T d) bs)(a:ssa C r=true),(∀fs T h n',fs.length=r.length->(∀(j:Nat)g,(touchesH C n T0 r A).getD j none=some g->(fs.getD j ⟨false,[],[]⟩).all=false/\∀b,b∈(fs.getD j ⟨false,[],[]⟩).R\/b∈(fs.getD j ⟨false,[],[]⟩).W->b∈g)->K T h n'->K' fs T h n')->wpR P n r T h K->wpRF P n r T h K'
 |[],n,A,T,h,K,hA,K',k,a,o,hw=>o [] T h n rfl (fun j g i=>by simp_all) hw|s::r,n,A,T,h,K,hA,K',k,a,o,hw=>by
  obtain⟨v,h1,f,t,w⟩:=hw;simp only[ssa,Zaa]at a;obtain⟨c,m⟩:=a;refine⟨v,h1,f,t,?_⟩;have q:AbsOK T0 (match s.dst with|some d=>(d,absH C d (s.op.absV n (absO T0 A)))::A|none=>A) (putD T s.dst v):=by cases e:s.dst with|none=>exact hA|some d=>
   refine AbsOK.up hA fun bs l=>?_;unfold absH at l;split at l
   ·rename_i y hc;cases l;obtain⟨T',B,n',p,he⟩:=QoE w;have x:=k T' B n' p d _ hc;rw[he d ?_,QbC,if_pos e]at x;·exact x
    intro E u;rw[e]at c;simp only[hc,Option.isNone_some,Bool.false_or,ZaH]at c;have:=c E u;intro G;simp_all
   exact QfM hA.opd l t
  refine QmI q (fun fs T h n=>K' (f::fs) T h n) k m (fun fs T h n' z hf p=>?_) w;refine o (f::fs) T h n' (by simp[z]) (fun j g i=>?_) p;cases j with|zero=>simp only[touchesH,List.getD_cons_zero]at i⊢;exact QgN hA.opd i t|succ j=>simp only[touchesH,List.getD_cons_succ]at i⊢;exact hf j g i
def Clms(T:Tmps):Claims->Prop|[]=>True|(d,a)::r=>Pts (lk T d) a/\Clms T r
theorem Clms.get{T:Tmps}:∀{C:Claims},Clms T C->∀d bs,clm C d=some bs->Pts (lk T d) bs
 |[],_,d,bs,h=>by cases h|(j,cs)::r,a,d,bs,h=>by
  simp only[clm]at h
  cases e:Nat.beq j d with|true=>
   rw[e]at h;simp only[cond_true,Zab]at h;have:j=d:=by simpa using e
   subst this;subst h;exact a.1|false=>rw[e]at h;exact Clms.get a.2 d bs h
theorem Qbr(C:Claims){N:NM}{ops:List SOper}{p:Nat×Nat}{i:List (Nat×Nat)}{dead:List Nat}{fs:List Fr}{n:Nat}{T:Tmps}{h:Heap}{Q:QC}(c:ssa C ops=true)(hp:pairsOK (touchesH C n T ops []) (p::i)=true)(hw:wR P N ops [] [] n T h fun e T h n=>Clms T C/\wX P N .normal fs n (rm T dead) h Q):wS P N (.region ops (p::i) dead) fs n T h Q:=by
 have rm0:∀T:Tmps,rm T []=T:=by intro T;induction T with|nil=>rfl|cons p T k=>obtain⟨j,v⟩:=p;simp[rm,k]
 refine QmI (C:=C) (K:=fun T h n=>Clms T C/\wX P N .normal fs n (rm T dead) h Q) AbsOK.nil _ (fun T h n f d t hc=>f.1.get d t hc) c (fun r T h z B hf f=>⟨?_,f.2⟩) ?_
 ·rw[ZaH];intro q m;have:=ZaH.1 hp q m;split at this
  ·rename_i a b s l;obtain⟨w,E⟩:=hf _ _ s;obtain⟨u,I⟩:=hf _ _ l;have A:∀x y,x∈a->y∈b->x≠y:=by grind
   have H:∀xs g:List Nat,(∀x∈xs,∀y∈g,x≠y)->disj xs g=true:=by intro xs g G;unfold disj;grind
   grind[FP.apart]
  cases this
 have o:wpR P n ops T h fun T h n=>Clms (rm T []) C/\wX P N .normal fs n (rm (rm T []) dead) h Q:=hw;simp_all
end Go.AM
namespace Go.AM
variable{P:Program}{N:NM}{n:Nat}{d:Option Nat}{af dead:List Nat}{r:List SOper}{T:Tmps}{h:Heap}{Q:QC}{fs:List Fr}
def wAn(P:Program)(N:NM)(ys:Option (List AV))(len sz bytes:Nat)(d:Option Nat)(ops:List SOper)(dead:List Nat)(fs:List Fr)(n:Nat)(T:Tmps)(h:Heap)(Q:QC):Prop:=∃y,ys=some y/\(len*bytes<=140737488355328/\len<=140737488355328)/\y.all AV.one=true/\wN P N y (.sl n 0 0 len sz) d ops dead fs n T h Q
theorem QgO{sz bytes b g off len:Nat}(a:0<len):wM P N (aAppend .dyn n sz bytes .nilsl (.sl b g off len sz)) d r dead fs n T h Q=wAn P N (srcB (h.get b) g off len sz) len sz bytes d r dead fs n T h Q:=by obtain⟨k,rfl⟩:∃k,len=k+1:=⟨len-1,by omega⟩;rw[QnN];rfl
theorem QmJ{ys:List AV}{len sz bytes:Nat}(h1:len*bytes<=140737488355328)(c:len<=140737488355328):wAn P N (some ys) len sz bytes d r dead fs n T h Q=if ys.all AV.one=true then wN P N ys (.sl n 0 0 len sz) d r dead fs n T h Q else False:=by
 by_cases ho:ys.all AV.one=true
 ·rw[if_pos ho];apply propext;constructor;·rintro⟨y,b,_,_,a⟩;simp_all
  intro a;exact⟨ys,rfl,⟨h1,c⟩,ho,a⟩
 rw[if_neg ho];apply propext;constructor;·rintro⟨y,b,_,f,a⟩;grind
 simp_all
end Go.AM
namespace Go.AM
theorem QkP{a:List (Option (List Nat))}:pairsOK a []=true:=rfl
theorem Qd3{ts:List (Option (List Nat))}{i j:Nat}{a b:List Nat}{ps:List (Nat×Nat)}(h1:ts.getD i none=some a)(h2:ts.getD j none=some b)(hd:∀x∈a,x∉b)(hr:pairsOK ts ps=true):pairsOK ts ((i,j)::ps)=true:=by simp_all[pairsOK]
theorem Rn.nilK{m:Nat}{π:Nat->Option Src}{h:Heap}{sz:Nat}:Rn m π h (.fsl [] 0 sz) .nilsl:=fun _ c w v H M a=>by simp_all[VRel]
end Go.AM
