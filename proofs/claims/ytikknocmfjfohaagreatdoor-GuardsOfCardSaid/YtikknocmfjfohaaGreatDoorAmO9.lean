/- A part of the proof of GuardsOfCardSaid: lemmas on the way (AmU, AmUa, AmQa, AmQb, AmQd, AmQw, AmQe, AmTa, AmTb, AmTc, AmTd, AmTe, AmTw, AmTf, AnDj, AmR, AmLr). Conditions: none of ours. -/
import Derived.OpenShut
import Derived.Test.YtikknocmfjfohaaGreatDoorAmO8
theorem Go.AM.bIzzM{p:Prop}(h:p:=by
 simp only[aAppend,aSrc,if_true,slLen,QcE,QcS,QeE];apply propext;constructor;·rintro⟨c,o,f,k,i⟩;rw[f,QbZ,if_pos ⟨rfl,k⟩];exact⟨_,_,rfl,rfl,⟨c.1,c.2.1⟩,c.2.2,i⟩
 rintro⟨p,q,l,m,c,k,i⟩;cases l;unfold srcB at m;grind):p:=h
theorem Go.AM.bm92B{p:Prop}(h:p:=by
 rename_i s z;cases s<;>simp only[SOp.touch,SOp.cls,show Nat.beq 2 0=false from rfl,cond_false,reduceCtorEq,Zaa]at h;subst h;refine⟨QbU ?_,fun _ _ _=>by simp⟩;unfold aBox;split;·exact new1
 trivial):p:=h
theorem Go.AM.bZ6zp{p:Prop}(h:p:=by
 rename_i s z;cases s<;>simp only[SOp.absV,reduceCtorEq,Zaa]at d;subst d;refine n rfl ?_;unfold aBox;split;·exact QcF (self rfl)
 trivial):p:=h
set_option linter.unusedSectionVars false
set_option maxHeartbeats 32000000
set_option maxRecDepth 100000
set_option linter.unusedVariables false
set_option linter.unusedSimpArgs false
namespace Go.AM
variable{ok:Okc}
open Go.ChangeShapes Go.WideShapes
def inF(w:World)(k:Nat):Prop:=k<w.heap.size
end Go.AM
namespace Go.AM
open Go.ChangeShapes Go.WideShapes
variable{v:AV}{x:Blk}{h:Heap}{k:IntKind}{a:List (Nat×Nat×AV)}{cs vs y z:List AV}{c l:List MemPlace}{b n off:Nat}{q:Nat->Bool}{w:Nat->Nat->AV}{P:Program}{H:Type}{t:TypeId}
inductive Ty where|int(k:IntKind)|bool|str|arr(n:Nat)(t:Ty)|sl(t:Ty)|st(fs:Ty)|unit|pair(a b:Ty)
def Ty.sz:Ty->Nat|.int _|.bool|.str|.sl _=>1|.arr n t=>n*t.sz|.st fs=>fs.sz|.unit=>0|.pair a b=>a.sz+b.sz
abbrev Ty.D:Ty->Type|.int _=>Int|.bool=>Bool|.str=>List UInt8|.arr _ t|.sl t=>List t.D|.st fs=>fs.D|.unit=>Unit|.pair a b=>a.D×b.D
def Ty.cells:(t:Ty)->t.D->List AV|.int k,n=>[.int k n]|.bool,b=>[.bool b]|.str,s=>[.str s]|.arr _ t,l=>List.flatMap (Ty.cells t) l|.sl t,l=>[.fsl (List.flatMap (Ty.cells t) l) (List.length l) t.sz]|.st fs,d=>Ty.cells fs d|.unit,_=>[]|.pair a b,d=>Ty.cells a d.1++Ty.cells b d.2
def Ty.wf:(t:Ty)->t.D->Prop|.int k,n=>(Lit.int k n).wf=true|.bool,_=>True|.str,s=>List.length s<=9223372036854775807|.arr n t,l=>List.length l=n/\∀x∈(show List t.D from l),Ty.wf t x|.sl t,l=>List.length l<=9223372036854775807/\∀x∈(show List t.D from l),Ty.wf t x|.st fs,d=>Ty.wf fs d|.unit,_=>True|.pair a b,d=>Ty.wf a d.1/\Ty.wf b d.2
def eltT(P:Program)(a:List TypeId):List TypeId:=match a with|t::_=>(match P.underlying t with|some (.slice e)=>[e]|some (.array _ e)=>[e]|_=>[])|[]=>[]
def fldT(P:Program)(a:List TypeId):List TypeId:=match a with|t::_=>(match P.underlying t with|some (.struct l)=>l.toList.map (·.type)|_=>[])|[]=>[]
def Ty.sized(P:Program):(t:Ty)->List TypeId->t.D->Prop|.arr _ t,c,l=>∀x∈(show List t.D from l),Ty.sized P t (eltT P c) x|.sl t,c,l=>(∀e∈eltT P c,List.length l*P.bytesOf e<=reachBytes)/\∀x∈(show List t.D from l),Ty.sized P t (eltT P c) x|.st fs,c,d=>Ty.sized P fs (fldT P c) d|.pair a b,c,d=>Ty.sized P a (c.take 1) d.1/\Ty.sized P b c.tail d.2|_,_,_=>True
theorem QdE{e}:∀{l:List (DataW H)}{d:DataW H},d∈l->(DataW.weightsAll P e l).all q=true->(d.weights P e).all q=true
 |x::l,d,a,h=>by
  simp only[DataW.weightsAll,ZbS,Zab]at h;rcases Zax.1 a with rfl|a;·exact h.1
  exact QdE a h.2
mutual def okTy(P:Program):Ty->TypeId->Bool
 |.int k,t=>match P.underlying t with|some (.int k')=>k'==k|_=>false
 |.bool,t=>match P.underlying t with|some .bool=>true|_=>false
 |.str,t=>match P.underlying t with|some .string=>true|_=>false
 |.arr n e,t=>match P.underlying t with|some (.array m u)=>n==m&&okTy P e u&&P.cellsOf u==e.sz&&P.cellsOf t==n*e.sz|_=>false
 |.sl e,t=>match P.underlying t with|some (.slice u)=>okTy P e u&&P.cellsOf u==e.sz&&Nat.blt 0 e.sz|_=>false
 |.st fs,t=>match P.underlying t with|some (.struct l)=>okFs P fs l.toList 0&&P.cellsOf t==fs.sz|_=>false
 |_,_=>false termination_by structural ty=>ty def okFs(P:Program):Ty->List Field->Nat->Bool
 |.unit,l,_=>match l with|[]=>true|_=>false
 |.pair a b,l,off=>match l with|f::l=>f.offset==off&&okTy P a f.type&&P.cellsOf f.type==a.sz&&okFs P b l (off+a.sz)|_=>false
 |_,_,_=>false termination_by structural ty=>ty end
section
variable{ok:Okc}{H:Type}{enc:TypeId×Value->H}{P:Program}{W:World}{spare:Nat->Bool}
theorem QdY:∀(t:Ty)(d:t.D),t.wf d->(t.cells d).length=t.sz
 |.int _,_,_=>rfl|.bool,_,_=>rfl|.str,_,_=>rfl|.sl _,_,_=>rfl|.unit,_,_=>rfl|.st fs,d,h=>QdY fs d h|.pair a b,d,h=>by simp only[Ty.cells,Ty.sz,Zaf,QdY a d.1 h.1,QdY b d.2 h.2]|.arr n t,l,h=>by
  obtain⟨h1,g⟩:=h;simp only[Ty.cells,Ty.sz,<-h1];have:∀(l:List t.D),(∀x∈l,t.wf x)->(l.flatMap t.cells).length=l.length*t.sz:=by intro l;induction l with|nil=>intro _;simp|cons x l i=>intro c;simp[Zay,QdY t x (c x (by simp)),i fun y f=>c y (by simp[f]),Zbg];omega
  exact this l g
theorem Qib{α β:Type}{f}:∀{l:List α}{r:List β},l.mapM f=some r->r.length=l.length/\∀(i:Nat)(x:α),l[i]?=some x->∃y,f x=some y/\r[i]?=some y|[],r,h=>by simp_all|a::l,r,h=>by simp only[List.mapM_cons,Option.bind_eq_bind,ZbX]at h;obtain⟨y,d,g,b,e⟩:=h;simp at e;subst e;obtain⟨h1,c⟩:=Qib b;grind
theorem many{ok}{t:Ty}{R:t.D->Prop}{c:Ctx ok}:∀{cs:List Value},(∀i,i<n->∃x:t.D,R x/\VRels c W (t.cells x) ((cs.drop (i*t.sz)).take t.sz))->n*t.sz<=cs.length->∃l:List t.D,l.length=n/\(∀x∈l,R x)/\VRels c W (l.flatMap t.cells) (cs.take (n*t.sz)):=by induction n with|zero=>intro cs _ _;exact⟨[],rfl,by simp,by simp[VRels]⟩|succ n d=>intro cs b f;obtain⟨x,h1,h⟩:=b 0 (by omega);rw[Zbg]at f;obtain⟨l,g,k,a⟩:=d (cs:=cs.drop t.sz) (fun i hi=>by grind[ZaT]) (by simp;omega);refine⟨x::l,by simp[g],by simp_all,?_⟩;rw[Zay,Zbg,Nat.add_comm,List.take_add];refine QbB ?_ a;simpa using h
mutual theorem Qg3:∀(ty:Ty)(t:TypeId)(fuel:Nat)(cs:List Value)(x:DataW H×List MemPlace),(∀b,spare b=true)->okTy P ty t=true->DataW.trod enc P W 0 spare true fuel t cs=some x->∃d:ty.D,(ty.wf d/\((x.1.weights P t).all (·<=reachBytes)=true->ty.sized P [t] d))/\VRels (only (ok:=ok) (inF W)) W (ty.cells d) cs:=by intro ty t fuel cs x hs ho h;match ty with
 |.int k=>
  simp only[okTy]at ho;split at ho<;>try(cases ho;done)
  rename_i k' hu;simp only[beq_iff_eq]at ho;subst ho;obtain⟨n,rfl,_,hw⟩:=DataW.trod_int hu h;exact⟨n,⟨hw,fun _=>trivial⟩,by simp[Ty.cells,VRels,VRel]⟩|.bool=>
  simp only[okTy]at ho;split at ho<;>try(cases ho;done)
  rename_i hu;obtain⟨b,rfl,_⟩:=DataW.trod_bool hu h;exact⟨b,⟨trivial,fun _=>trivial⟩,by simp[Ty.cells,VRels,VRel]⟩|.str=>
  simp only[okTy]at ho;split at ho<;>try(cases ho;done)
  rename_i hu;obtain⟨s,rfl,_,hl⟩:=DataW.trod_string hu h;refine⟨s.data.toList,⟨?_,fun _=>trivial⟩,?_⟩;·simp only[ByteArray.size,maxLen]at hl;simp_all[Ty.wf]
  ·simp[Ty.cells,VRels,VRel]|.unit=>simp[okTy]at ho|.pair a b=>simp[okTy]at ho|.st fs=>
  simp only[okTy]at ho;split at ho<;>try(cases ho;done)
  rename_i l hu;simp only[Zab,beq_iff_eq]at ho;obtain⟨ho,hsz⟩:=ho;cases fuel with|zero=>simp[DataW.trod]at h|succ n=>
   unfold DataW.trod at h;rw[hu]at h;split at h<;>first|(simp_all;done)|skip
   rename_i fs' he;injection he with he;injection he with he;subst he;split at h
   ·rename_i hl;simp only[Option.map_eq_some_iff]at h;obtain⟨xs,hm,rfl⟩:=h;obtain⟨d,⟨h1,h3⟩,h2⟩:=QoE fs l.toList 0 n _ xs hs ho hm (by omega);refine⟨d,⟨h1,fun hw=>?_⟩,?_⟩;·simp only[DataW.weights,hu]at hw;show Ty.sized P fs (fldT P [t]) d;simp only[fldT,hu];exact h3 hw
    grind[Ty.cells]
   ·cases h
 |.arr m e=>
  simp only[okTy]at ho;split at ho<;>try(cases ho;done)
  rename_i m' u hu;simp only[Zab,beq_iff_eq]at ho;obtain⟨⟨⟨rfl,ho⟩,hsz⟩,hst⟩:=ho;cases fuel with|zero=>simp[DataW.trod]at h|succ n=>
   unfold DataW.trod at h;rw[hu]at h;split at h<;>first|(simp_all;done)|skip
   rename_i m' u' he;injection he with he;injection he with he1 he2;subst he1;subst he2;split at h
   ·rename_i hl;simp only[Option.map_eq_some_iff]at h;obtain⟨xs,hm,rfl⟩:=h;obtain⟨g1,g2⟩:=Qib hm;rw[hst]at hl;obtain⟨l,k1,k2,k3⟩:=many (t:=e) (R:=fun x=>e.wf x/\((DataW.weightsAll P u (xs.map (·.1))).all (·<=reachBytes)=true->e.sized P [u] x)) (c:=only (inF W)) (n:=m) (fun i hi=>by obtain⟨y,hy,hyx⟩:=g2 i i (by simp[hi]);rw[hsz]at hy;obtain⟨d,⟨j1,j2⟩,j3⟩:=Qg3 e u n _ y hs ho hy;exact⟨d,⟨j1,fun hw=>j2 (QdE (Zap.2 ⟨y,Zac hyx,rfl⟩) hw)⟩,j3⟩) (by omega);refine⟨l,⟨⟨k1,fun x hx=>(k2 x hx).1⟩,fun hw=>?_⟩,?_⟩;·simp only[DataW.weights,hu]at hw;show∀x∈l,Ty.sized P e (eltT P [t]) x;simp only[eltT,hu];exact fun x hx=>(k2 x hx).2 hw
    rw[<-hl,Zan]at k3;exact k3
   ·cases h
 |.sl e=>
  simp only[okTy]at ho;split at ho<;>try(cases ho;done)
  rename_i u hu;simp only[Zab,beq_iff_eq,ZbT]at ho;obtain⟨⟨ho,hsz⟩,hpos⟩:=ho;rcases DataW.trod_slice hu h with⟨rfl,_⟩|⟨a,len,cap,elems,rest,n,_,rfl,rfl,_,hl,hm,hlen,hel,hsp,hns⟩;·exact⟨[],⟨⟨by simp,by simp⟩,fun _=>⟨fun _ _=>by simp,by simp⟩⟩,by simp[Ty.cells,VRels,VRel]⟩
  obtain⟨hrl,hr⟩:=hsp (hs _);have each:∀i,i<cap->∃cs,(w':W.cells? 0 (a.add (i*e.sz)) e.sz=some cs)->True:=fun _ _=>⟨[],fun _=>trivial⟩;have each:∀i,i<cap->∃cs y,W.cells? 0 (a.add (i*e.sz)) e.sz=some cs/\DataW.trod enc P W 0 spare true n u cs=some y:=by
   intro i hi;by_cases hil:i<len;·grind[ZbX]
   ·have h1:=hr (i-len) (by omega);grind[ZbX]
  by_cases h0:cap=0
  ·have :len=0:=by omega
   subst h0;subst this;exact⟨[],⟨⟨by simp,by simp⟩,fun _=>⟨fun _ _=>by simp,by simp⟩⟩,by simp[Ty.cells,VRels,VRel]⟩
  have cellsAt:∀i cs,W.cells? 0 (a.add (i*e.sz)) e.sz=some cs->cs.length=e.sz/\∀j,j<e.sz->W.cell? ((a.add (i*e.sz)).add j)=cs[j]?:=by intro i cs hcs;unfold World.cells? at hcs;rw[if_pos (Zai _)]at hcs;obtain⟨g1,g2⟩:=Qib hcs;refine⟨by simpa using g1,fun j hj=>?_⟩;obtain⟨y,k1,k2⟩:=g2 j j (by simp[hj]);rw[k1,k2]
  obtain⟨cs0,y0,hc0,_⟩:=each 0 (by omega);obtain⟨q1,q2⟩:=cellsAt 0 cs0 hc0;have hcell0:=q2 0 hpos;rw[Zak (by omega)]at hcell0;obtain⟨b,off,spot⟩:=a;have hspot:spot=none:=by simpa[Addr.add]using World.cell?_spot hcell0
  subst hspot;have hb:∃C e fr,W.heap[b]?=some (.cells C e fr):=by grind[World.cell?,Addr.add]
  obtain⟨C,et,fr,hb⟩:=hb;have hcell:∀i cs,W.cells? 0 ((⟨b,off,none⟩:Addr).add (i*e.sz)) e.sz=some cs->i<cap->(C.toList.drop (off+i*e.sz)).take e.sz=cs:=by
   intro i cs hcs hi;obtain⟨k1,k2⟩:=cellsAt i cs hcs;refine Zbx fun j=>?_;by_cases hj:j<e.sz;·simp_all[Go.WideShapes.add_plain,World.cell?]
   grind
  have hCs:len*e.sz<=(C.toList.drop off).length:=by
   by_cases hl0:len=0;·subst hl0;simp
   obtain⟨cs,y,hcs,_⟩:=each (len-1) (by omega);have h1:=hcell (len-1) cs hcs (by omega);obtain⟨k1,_⟩:=cellsAt (len-1) cs hcs;have h2:=congrArg List.length h1;rw[k1,Zaq,ZaQ]at h2;rw[ZaQ];have h3:len*e.sz=(len-1)*e.sz+e.sz:=by rw[<-Zbg];congr 1;omega
   omega
  have eachL:∀i,i<len->∃cs y,W.cells? 0 ((⟨b,off,none⟩:Addr).add (i*e.sz)) e.sz=some cs/\DataW.trod enc P W 0 spare true n u cs=some y/\y∈elems:=by intro i hi;have h1:=hel i hi;rw[Zak (by omega),hsz,ZbX]at h1;obtain⟨cs,hcs,hy⟩:=h1;exact⟨cs,_,hcs,hy,List.getElem_mem _⟩
  obtain⟨l,k1,k2,k3⟩:=many (t:=e) (R:=fun x=>e.wf x/\((DataW.weightsAll P u (elems.map (·.1))).all (·<=reachBytes)=true->e.sized P [u] x)) (c:=only (inF W)) (n:=len) (cs:=C.toList.drop off) (fun i hi=>by obtain⟨cs,y,hcs,hy,hyx⟩:=eachL i hi;rw[ZaT,hcell i cs hcs (by omega)];obtain⟨d,⟨j1,j2⟩,j3⟩:=Qg3 e u n cs y hs ho hy;exact⟨d,⟨j1,fun hw=>j2 (QdE (Zap.2 ⟨y,hyx,rfl⟩) hw)⟩,j3⟩) hCs;have k2':∀x∈l,e.wf x:=fun x hx=>(k2 x hx).1;refine⟨l,⟨⟨by grind[maxLen],k2'⟩,fun hw=>?_⟩,?_⟩
  ·replace hw:(DataW.weights P t (.slice (elems.map (·.1)) (rest.map (·.1)))).all (·<=reachBytes)=true:=hw;simp only[DataW.weights,hu,Zb3,ZbS,Zab,decide_eq_true_eq,Zav]at hw;refine⟨fun v hv=>?_,?_⟩;·simp only[eltT,hu,ZaS]at hv;subst hv;refine ZaA (Za5 _ ?_) hw.1;show List.length l<=_;omega
   ·show∀x∈l,Ty.sized P e (eltT P [t]) x;simp only[eltT,hu];exact fun x hx=>(k2 x hx).2 hw.2.1
  simp only[Ty.cells,VRels,VRel];have hll:(l.flatMap e.cells).length=l.length*e.sz:=QdY (.arr l.length e) l ⟨rfl,k2'⟩;refine⟨_,[],rfl,.inr ⟨b,off,cap,C,et,fr,by rw[k1],by omega,hll,Qbc hb,hb,?_⟩,rfl⟩;have:=QhV (vs:=(C.toList.drop off).drop (len*e.sz)) k3;rwa[Zbd]at this termination_by structural ty=>ty theorem QoE:∀(ty:Ty)(fs:List Field)(off fuel:Nat)(cs:List Value)(xs:List (DataW H×List MemPlace)),(∀b,spare b=true)->okFs P ty fs off=true->(fs.mapM fun f=>DataW.trod enc P W 0 spare true fuel f.type ((cs.drop f.offset).take (P.cellsOf f.type)))=some xs->off+ty.sz<=cs.length->∃d:ty.D,(ty.wf d/\((DataW.weightsEach P (fs.map (·.type)) (xs.map (·.1))).all (·<=reachBytes)=true->ty.sized P (fs.map (·.type)) d))/\VRels (only (ok:=ok) (inF W)) W (ty.cells d) ((cs.drop off).take ty.sz):=by intro ty fs off fuel cs xs hs ho h hl;match ty with
 |.unit=>exact⟨(),⟨trivial,fun _=>trivial⟩,by simp[Ty.cells,VRels,Ty.sz]⟩|.pair a b=>cases fs with|nil=>simp[okFs]at ho|cons f fs=>
  simp only[okFs,Zab,beq_iff_eq]at ho;obtain⟨⟨⟨rfl,h1⟩,h2⟩,h3⟩:=ho;simp only[List.mapM_cons,Option.bind_eq_bind,ZbX]at h;obtain⟨y,hy,ys,hys,hxs⟩:=h;have hxs:y::ys=xs:=by simpa using hxs
  subst hxs;rw[h2]at hy;simp only[Ty.sz]at hl;obtain⟨d1,⟨g1,w1⟩,g2⟩:=Qg3 a f.type fuel _ y hs h1 hy;obtain⟨d2,⟨g3,w2⟩,g4⟩:=QoE b fs (f.offset+a.sz) fuel cs ys hs h3 hys (by omega);refine⟨(d1,d2),⟨⟨g1,g3⟩,fun hw=>?_⟩,?_⟩;·simp only[ZaL,DataW.weightsEach,ZbS,Zab]at hw;exact⟨w1 hw.1,w2 hw.2⟩
  simp only[Ty.cells,Ty.sz];rw[List.take_add];refine QbB g2 ?_;rw[ZaT];exact g4
 |.int _=>simp[okFs]at ho|.bool=>simp[okFs]at ho|.str=>simp[okFs]at ho|.arr _ _=>simp[okFs]at ho|.sl _=>simp[okFs]at ho|.st _=>simp[okFs]at ho termination_by structural ty=>ty end
def Ty.val:(t:Ty)->t.D->AV|.arr n t,d=>.agg (Ty.cells (.arr n t) d)|.st fs,d=>.agg (Ty.cells (.st fs) d)|.int k,n=>.int k n|.bool,b=>.bool b|.str,s=>.str s|.sl t,l=>.fsl (List.flatMap (Ty.cells t) l) (List.length l) t.sz|.unit,_=>.any|.pair _ _,_=>.any
theorem QtK(ty){base}{v}{g}(ho:okTy P ty t=true)(c:Value.okWide P W .any base t v)(h:DataW.Trod enc P W 0 (fun _=>true) true t v g l):∃d:ty.D,(ty.wf d/\((g.weights P t).all (·<=reachBytes)=true->ty.sized P [t] d))/\VRel (only (ok:=ok) (inF W)) W (ty.val d) v:=by
 obtain⟨fuel,h⟩:=h;obtain⟨d,h1,f⟩:=Qg3 (spare:=fun _=>true) ty t fuel _ _ (fun _=>rfl) ho h;refine⟨d,h1,?_⟩;have one:∀(u:AV),VRels (only (ok:=ok) (inF W)) W [u] v.cells.toList->(∀cs,v≠.agg cs)->VRel (only (ok:=ok) (inF W)) W u v:=by
  intro u hu i;have:v.cells=#[v]:=by cases v<;>first|rfl|exact absurd rfl (i _)
  simp_all[VRels]
 cases ty with|unit=>simp[okTy]at ho|pair a b=>simp[okTy]at ho|arr n e=>
  simp only[okTy]at ho;split at ho<;>try(cases ho;done)
  rename_i hu;simp only[Value.okWide,hu]at c;obtain⟨cs,rfl,_⟩:=c;simp only[Ty.val,VRel];exact⟨_,rfl,f⟩|st fs=>
  simp only[okTy]at ho;split at ho<;>try(cases ho;done)
  rename_i hu;simp only[Value.okWide,hu]at c;obtain⟨cs,rfl,_⟩:=c;simp only[Ty.val,VRel];exact⟨_,rfl,f⟩|int k=>
  refine one _ f ?_;rintro cs rfl;simp only[okTy]at ho;split at ho<;>try(cases ho;done)
  rename_i hu;simp[Value.okWide,hu,Cell.okWide,Cell.ok]at c|bool=>
  refine one _ f ?_;rintro cs rfl;simp only[okTy]at ho;split at ho<;>try(cases ho;done)
  rename_i hu;simp[Value.okWide,hu,Cell.okWide,Cell.ok]at c|str=>
  refine one _ f ?_;rintro cs rfl;simp only[okTy]at ho;split at ho<;>try(cases ho;done)
  rename_i hu;simp[Value.okWide,hu,Cell.okWide,Cell.ok]at c|sl e=>
  refine one _ f ?_;rintro cs rfl;simp only[okTy]at ho;split at ho<;>try(cases ho;done)
  rename_i hu;simp[Value.okWide,hu,Cell.okWide,Cell.ok]at c
theorem arg_in(ty){base}{v}{d}(ho:okTy P ty t=true)(b:Value.okWide P W .any base t v)(h:DataW.Trod enc P W 0 (fun _=>true) true t v d c):∃d:ty.D,ty.wf d/\VRel (only (ok:=ok) (inF W)) W (ty.val d) v:=by obtain⟨e,h1,a⟩:=QtK (ok:=ok) ty ho b h;exact⟨e,h1.1,a⟩
end
variable{P:Program}
section
variable{N:NM}{n:Nat}{d:Option Nat}{af dead:List Nat}{r:List SOper}{T:Tmps}{h:Heap}{Q:QC}{fs:List Fr}
def wL(P:Program)(N:NM)(o:Option (List AV))(len:Nat)(v:AV)(d:Option Nat)(ops:List SOper)(dead:List Nat)(fs:List Fr)(n:Nat)(T:Tmps)(h:Heap)(Q:QC):Prop:=∃cs,o=some cs/\cs.length=len/\wN P N cs v d ops dead fs n T h Q
theorem QjG{len}:wL P N (some cs) len v d r dead fs n T h Q=if cs.length=len then wN P N cs v d r dead fs n T h Q else False:=by simp_all[wL]
theorem wN_go{x}(a:n<1099511627775):wN P N x v d r dead fs n T h Q=if h.get n=none then wR P N r dead fs (n+1) (putD T d v) (h.set n (.cells 0 x)) Q else False:=by
 split;·rename_i b;exact QuY b a
 simp_all[wN]
theorem wB_go(a:b<1099511627775):wB P N (some x) b v d r dead fs n T h Q=wR P N r dead fs (n+1) (putD T d v) (h.set b x) Q:=Qfh a
theorem QaE{k}(a:k<1099511627775):(h.set k x).get k=some x:=by rw[Zcd h a];simp
theorem QaL{j k}(b:k<1099511627775)(a:j≠k):(h.set k x).get j=h.get j:=by rw[Zcd h b];simp[a]
theorem Qgy{x}(i:x 0=.cells 0 y):wM P N (HM.new .dyn n x fun b g=>.ret (w b g)) d r dead fs n T h Q=wN P N y (w n 0) d r dead fs n T h Q:=by
 apply propext;constructor;·rintro⟨l,h1,hm,a⟩;unfold HM.new at hm;simp only[HM.run]at hm;cases c:h.get n with|none=>rw[c]at hm;obtain⟨k,hm⟩:=Qa2 hm;simp only[HM.run,Zaa,Zal]at hm;obtain⟨rfl,rfl⟩:=hm;rw[i]at a;exact⟨c,k,a⟩|some z=>rw[c]at hm;cases hm
 rintro⟨c,k,a⟩;refine⟨_,_,?_,by rw[<-i]at a;exact a⟩;unfold HM.new;simp only[HM.run,c];have f:Nat.blt n lim=true:=by simp_all
 rw[f];rfl
theorem Qmz{x}:wM P N (aBox .dyn n x) d r dead fs n T h Q=if x.boxable=true then wN P N x.cells (.ptr n 0 0) d r dead fs n T h Q else False:=by
 split;·simp_all[QsG]
 simp_all[aBox,Qel]
theorem QeY{sz len}:wM P N (aBuildSlice false .dyn n sz len z a) d r dead fs n T h Q=wL P N (fillA z a) (len*sz) (.sl n 0 0 len sz) d r dead fs n T h Q:=by unfold aBuildSlice;cases fillA z a with|none=>simp[Qel,wL]|some cs=>
 simp only[QjG,Zar,if_false];split;·exact Qgy rfl
 exact Qel
theorem Qfi{sz bytes}{a b}{l c}:wM P N (aMakeSlice .dyn n sz bytes z (.int a l) (.int b c)) d r dead fs n T h Q=if 0<=l/\l<=c/\bytes*c<=140737488355328/\c<=140737488355328 then wN P N (List.replicate c.toNat z).flatten (.sl n 0 0 l.toNat sz) d r dead fs n T h Q else False:=by
 by_cases hc:0<=l/\l<=c/\bytes*c<=140737488355328/\c<=140737488355328;·simp only[aMakeSlice,if_pos hc];exact Qgy (x:=fun g=>.cells g (List.replicate c.toNat z).flatten) rfl
 simp_all[aMakeSlice,if_neg,Qel]
theorem QkK:fillA cs []=some cs:=rfl
theorem QiX{size}{r}:fillA cs ((off,size,v)::r)=if v.cells.length=size/\off+size<=cs.length/\v.boxable=true then fillA (putR cs off v.cells) r else none:=rfl
theorem QkL:aBuild z a=(fillA z a).map AV.agg:=by grind[aBuild]
theorem QkM{a}:(AV.int k a).cells=[.int k a]:=rfl
theorem QkN:(AV.agg cs).cells=cs:=rfl
theorem QmA{g len sz}:(AV.sl b g off len sz).cells=[.sl b g off len sz]:=rfl
theorem QkO{len sz}:(AV.fsl cs len sz).cells=[.fsl cs len sz]:=rfl
theorem QhA:AV.nilsl.cells=[.nilsl]:=rfl
theorem QoF{a}:(AV.int k a).boxable=true:=rfl
theorem QoG:(AV.agg cs).boxable=true:=rfl
theorem QqQ{g len sz}:(AV.sl b g off len sz).boxable=true:=rfl
theorem QoH{len sz}:(AV.fsl cs len sz).boxable=true:=rfl
theorem QkP:AV.nilsl.boxable=true:=rfl
theorem QoI{a}:(AV.int k a).one=true:=rfl
theorem QqR{g len sz}:(AV.sl b g off len sz).one=true:=rfl
theorem QoJ{len sz}:(AV.fsl cs len sz).one=true:=rfl
theorem QkQ:AV.nilsl.one=true:=rfl
theorem QmB:putR cs off [v]=cs.set off v:=rfl
theorem QkR{w}:putR cs off (v::w::vs)=cs.take off++(v::w::vs)++cs.drop (off+(v::w::vs).length):=rfl
def srcB(o:Option Blk)(g off len sz:Nat):Option (List AV):=match o with|some (.cells a cs)=>if a=g/\off+len*sz<=cs.length then some ((cs.drop off).take (len*sz))else none|_=>none
theorem QbZ{g a len sz}:srcB (some (.cells a cs)) g off len sz=if a=g/\off+len*sz<=cs.length then some ((cs.drop off).take (len*sz))else none:=rfl
theorem Qn5{sz bytes g len}:wM P N (aAppend .dyn n sz bytes .nilsl (.sl b g off (len+1) sz)) d r dead fs n T h Q=∃ys,srcB (h.get b) g off (len+1) sz=some ys/\((len+1)*bytes<=140737488355328/\len+1<=140737488355328)/\ys.all AV.one=true/\wN P N ys (.sl n 0 0 (len+1) sz) d r dead fs n T h Q:=by
 simp only[aAppend,aSrc,if_true,slLen,Zb8,QcE,QcS];apply propext;constructor;·rintro⟨cs,i,h1,a,f⟩;rw[i,QbZ,if_pos ⟨rfl,h1⟩];exact⟨_,rfl,⟨a.1,a.2.1⟩,a.2.2,by rw[Qgy rfl]at f;exact f⟩
 rintro⟨ys,c,a,f,k⟩;unfold srcB at c;split at c
 ·rename_i l cs i;split at c;·rename_i e;obtain⟨rfl,e⟩:=e;cases c;exact⟨cs,i,e,⟨a.1,a.2,f⟩,by rw[Qgy rfl];exact k⟩
  cases c
 cases c
theorem QpK{sz bytes g len b2 f c a}:wM P N (aAppend .dyn n sz bytes (.sl b2 f c a sz) (.sl b g off len sz)) d r dead fs n T h Q=∃ys i,srcB (h.get b) g off len sz=some ys/\srcB (h.get b2) f c a sz=some i/\((a+len)*bytes<=140737488355328/\a+len<=140737488355328)/\ys.all AV.one=true/\wB P N (some (.cells (f+1) (i++ys))) b2 (.sl b2 (f+1) 0 (a+len) sz) d r dead fs n T h Q:=by
 simp only[aAppend,aSrc,if_true,slLen,QcE,QcS,QeE];apply propext;constructor;·rintro⟨cs,t,h1,s,q,k,l,p⟩;rw[t,k,QbZ,QbZ,if_pos ⟨rfl,h1⟩,if_pos ⟨rfl,l⟩];simp_all
 rintro⟨ys,i,o,m,s,l,p⟩;unfold srcB at o m;grind
end
def Fresh(n:Nat)(h:Heap):Prop:=∀b,n<=b->h.get b=none
theorem Fresh.e:Fresh n .e:=fun b _=>by simp[Tr.get]
theorem Fresh.le{m}(hf:Fresh n h)(a:n<=m):Fresh m h:=fun b c=>hf b (ZaA a c)
theorem Fresh.set{k}(hf:Fresh n h)(a:k<1099511627775)(d:k<n):Fresh n (h.set k x):=fun b c=>by rw[QaL a (by omega)];exact hf b c
end Go.AM
theorem _root_.Go.AM.Zco:type_of%@Go.AM.Fresh.le:=@Go.AM.Fresh.le
theorem _root_.Go.AM.Zcp:type_of%@Go.AM.Fresh.set:=@Go.AM.Fresh.set
namespace Go.AM
variable{P:Program}
def FrzTo(h:Heap)(x y:AV):Prop:=∀(ok:Okc)(c:Ctx ok)(w:World)(v:Value),HRel c h w->VRel c w x v->VRel (lent c) w y v
def FrzL(h:Heap):List AV->List AV->Prop|[],[]=>True|x::xs,y::a=>FrzTo h x y/\FrzL h xs a|_,_=>False
variable{h:Heap}
theorem FrzTo.same(x):FrzTo h x x:=fun _ c w v _ a=>Zce (Qh1 c w) _ _ a
theorem FrzL.same:∀(xs:List AV),FrzL h xs xs|[]=>trivial|x::xs=>⟨.same x,FrzL.same xs⟩
theorem FrzL.length:∀{xs ys:List AV},FrzL h xs ys->ys.length=xs.length|[],[],_=>rfl|[],_::_,a=>a.elim|_::_,[],a=>a.elim|x::xs,y::ys,a=>by simp[FrzL.length a.2]
theorem FrzL.pre{ok}{c:Ctx ok}{w}(H:HRel c h w):∀{xs ys:List AV}{vs:List Value},FrzL h xs ys->VPre c w xs vs->VPre (lent c) w ys vs|[],[],_,_,_=>by simp[VPre]|[],_::_,_,a,_=>a.elim|_::_,[],_,a,_=>a.elim|x::xs,y::ys,vs,a,d=>by simp only[VPre]at d⊢;obtain⟨v,b,rfl,f,g⟩:=d;exact⟨v,b,rfl,a.1 _ c w v H f,FrzL.pre H a.2 g⟩
theorem FrzL.rels{ok}{c:Ctx ok}{w}(H:HRel c h w):∀{xs ys:List AV}{vs:List Value},FrzL h xs ys->VRels c w xs vs->VRels (lent c) w ys vs|[],[],_,_,b=>by grind[VRels]|[],_::_,_,a,_=>a.elim|_::_,[],_,a,_=>a.elim|x::xs,y::ys,vs,a,b=>by simp only[VRels]at b⊢;obtain⟨v,d,rfl,f,g⟩:=b;exact⟨v,d,rfl,a.1 _ c w v H f,FrzL.rels H a.2 g⟩
theorem FrzTo.agg{xs ys}(d:FrzL h xs ys):FrzTo h (.agg xs) (.agg ys):=fun _ c w v H a=>by simp only[VRel]at a⊢;obtain⟨b,rfl,a⟩:=a;exact⟨b,rfl,d.rels H a⟩
theorem FrzTo.sl{b g off len sz}{cs ys}(r:h.get b=some (.cells g cs))(F:off+len*sz<=cs.length)(p:FrzL h ((cs.drop off).take (len*sz)) ys):FrzTo h (.sl b g off len sz) (.fsl ys len sz):=fun _ c w v H n=>by
 have hlen:=p.length;simp only[VRel]at n;rcases n with⟨hp,rfl,rfl,rfl⟩|⟨y,base,o,cap,C,e,z,hp,rfl,k,q,f⟩;·simp_all[VRel]
 obtain⟨C',E,x,B,d,s,t,i⟩:=H.here r hp;rw[q]at d;cases d;by_cases u:cap=0
 ·have l:len=0:=by omega
  subst l;have m:ys=[]:=by simp_all
  subst m;simp only[VRel];simp_all
 obtain⟨rfl,A⟩:=f.resolve_left u;have a:=Qcl (len*sz) (Qbj off i);rw[ZaT]at a;simp only[VRel];exact .inr ⟨y,base+off,cap,C,e,z,rfl,k,by grind,.inr B,q,p.pre H a⟩
section
variable{N:NM}{n:Nat}{d:Option Nat}{af dead:List Nat}{r:List SOper}{T:Tmps}{Q:QC}{fs:List Fr}
end
end Go.AM
theorem _root_.Go.AM.Zcq:type_of%@Go.AM.FrzTo.same:=@Go.AM.FrzTo.same
theorem _root_.Go.AM.Zcr:type_of%@Go.AM.FrzL.same:=@Go.AM.FrzL.same
namespace Go.AM
variable{P:Program}
variable{v:AV}{x:Blk}{h:Heap}{es fs:List (AV×AV)}{a c:List (Nat×Src)}{cs ds ys:List AV}{b g i k m n off:Nat}{π:Nat->Option Src}{l:SCode}{Q:SX->St->Prop}{s:Src}{A:St}{T T':Tmps}{β:Type}
abbrev HL:=List (Nat×Blk)
variable{L r:HL}
def hp:HL->Heap|[]=>.e|p::r=>(hp r).set p.1 p.2
theorem QmC:hp []=.e:=rfl
theorem Qa1:hp ((b,x)::r)=(hp r).set b x:=rfl
theorem get_e{b}:Tr.get (α:=Blk) .e b=none:=by simp[Tr.get]
def lkS:List (Nat×Src)->Nat->Option Src|[],_=>none|(b,s)::r,k=>if k=b then some s else lkS r k
def srcNew(s:Src):List (Nat×Src)->Bool|[]=>true|(_,t)::r=>(match s,t with|.blk b _,.blk a _=>!Nat.beq b a|_,_=>true)&&srcNew s r
def okPs(m:Nat):List (Nat×Src)->HL->Bool|[],[]=>true|(b,s)::r,(a,_)::l=>Nat.beq b a&&Nat.blt b 1099511627775&&(Nat.blt b m||((match s with|.blk k _=>Nat.ble m k|.nil=>true)&&srcNew s r))&&(r.all fun p=>!Nat.beq p.1 b)&&okPs m r l|_,_=>false
def ow(m:Nat)(a:List (Nat×Src)):Nat->Option Src:=fun b=>if b<m then none else lkS a b
def RB(m:Nat)(π:Nat->Option Src)(h:Heap):HL->Prop|[]=>True|(a,x)::r=>((a<m/\BRn m π h (some (.blk a x.gen)) x)\/(m<=a/\x.gen=0/\(∀g,x≠.dead g)/\BRn m π h (π a) x))/\RB m π h r
section
variable{m:Nat}{π:Nat->Option Src}{h:Heap}
theorem QqS:∀{L:HL}{d:List (Nat×Src)},okPs m d L=true->∀{b:Nat}{x:Blk},(hp L).get b=some x->(b,x)∈L
 |[],[],_,b,x,c=>by simp[hp,Tr.get]at c|[],_::_,a,_,_,_=>by simp[okPs]at a|(i,f)::L,[],a,_,_,_=>by simp[okPs]at a|(i,f)::L,(k,s)::d,a,b,x,c=>by
  simp only[okPs,Zab,ZbT,Zb0]at a;obtain⟨⟨⟨⟨rfl,g⟩,_⟩,_⟩,h⟩:=a;simp only[hp]at c;by_cases e:b=k;·simp_all[QaE]
  rw[QaL g e]at c;simp[QqS h c]
theorem QoK:∀{L:HL}{d:List (Nat×Src)},okPs m d L=true->∀{b:Nat},(hp L).get b=none->lkS d b=none
 |[],[],_,b,_=>rfl|[],_::_,a,_,_=>by simp[okPs]at a|(i,f)::L,[],a,_,_=>by simp[okPs]at a|(i,f)::L,(k,s)::d,a,b,c=>by
  simp only[okPs,Zab,ZbT,Zb0]at a;obtain⟨⟨⟨⟨rfl,g⟩,_⟩,_⟩,h⟩:=a;simp only[hp]at c;by_cases e:b=k;·simp_all[QaE]
  rw[QaL g e]at c;simp only[lkS,if_neg e];exact QoK h c
theorem RB.mem:∀{L:HL},RB m π h L->∀{b:Nat}{x:Blk},(b,x)∈L->(b<m/\BRn m π h (some (.blk b x.gen)) x)\/(m<=b/\x.gen=0/\(∀g,x≠.dead g)/\BRn m π h (π b) x)
 |[],_,_,_,hm=>by cases hm|(d,c)::L,a,b,x,hm=>by
  rcases Zax.1 hm with e|hm;·cases e;exact a.1
  exact RB.mem a.2 hm
theorem QmD:∀{d:List (Nat×Src)}{L:HL},okPs m d L=true->∀{b f g:Nat},m<=b->lkS d b=some (.blk f g)->m<=f
 |[],_,_,_,_,_,_,a=>by simp[lkS]at a|_::_,[],c,_,_,_,_,_=>by simp[okPs]at c|(k,s)::d,(n,o)::L,c,b,f,g,l,a=>by
  simp only[okPs,Zab,Zbh,ZbT]at c;obtain⟨⟨⟨_,h⟩,_⟩,i⟩:=c;simp only[lkS]at a;split at a
  ·rename_i e;cases a;rcases h with h|h;·omega
   simp_all
  exact QmD i l a
theorem Qgz:∀{d:List (Nat×Src)}{b g c h k:Nat},srcNew (.blk b g) d=true->lkS d k=some (.blk c h)->b≠c
 |[],_,_,_,_,_,_,a=>by simp[lkS]at a|(j,s)::d,b,g,c,h,k,f,a=>by
  simp only[srcNew,Zab]at f;simp only[lkS]at a;split at a;·cases a;have:=f.1;simp only[Zbq]at this;intro e;simp_all
  exact Qgz f.2 a
theorem QmE:∀{f:List (Nat×Src)}{L:HL},okPs m f L=true->∀{h b2 b g i:Nat},m<=h->m<=b2->lkS f h=some (.blk b g)->lkS f b2=some (.blk b i)->h=b2
 |[],_,_,_,_,_,_,_,_,_,p,_=>by simp[lkS]at p|_::_,[],d,_,_,_,_,_,_,_,_,_=>by simp[okPs]at d|(k,s)::f,(t,u)::L,d,h,b2,b,g,i,q,n,h1,c=>by
  simp only[okPs,Zab,Zbh,ZbT]at d;obtain⟨⟨⟨_,a⟩,_⟩,o⟩:=d;simp only[lkS]at h1 c;split at h1<;>split at c;·omega
  ·rename_i l r;cases h1;rcases a with a|a;·omega
   exact absurd rfl (Qgz a.2 c)
  ·rename_i l r;cases c;rcases a with a|a;·omega
   exact absurd rfl (Qgz a.2 h1)
  exact QmE o q n h1 c
theorem QoL:∀{d:List (Nat×Src)}{L:HL},okPs m d L=true->∀{b:Nat}{s:Src},lkS d b=some s->∃x,(b,x)∈L
 |[],_,_,_,_,a=>by simp[lkS]at a|_::_,[],c,_,_,_=>by simp[okPs]at c|(k,t)::d,(h,i)::L,c,b,s,a=>by
  simp only[okPs,Zab,Zb0]at c;obtain⟨⟨⟨⟨rfl,_⟩,_⟩,_⟩,f⟩:=c;simp only[lkS]at a;split at a;·simp_all
  obtain⟨x,g⟩:=QoL f a;grind
def RO(m:Nat)(L:HL)(h:Heap):Prop:=∀b,b<m->(∀p∈L,p.1≠b)->h.get b=none
theorem RO.zero:RO 0 L h:=fun b a=>absurd a (ZaD _)
theorem RO.e:RO m L .e:=fun b _ _=>get_e
theorem RO.set(a:(Nat.blt k 1099511627775&&(Nat.ble m k||L.any fun p=>Nat.beq p.1 k))=true)(f:RO m L h):RO m L (h.set k x):=fun b c d=>by
 simp only[Zab,Zbh,ZbT,Nat.ble_eq,Zby,Zb0]at a;obtain⟨h1,g⟩:=a;have:b≠k:=by grind
 rw[QaL h1 this];exact f b c d
def Rec(m:Nat)(T':Tmps)(L:HL)(T:Tmps)(h:Heap):Prop:=∃a,okPs m a L=true/\RO m L h/\RB m (ow m a) h L/\RT m (ow m a) h T' T
theorem ow_ge(c:m<=b):ow m a b=lkS a b:=if_neg (by omega)
theorem Rec.maps(ho:okPs m c L=true)(r:RB m (ow m c) h L):Maps m (ow m c) h:=by
 refine⟨fun w b g hm d=>?_,fun t b2 b g u n l h1 o=>QmE ho n l (by rw[<-ow_ge n];exact h1) (by rw[<-ow_ge l];exact o)⟩;rw[ow_ge hm]at d;refine⟨?_,QmD ho hm d⟩;obtain⟨x,s⟩:=QoL ho d;rcases r.mem s with⟨v,_⟩|⟨_,q1,q2,f⟩;·omega
 rw[ow_ge hm,d]at f;cases x with|cells i cs=>obtain⟨q,_,a,_⟩:=f;exact⟨_,a,rfl,fun k=>by simp⟩|map i es=>obtain⟨q,a,_⟩:=f;exact⟨_,a,rfl,fun k=>by simp⟩|loop i N T c p body st=>obtain⟨T0,a,_⟩:=f;exact⟨_,a,rfl,fun k=>by simp⟩|dead i=>exact absurd rfl (q2 i)
theorem Rec.heap(ho:okPs m a L=true)(b:RB m (ow m a) h L):RH m (ow m a) h (hp L):=fun d f c=>b.mem (QqS ho c)
theorem QqT:∀{L:HL}{f:List (Nat×Src)},okPs m f L=true->∀{b:Nat},(hp L).get b=none->∀p∈L,p.1≠b
 |[],_,_,_,_,p,hp=>by cases hp|(i,l)::L,[],c,_,_,_,_=>by simp[okPs]at c|(i,l)::L,(k,s)::f,c,b,d,p,a=>by
  simp only[okPs,Zab,ZbT,Zb0]at c;obtain⟨⟨⟨⟨rfl,g⟩,_⟩,_⟩,h⟩:=c;simp only[hp]at d;by_cases e:b=k;·simp_all[QaE]
  rw[QaL g e]at d;rcases Zax.1 a with rfl|a;·omega
  exact QqT h d p a
theorem Rec.dom{b}(ho:okPs m b L=true)(f:RO m L h):RD m (ow m b) h (hp L):=fun g d=>⟨fun a=>f g a (QqT ho d),fun c=>by grind[ow_ge,QoK]⟩
theorem W2.recL{c}(f:Rec m T' L T h)(hw:W2 P ⟨n,m⟩ c Q ⟨T',hp L⟩):W2 P ⟨n,m⟩ c Q ⟨T,h⟩:=by obtain⟨g,ho,a,b,d⟩:=f;exact W2.recast (N:=⟨n,m⟩) (Rec.maps ho b) (Rec.heap ho b) (Rec.dom ho a) d hw
theorem W2.post(hw:W2 P ⟨k,m⟩ l (fun e B=>Q e B\/∃T' L,Rec m T' L B.T B.h/\Q e ⟨T',hp L⟩) A):W2 P ⟨k,m⟩ l Q A:=by
 intro code g c a w S ro b Q' q;refine hw code g c a w S ro b Q' ?_;rintro e B d r f(n|⟨T',L,⟨h,ho,b,o,p⟩,n⟩)S' E';·grind
 have M:=Rec.maps ho o;exact q e ⟨T',hp L⟩ (nctx m (ow m h) B.h d) r f n ⟨(Rec.heap ho o).hrel (Rec.dom ho b) M S'.heap,fun i=>p i _ d f _ S'.heap M (S'.tmps i),S'.size,S'.defers.mono2 (QeC (m:=m) (π:=ow m h) (h:=B.h) d f)⟩ (E'.trans (QeC d f))
theorem RT.nil:RT m π h [] T:=fun _=>Zcj
theorem RT.cons{j}(b:Rn m π h v (lk T j))(a:RT m π h T' T):RT m π h ((j,v)::T') T:=by
 intro i;rw[Qa3];split;·simp_all
 exact a i
theorem RB.nil:RB m π h []:=trivial
theorem RB.cells{a:Nat}(hm:Nat.ble m a=true)(hp:π a=some (.blk b g))(c:h.get b=some (.cells g ds))(hc:RnL m π h cs ds)(d:RB m π h r):RB m π h ((a,.cells 0 cs)::r):=⟨.inr ⟨Zaw hm,rfl,fun _=>by simp,by rw[hp];exact⟨ds,ds.length,c,by simp_all⟩⟩,d⟩
theorem RB.newnil{a:Nat}(hm:Nat.ble m a=true)(hp:π a=some .nil)(b:RB m π h r):RB m π h ((a,.cells 0 [])::r):=⟨.inr ⟨Zaw hm,rfl,fun _=>by simp,by rw[hp];rfl⟩,b⟩
theorem RB.map{a:Nat}(hm:Nat.ble m a=true)(hp:π a=some (.blk b g))(c:h.get b=some (.map g fs))(hc:RnM m π h es fs)(d:RB m π h r):RB m π h ((a,.map 0 es)::r):=⟨.inr ⟨Zaw hm,rfl,fun _=>by simp,by rw[hp];exact⟨fs,c,hc⟩⟩,d⟩
theorem RB.cellsB(hm:Nat.blt b m=true)(a:h.get b=some (.cells g ds))(hc:RnL m π h cs ds)(c:RB m π h r):RB m π h ((b,.cells g cs)::r):=⟨.inl ⟨by simpa using hm,ds,ds.length,a,by simp_all⟩,c⟩
theorem RB.mapB(hm:Nat.blt b m=true)(a:h.get b=some (.map g fs))(hc:RnM m π h es fs)(c:RB m π h r):RB m π h ((b,.map g es)::r):=⟨.inl ⟨by simpa using hm,fs,a,hc⟩,c⟩
theorem QjH:∀{g:List (Nat×Src)},srcNew s g=true->∀d c,lkS g d=some c->(match s,c with|.blk b _,.blk b2 _=>b≠b2|_,_=>True)
 |[],_,d,c,a=>by simp[lkS]at a|(j,t)::g,f,d,c,a=>by
  simp only[srcNew,Zab]at f;simp only[lkS]at a;split at a;·cases a;have:=f.1;cases s<;>cases t<;>simp_all;intro e;simp_all
  exact QjH f.2 d c a
theorem RnL.nil:RnL m π h [] []:=trivial
theorem RnL.cons{x y}{xs}(h1:Rn m π h x y)(a:RnL m π h xs ys):RnL m π h (x::xs) (y::ys):=⟨h1,a⟩
theorem Rn.fz{len sz}(d:h.get b=some (.cells g ds))(f:srcNew (.blk b g) a=true)(hm:Nat.ble m b=true)(k:ds.length=len*sz)(n:RnL m (ow m a) h cs ds):Rn m (ow m a) h (.fsl cs len sz) (.sl b g 0 len sz):=by
 refine Rn.frz d (by simpa using hm) (fun i l c e=>?_) (by omega) ?_;·rw[ow_ge c]at e;exact QjH f i _ e rfl
 grind
theorem Rn.fzm{len sz}(c:h.get b=some (.cells g ds))(i:srcNew (.blk b g) a=true)(hm:Nat.ble m b=true)(d:k=len)(f:ds.length=len*sz)(l:RnL m (ow m a) h cs ds):Rn m (ow m a) h (.fsl cs k sz) (.sl b g 0 len sz):=by simp_all[Rn.fz]
theorem Rn.fz0{len sz}(a:h.get b=some (.cells g ds))(c:ds.length=len*sz)(f:RnL 0 π0 h cs ds):Rn 0 π0 h (.fsl cs len sz) (.sl b g 0 len sz):=by refine Rn.frz a (Zai _) (fun i d _ e=>by simp[π0]at e) (by omega) ?_;grind
end
theorem Rn.slot{j}(a:lk T j=v)(b:noRef v=true):Rn m π h v (lk T j):=by simp_all[Zck]
section
variable{m:Nat}{π:Nat->Option Src}{h:Heap}
theorem Rn.x1{a len sz:Nat}(hm:Nat.ble m a=true)(hp:π a=some (.blk b g)):Rn m π h (.sl a 0 off len sz) (.sl b g off len sz):=Rn.sl (Zaw hm) hp
theorem Rn.x2{a:Nat}(hm:Nat.ble m a=true)(hp:π a=some (.blk b g)):Rn m π h (.ptr a 0 off) (.ptr b g off):=Rn.ptr (Zaw hm) hp
theorem Rn.x3{a:Nat}(hm:Nat.ble m a=true)(hp:π a=some (.blk b g)):Rn m π h (.map a 0) (.map b g):=Rn.map (Zaw hm) hp
theorem Rn.x4{a sz:Nat}(hm:Nat.ble m a=true)(hp:π a=some .nil):Rn m π h (.sl a 0 0 0 sz) .nilsl:=Rn.slnil (Zaw hm) hp
theorem Rn.x5{len sz}(hm:Nat.ble (b+1) m=true):Rn m π h (.sl b g off len sz) (.sl b g off len sz):=Rn.slB (Zaw hm)
theorem Rn.x6(hm:Nat.ble (b+1) m=true):Rn m π h (.ptr b g off) (.ptr b g off):=Rn.ptrB (Zaw hm)
theorem Rn.x7(hm:Nat.ble (b+1) m=true):Rn m π h (.map b g) (.map b g):=Rn.mapB (Zaw hm)
end
section
variable{k m n:Nat}{T:Tmps}{h:Heap}{Q:QC}{fs:List Fr}{α:Type}{env:α->Tmps}{H:α->HL}{I:α->Prop}{μ:α->Nat}{a:α}
def loopR(P:Program)(k m:Nat){α:Type}(env:α->Tmps)(H:α->HL)(I:α->Prop)(μ:α->Nat)(a:α)(fs:List Fr)(Q:QC):QC:=fun e T h n=>match e with|.normal=>∃b,μ b<μ a/\I b/\Rec m (env b) (H b) T h|e=>wX P ⟨k,m⟩ e fs n T h Q
theorem QgA:loopR P k m env H I μ a fs Q .normal T h n=∃b,μ b<μ a/\I b/\Rec m (env b) (H b) T h:=rfl
theorem QiY:loopR P k m env H I μ a fs Q (.exit i) T h n=wX P ⟨k,m⟩ (.exit i) fs n T h Q:=rfl
theorem QkS:loopR P k m env H I μ a fs Q .ret T h n=wX P ⟨k,m⟩ .ret fs n T h Q:=rfl
theorem QaC{b}(s)(env:α->Tmps)(H:α->HL)(I:α->Prop)(μ)(c)(r:Rec m (env c) (H c) T h)(l:I c)(round:∀a,I a->wS P ⟨k,m⟩ b [] s (env a) (hp (H a)) (loopR P k m env H I μ a fs Q)):wS P ⟨k,m⟩ (.loop b) fs n T h Q:=by show W2 P ⟨k,m⟩ (.loop b) (fun e B=>∃n,ct P ⟨k,m⟩ fs Q e B.T B.h n) ⟨T,h⟩;refine W2.loop (fun q B=>∃a,μ a=q/\I a/\Rec m (env a) (H a) B.T B.h) (μ c) ⟨c,rfl,l,r⟩ ?_;rintro q B⟨a,rfl,hi,o⟩;refine W2.recL o ((wpC.toW (round a hi)).mono ?_);rintro e C⟨f,d⟩;cases e with|normal=>obtain⟨g,h1,t,p⟩:=d;exact⟨μ g,h1,g,rfl,t,p⟩|exit i=>exact⟨f,d⟩|ret=>exact⟨f,d⟩
def loopX(P:Program)(k m:Nat){α β:Type}(env:α->Tmps)(H:α->HL)(I:α->Prop)(μ:α->Nat)(i:Nat)(T1:β->Tmps)(L1:β->HL)(J:β->Prop)(a:α)(fs:List Fr)(Q:QC):QC:=fun e T h n=>match e with|.normal=>∃c,μ c<μ a/\I c/\Rec m (env c) (H c) T h|.exit j=>if j=i then∃b,J b/\Rec m (T1 b) (L1 b) T h else wX P ⟨k,m⟩ (.exit j) fs n T h Q|.ret=>wX P ⟨k,m⟩ .ret fs n T h Q
section
variable{β:Type}{i:Nat}{T1:β->Tmps}{L1:β->HL}{J:β->Prop}
theorem QgB:loopX P k m env H I μ i T1 L1 J a fs Q .normal T h n=∃b,μ b<μ a/\I b/\Rec m (env b) (H b) T h:=rfl
theorem QfJ{j}:loopX P k m env H I μ i T1 L1 J a fs Q (.exit j) T h n=if j=i then∃b,J b/\Rec m (T1 b) (L1 b) T h else wX P ⟨k,m⟩ (.exit j) fs n T h Q:=rfl
theorem QkT:loopX P k m env H I μ i T1 L1 J a fs Q .ret T h n=wX P ⟨k,m⟩ .ret fs n T h Q:=rfl
end
theorem Qar{b}(v)(env:α->Tmps)(H:α->HL)(I:α->Prop)(μ)(d)(i o)(T1)(L1:β->HL)(J)(r:Rec m (env d) (H d) T h)(s:I d)(round:∀a,I a->wS P ⟨k,m⟩ b [] v (env a) (hp (H a)) (loopX P k m env H I μ i T1 L1 J a fs Q))(cont:∀b,J b->wX P ⟨k,m⟩ (.exit i) fs o (T1 b) (hp (L1 b)) Q):wS P ⟨k,m⟩ (.loop b) fs n T h Q:=by
 show W2 P ⟨k,m⟩ (.loop b) (fun e B=>∃n,ct P ⟨k,m⟩ fs Q e B.T B.h n) ⟨T,h⟩;refine W2.post ?_;refine W2.loop (fun q B=>∃a,μ a=q/\I a/\Rec m (env a) (H a) B.T B.h) (μ d) ⟨d,rfl,s,r⟩ ?_;rintro q B⟨a,rfl,hi,g⟩;refine W2.recL g ((wpC.toW (round a hi)).mono ?_);rintro e C⟨f,c⟩
 cases e with|normal=>obtain⟨l,h1,p,t⟩:=c;exact⟨μ l,h1,l,rfl,p,t⟩|exit j=>
  replace c:loopX P k m env H I μ i T1 L1 J a fs Q (.exit j) C.T C.h f:=c;rw[QfJ]at c;split at c;·rename_i e;subst e;obtain⟨b,u,g⟩:=c;exact .inr ⟨_,_,g,o,cont b u⟩
  exact .inl ⟨f,c⟩|ret=>exact .inl ⟨f,c⟩
end
section
variable{N:NM}{n:Nat}{d:Option Nat}{af dead:List Nat}{r:List SOper}{T:Tmps}{h:Heap}{Q:QC}{fs:List Fr}
def wA(P:Program)(N:NM)(c ys:Option (List AV))(g a len sz bytes b:Nat)(d:Option Nat)(ops:List SOper)(dead:List Nat)(fs:List Fr)(n:Nat)(T:Tmps)(h:Heap)(Q:QC):Prop:=∃y z,ys=some y/\c=some z/\((a+len)*bytes<=140737488355328/\a+len<=140737488355328)/\y.all AV.one=true/\wB P N (some (.cells (g+1) (z++y))) b (.sl b (g+1) 0 (a+len) sz) d ops dead fs n T h Q
theorem QhB{sz bytes len b2 f c a}:wM P N (aAppend .dyn n sz bytes (.sl b2 f c a sz) (.sl b g off len sz)) d r dead fs n T h Q=wA P N (srcB (h.get b2) f c a sz) (srcB (h.get b) g off len sz) f a len sz bytes b2 d r dead fs n T h Q:=by
 rw[QpK];apply propext;constructor;·rintro⟨l,i,h1,m,k,o,p⟩;exact⟨l,i,h1,m,k,o,p⟩
 rintro⟨l,i,h1,m,k,o,p⟩;simp_all
theorem QoM{zs}{len2 len sz bytes}(h1:(len2+len)*bytes<=140737488355328)(h2:len2+len<=140737488355328):wA P N (some zs) (some ys) g len2 len sz bytes b d r dead fs n T h Q=if ys.all AV.one=true then wB P N (some (.cells (g+1) (zs++ys))) b (.sl b (g+1) 0 (len2+len) sz) d r dead fs n T h Q else False:=by
 by_cases ho:ys.all AV.one=true
 ·rw[if_pos ho];apply propext;constructor;·rintro⟨y,z,e1,e2,_,_,h5⟩;simp_all
  ·intro h5;exact⟨ys,zs,rfl,rfl,⟨h1,h2⟩,ho,h5⟩
 ·rw[if_neg ho];apply propext;constructor;·rintro⟨y,z,e1,e2,_,h4,h5⟩;grind
  simp_all
theorem QfK{len sz}(a:cs.length=len*sz):srcB (some (.cells g cs)) g 0 len sz=some cs:=by rw[QbZ,if_pos ⟨rfl,by omega⟩,ZaX,<-a,Zan]
end
end Go.AM
theorem _root_.Go.AM.Zcs:type_of%@Go.AM.RO.zero:=@Go.AM.RO.zero
theorem _root_.Go.AM.Zct:type_of%@Go.AM.RT.nil:=@Go.AM.RT.nil
theorem _root_.Go.AM.Zcu:type_of%@Go.AM.RT.cons:=@Go.AM.RT.cons
theorem _root_.Go.AM.Zcv:type_of%@Go.AM.RB.nil:=@Go.AM.RB.nil
theorem _root_.Go.AM.Zcw:type_of%@Go.AM.RB.cells:=@Go.AM.RB.cells
theorem _root_.Go.AM.Zcx:type_of%@Go.AM.RB.newnil:=@Go.AM.RB.newnil
theorem _root_.Go.AM.Zcy:type_of%@Go.AM.RB.map:=@Go.AM.RB.map
theorem _root_.Go.AM.Zcz:type_of%@Go.AM.RB.cellsB:=@Go.AM.RB.cellsB
theorem _root_.Go.AM.ZcA:type_of%@Go.AM.RB.mapB:=@Go.AM.RB.mapB
theorem _root_.Go.AM.ZcB:type_of%@Go.AM.RnL.nil:=@Go.AM.RnL.nil
theorem _root_.Go.AM.ZcC:type_of%@Go.AM.RnL.cons:=@Go.AM.RnL.cons
theorem _root_.Go.AM.ZcD:type_of%@Go.AM.Rn.fzm:=@Go.AM.Rn.fzm
theorem _root_.Go.AM.ZcE:type_of%@Go.AM.Rn.fz0:=@Go.AM.Rn.fz0
theorem _root_.Go.AM.ZcF:type_of%@Go.AM.Rn.slot:=@Go.AM.Rn.slot
namespace Go.AM
variable{v x:AV}{es:List (AV×AV)}{args bs ds vs xs ys:List AV}{b f g:Nat}{sf:SFn}{w:World}
theorem words:type_of%@Qok/\type_of%@Qqx/\type_of%@Qol/\type_of%@Qks/\type_of%@Qqy/\type_of%@Qom/\type_of%@Qma/\type_of%@Qon/\type_of%@Qmb/\type_of%@Qoo/\type_of%@Qqz/\type_of%@wX_sq/\type_of%@Qkt/\type_of%@QiJ/\type_of%@QqA/\type_of%@QiK/\type_of%@Qhq/\type_of%@Qgx/\type_of%@QiV/\type_of%@QkJ/\type_of%@ev_t/\type_of%@ev_c/\type_of%@ev_f/\type_of%@QqB/\type_of%@Qa3/\type_of%@QjF/\type_of%@QqC/\type_of%@QqD/\type_of%@rm_no/\type_of%@Qop/\type_of%@Qku/\type_of%@Qkv/\type_of%@Qmc/\type_of%@Qkw/\type_of%@Qoq/\type_of%@Qmd/\type_of%@Qme/\type_of%@Qmf/\type_of%@Qhr/\type_of%@Qgt/\type_of%@QqE/\type_of%@Qmg/\type_of%@Qor/\type_of%@Qos/\type_of%@QqF/\type_of%@Qot/\type_of%@Qou/\type_of%@Qmh/\type_of%@Qkx/\type_of%@QqG/\type_of%@wR_eq/\type_of%@wR_un/\type_of%@Qov/\type_of%@QeD/\type_of%@Qmj/\type_of%@Qmk/\type_of%@Qml/\type_of%@Qmm/\type_of%@Qmn/\type_of%@QiM/\type_of%@Qky/\type_of%@Qmo/\type_of%@QqJ/\type_of%@Qkz/\type_of%@Qow/\type_of%@Qmp/\type_of%@Qmq/\type_of%@QiN/\type_of%@QkA/\type_of%@Qox/\type_of%@QqK/\type_of%@QkB/\type_of%@Qoy/\type_of%@Qoz/\type_of%@Qek/\type_of%@Qmr/\type_of%@QqL/\type_of%@QcD/\type_of%@Qfh/\type_of%@QkE/\type_of%@Qhs/\type_of%@Qht/\type_of%@QiO/\type_of%@QkF/\type_of%@Qmt/\type_of%@QkG/\type_of%@Qhu/\type_of%@QkH/\type_of%@QkC/\type_of%@QkD/\type_of%@Qh7/\type_of%@Qh8/\type_of%@Qh9/\type_of%@Qia/\type_of%@Qmu/\type_of%@Qmv/\type_of%@QeF/\type_of%@QeG/\type_of%@QeH/\type_of%@QeI/\type_of%@QeJ/\type_of%@QeK/\type_of%@QoB/\type_of%@QoC/\type_of%@Qgu/\type_of%@QiQ/\type_of%@Qhv/\type_of%@QiP/\type_of%@Qgv/\type_of%@Qmw/\type_of%@Qmx/\type_of%@Qgw/\type_of%@wr_u8/\type_of%@QqN/\type_of%@QqO/\type_of%@QqM/\type_of%@QqP/\type_of%@QiR/\type_of%@QkI/\type_of%@QiS/\type_of%@Qhw/\type_of%@QiT/\type_of%@Qhx/\type_of%@Qhy/\type_of%@Qhz/\type_of%@List.elem_cons.{0}/\type_of%@List.elem_nil.{0}/\type_of%@Zar/\type_of%@Bool.true_eq_false/\type_of%@List.getElem?_cons_zero.{0}/\type_of%@List.getElem?_cons_succ.{0}/\type_of%@decide_eq_true_eq/\type_of%@decide_eq_false_iff_not/\type_of%@decide_true/\type_of%@decide_false/\type_of%@Bool.not_true/\type_of%@Bool.not_false/\type_of%@Zbq/\type_of%@Bool.not_eq_eq_eq_not/\type_of%@List.nil_append.{0}/\type_of%@List.append_nil.{0}/\type_of%@List.cons_append.{0}/\type_of%@and_true/\type_of%@true_and/\type_of%@Za9/\type_of%@Int.toNat_natCast/\type_of%@Zb6/\type_of%@Zb8/\type_of%@Int.toNat_zero/\type_of%@QiW/\type_of%@Qmy/\type_of%@QoD/\type_of%@QiU:=⟨@Qok,@Qqx,@Qol,@Qks,@Qqy,@Qom,@Qma,@Qon,@Qmb,@Qoo,@Qqz,@wX_sq,@Qkt,@QiJ,@QqA,@QiK,@Qhq,@Qgx,@QiV,@QkJ,@ev_t,@ev_c,@ev_f,@QqB,@Qa3,@QjF,@QqC,@QqD,@rm_no,@Qop,@Qku,@Qkv,@Qmc,@Qkw,@Qoq,@Qmd,@Qme,@Qmf,@Qhr,@Qgt,@QqE,@Qmg,@Qor,@Qos,@QqF,@Qot,@Qou,@Qmh,@Qkx,@QqG,@wR_eq,@wR_un,@Qov,@QeD,@Qmj,@Qmk,@Qml,@Qmm,@Qmn,@QiM,@Qky,@Qmo,@QqJ,@Qkz,@Qow,@Qmp,@Qmq,@QiN,@QkA,@Qox,@QqK,@QkB,@Qoy,@Qoz,@Qek,@Qmr,@QqL,@QcD,@Qfh,@QkE,@Qhs,@Qht,@QiO,@QkF,@Qmt,@QkG,@Qhu,@QkH,@QkC,@QkD,@Qh7,@Qh8,@Qh9,@Qia,@Qmu,@Qmv,@QeF,@QeG,@QeH,@QeI,@QeJ,@QeK,@QoB,@QoC,@Qgu,@QiQ,@Qhv,@QiP,@Qgv,@Qmw,@Qmx,@Qgw,@wr_u8,@QqN,@QqO,@QqM,@QqP,@QiR,@QkI,@QiS,@Qhw,@QiT,@Qhx,@Qhy,@Qhz,@List.elem_cons.{0},@List.elem_nil.{0},@Zar,@Bool.true_eq_false,@List.getElem?_cons_zero.{0},@List.getElem?_cons_succ.{0},@decide_eq_true_eq,@decide_eq_false_iff_not,@decide_true,@decide_false,@Bool.not_true,@Bool.not_false,@Zbq,@Bool.not_eq_eq_eq_not,@List.nil_append.{0},@List.append_nil.{0},@List.cons_append.{0},@and_true,@true_and,@Za9,@Int.toNat_natCast,@Zb6,@Zb8,@Int.toNat_zero,@QiW,@Qmy,@QoD,@QiU⟩
theorem wordsN:type_of%@Qmz/\type_of%@Qfi/\type_of%@QeY/\type_of%@QkL/\type_of%@Option.map_some.{0,0}/\type_of%@QjG/\type_of%@wN_go/\type_of%@wB_go/\type_of%@QaE/\type_of%@QaL/\type_of%@QkK/\type_of%@QiX/\type_of%@QkM/\type_of%@QkN/\type_of%@QmA/\type_of%@QkO/\type_of%@QhA/\type_of%@QoF/\type_of%@QoG/\type_of%@QqQ/\type_of%@QoH/\type_of%@QkP/\type_of%@QoI/\type_of%@QqR/\type_of%@QoJ/\type_of%@QkQ/\type_of%@QmB/\type_of%@List.set_cons_zero.{0}/\type_of%@List.set_cons_succ.{0}/\type_of%@List.length_cons.{0}/\type_of%@List.length_nil.{0}/\type_of%@List.all_cons.{0}/\type_of%@List.all_nil.{0}/\type_of%@Zad/\type_of%@Zag/\type_of%@List.drop_zero.{0}/\type_of%@List.drop_succ_cons.{0}/\type_of%@List.take_succ_cons.{0}/\type_of%@List.take_zero.{0}/\type_of%@List.head?_cons.{0}/\type_of%@QkR/\type_of%@Zau/\type_of%@Int.cast_ofNat_Int/\type_of%@Int.natCast_zero/\type_of%@Int.natCast_one:=⟨@Qmz,@Qfi,@QeY,@QkL,@Option.map_some.{0,0},@QjG,@wN_go,@wB_go,@QaE,@QaL,@QkK,@QiX,@QkM,@QkN,@QmA,@QkO,@QhA,@QoF,@QoG,@QqQ,@QoH,@QkP,@QoI,@QqR,@QoJ,@QkQ,@QmB,@List.set_cons_zero.{0},@List.set_cons_succ.{0},@List.length_cons.{0},@List.length_nil.{0},@List.all_cons.{0},@List.all_nil.{0},@Zad,@Zag,@List.drop_zero.{0},@List.drop_succ_cons.{0},@List.take_succ_cons.{0},@List.take_zero.{0},@List.head?_cons.{0},@QkR,@Zau,@Int.cast_ofNat_Int,@Int.natCast_zero,@Int.natCast_one⟩
theorem wordsR:type_of%@QmC/\type_of%@Qa1/\type_of%@get_e/\type_of%@QgA/\type_of%@QiY/\type_of%@QkS/\type_of%@QgB/\type_of%@QfJ/\type_of%@QkT/\type_of%@QhB/\type_of%@QoM/\type_of%@QfK/\type_of%@Int.ofNat_lt/\type_of%@Int.ofNat_le/\type_of%@Int.ofNat_inj/\type_of%@Int.natCast_pos/\type_of%@ZaG/\type_of%@List.length_map.{0,0}/\type_of%@List.length_append.{0}/\type_of%@List.take_length.{0}/\type_of%@Nat.zero_mul/\type_of%@Nat.one_mul/\type_of%@Nat.add_zero/\type_of%@Int.zero_add/\type_of%@ZaD/\type_of%@Int.le_refl/\type_of%@not_true/\type_of%@not_false_iff/\type_of%@Nat.lt_irrefl/\type_of%@Int.lt_irrefl:=⟨@QmC,@Qa1,@get_e,@QgA,@QiY,@QkS,@QgB,@QfJ,@QkT,@QhB,@QoM,@QfK,@Int.ofNat_lt,@Int.ofNat_le,@Int.ofNat_inj,@Int.natCast_pos,@ZaG,@List.length_map.{0,0},@List.length_append.{0},@List.take_length.{0},@Nat.zero_mul,@Nat.one_mul,@Nat.add_zero,@Int.zero_add,@ZaD,@Int.le_refl,@not_true,@not_false_iff,@Nat.lt_irrefl,@Int.lt_irrefl⟩
variable{P:Program}
def FSpec(P:Program)(f:Nat)(args:List AV)(v:AV):Prop:=Callable P f/\noRefs args=true/\noRef v=true/\∀(F:Nat->Prop)(w:World)(a:Array Value),(∀k,F k->k<w.heap.size)->VRels (only (ok:=okc P) F) w args a.toList->Calls P f a w fun e b=>∃c F',e=.returned c/\Evo2 0 (only (ok:=okc P) F) w (only (ok:=okc P) fun k=>F k\/F' k) b/\(∀k,F' k->w.heap.size<=k/\k<b.heap.size)/\VRel (only (ok:=okc P) F') b v c
def RnO(h:Heap)(x y:AV):Prop:=∀(ok:Okc)(c:Ctx ok)(w:World)(v:Value),HRel c h w->VRel c w y v->VRel (only (ok:=ok) c.O) w x v
def RnOL(h:Heap):List AV->List AV->Prop|[],[]=>True|x::xs,y::a=>RnO h x y/\RnOL h xs a|_,_=>False
section
variable{h:Heap}
theorem RnO.flat(hf:flatV x=true):RnO h x x:=fun _ c w v _ a=>VRel.flat _ _ hf a
theorem RnOL.nil:RnOL h [] []:=trivial
theorem RnOL.cons{y}(h1:RnO h x y)(a:RnOL h xs ys):RnOL h (x::xs) (y::ys):=⟨h1,a⟩
theorem RnOL.rels{ok}{c:Ctx ok}(H:HRel c h w):∀{xs ys:List AV}{vs:List Value},RnOL h xs ys->VRels c w ys vs->VRels (only (ok:=ok) c.O) w xs vs|[],[],_,_,b=>by grind[VRels]|[],_::_,_,a,_=>a.elim|_::_,[],_,a,_=>a.elim|x::xs,y::ys,vs,a,b=>by simp only[VRels]at b⊢;obtain⟨v,d,rfl,f,g⟩:=b;exact⟨v,d,rfl,a.1 _ c w v H f,RnOL.rels H a.2 g⟩
theorem RnO.tup(d:RnOL h xs ys):RnO h (.tup xs) (.tup ys):=fun _ c w v H a=>by simp only[VRel]at a⊢;obtain⟨b,rfl,a⟩:=a;exact⟨b,rfl,d.rels H a⟩
theorem RnO.sl{len sz}(p:h.get b=some (.cells g ds))(hf:flatVs ds=true)(n:ds.length=len*sz):RnO h (.fsl ds len sz) (.sl b g 0 len sz):=fun _ c w v H k=>by
 simp only[VRel]at k;rcases k with⟨hp,rfl,_,rfl⟩|⟨x,base,o,cap,C,e,t,hp,rfl,f,l,d⟩;·simp_all[VRel]
 obtain⟨C',A,s,z,a,u,q,m⟩:=H.here p hp;rw[l]at a;cases a;by_cases y:cap=0
 ·have i:len=0:=by omega
  subst i;have:ds=[]:=ZbW (by rw[n];simp);subst this;simp only[VRel];simp_all
 obtain⟨ho,r⟩:=d.resolve_left y;simp only[VRel];exact .inr ⟨x,o,cap,C,e,t,rfl,f,n,z,l,by grind[VPre.flat]⟩
theorem RnO.slm{len k sz}{es}(d:h.get b=some (.cells g ds))(he:es=ds)(c:k=len)(hf:flatVs ds=true)(a:ds.length=len*sz):RnO h (.fsl es k sz) (.sl b g 0 len sz):=by simp_all[RnO.sl]
end
theorem FSpec.of_W2(c:okFn P f sf=true)(s:args.length<=sf.n)(n:noRefs args=true)(q:noRef v=true)(hw:W2 P ⟨sf.n,0⟩ sf.body (fun e B=>(e=.normal\/e=.ret)/\∃vs,resV B.T B.h sf.res=some vs/\RnO B.h v (resOf vs)) ⟨argT 0 args,.e⟩):FSpec P f args v:=by
 obtain⟨_,_,_,_,_,_,_,hc⟩:=Qcn c;refine⟨hc,n,q,fun F w l t n=>(Qdh (R:=fun vs k=>RnO k v (resOf vs)) c s hw (HRel.only t) n).mono ?_⟩;rintro e u⟨o,m,vs,k,rfl,E,H',V,a⟩;have d:∀k,m.O k->w.heap.size<=k:=fun k i=>(E.own k i).elim (fun h=>h.elim) id;refine⟨o,m.O,rfl,?_,fun k i=>⟨d k i,H'.inO k i⟩,a _ m u o H' V⟩;refine⟨E.os,E.tape,E.output,E.size,E.shape,fun k a _=>E.keep k a (fun h=>h),fun b g p r=>absurd r (ZaD _),fun k a=>.inl a,fun k a=>?_,fun k a=>a.elim,rfl⟩;rcases a with a|a;·exact .inl a
 simp_all
theorem FSpec.of_wS(n)(a:okFn P f sf=true)(c:Nat.ble args.length sf.n=true)(d:noRefs args=true)(b:noRef v=true)(hw:wS P ⟨sf.n,0⟩ sf.body [] n (argT 0 args) .e fun e T h _=>(e=.normal\/e=.ret)/\∃vs,resV T h sf.res=some vs/\RnO h v (resOf vs)):FSpec P f args v:=FSpec.of_W2 a (Zaw c) d b ((wpC.toW hw).mono fun e B⟨_,h⟩=>h)
section
variable{h:Heap}
theorem FrzTo.fn{us}(k:FrzL h xs ys)(i:FrzL h us vs):FrzTo h (.fn f xs us) (.fn f ys vs):=fun _ c w v H a=>by simp only[VRel]at a⊢;obtain⟨g,d,rfl,h1,b⟩:=a;exact⟨g,d,rfl,k.rels H h1,i.rels H b⟩
theorem FrzTo.ptr{off}{cs}(r:h.get b=some (.cells g cs))(p:FrzL h (cs.drop off) ys):FrzTo h (.ptr b g off) (.fptr ys):=fun _ c w v H k=>by simp only[VRel]at k;obtain⟨m,base,hp,rfl⟩:=k;obtain⟨C',q,f,o,i,l,n,d⟩:=H.here r hp;have a:=Qbj off d;rw[ZaT]at a;simp only[VRel];exact⟨m,base+off,C',q,f,rfl,.inr o,i,p.pre H a⟩
theorem FrzTo.map{ks:List AV}(f:h.get b=some (.map g es))(k:FrzL h (es.map (·.1)) ks)(p:FrzL h (es.map (·.2)) vs):FrzTo h (.map b g) (.fmap ks vs):=fun _ c w v H d=>by simp only[VRel]at d;obtain⟨o,hp,rfl⟩:=d;obtain⟨ms,clock,q,m,a,n⟩:=H.atMap f hp;obtain⟨r,i,l⟩:=QjA a;have s:=QbY a;simp only[VRel];exact⟨o,ms,clock,rfl,.inr q,m,by simp_all,r,k.rels H i,p.rels H l⟩
theorem HSpec.lend(b:FrzL h args bs)(hp:PSpec P f bs v)(d:flatV v=true):HSpec P f args h v h:=by obtain⟨i,hc,_⟩:=hp.2.2;exact⟨hc,fun c w a H g=>(hp.borrow d H (b.rels H g)).2⟩
theorem HSpec.of_F(r:FrzL h args bs)(hp:FSpec P f bs v):HSpec P f args h v h:=by
 obtain⟨hc,o,m,p⟩:=hp;refine⟨hc,fun c w b H q=>?_⟩;have i:∀k,(c.F k\/c.O k)->k<w.heap.size:=fun k a=>a.elim (H.inF k) (H.inO k);refine(p (fun k=>c.F k\/c.O k) w b i (Zci (c:=lent c) (c':=only fun k=>c.F k\/c.O k) (fun _ h=>h) _ _ o (r.rels H q))).mono ?_;rintro e g⟨l,F',rfl,E,d,V⟩;have a:∀k,k<w.heap.size->g.heap[k]?=w.heap[k]?:=fun k a=>E.keep k a (fun h=>h);obtain⟨E1,H1⟩:=H.grow E.os E.tape E.output E.size a;refine⟨l,{c with F:=fun k=>c.F k\/F' k},rfl,?_,H1.frozen (fun k=>c.F k\/F' k) (fun k a=>.inl a) (fun k a=>?_),Zch (c:=only F') (c':={c with F:=fun k=>c.F k\/F' k}) (fun _ h=>.inr h) _ _ m V⟩;·refine⟨E1.os,E1.tape,E1.output,E1.size,E1.shape,E1.keep,E1.rho,fun k a=>.inl a,fun k a=>?_,E1.own,rfl⟩;grind
 rcases a with a|a;·exact⟨fun n=>H.disj k a n,Za0 (H.inF k a) E.size⟩
 grind
end
end Go.AM
theorem _root_.Go.AM.ZcG:type_of%@Go.AM.RnOL.cons:=@Go.AM.RnOL.cons
theorem _root_.Go.AM.ZcH:type_of%@Go.AM.FrzTo.ptr:=@Go.AM.FrzTo.ptr
theorem _root_.Go.AM.ZcI:type_of%@Go.AM.HSpec.lend:=@Go.AM.HSpec.lend
namespace Go.AM
variable{P:Program}
def noLoop:SCode->Bool|.loop _|.mloop ..=>false|.seq a b=>noLoop a&&noLoop b|.cond _ a b=>noLoop a&&noLoop b|.block _ b=>noLoop b|.rfunc ..=>false|_=>true
theorem wpC.toW1{N}:∀{c:SCode}{n:Nat}{T:Tmps}{h:Heap}{Q:QC},noLoop c=true->wpC P N c n T h Q->W P N.n c (fun e B=>∃n,Q e B.T B.h n) ⟨T,h⟩
 |.skip,n,T,h,Q,_,d=>W.skip ⟨n,d⟩|.ret,n,T,h,Q,_,d=>W.ret ⟨n,d⟩|.exit i,n,T,h,Q,_,d=>W.exit ⟨n,d⟩|.bad,_,_,_,_,_,d=>d.elim|.mloop ..,n,T,h,Q,f,d=>by simp[noLoop]at f|.rfunc ..,n,T,h,Q,f,d=>by simp[noLoop]at f|.loop _,n,T,h,Q,f,d=>by simp[noLoop]at f|.region ops [] dead,n,T,h,Q,_,d=>by have:=wpR.toWR (i:=0) d;exact W.regionR n (this|>fun h=>by simpa using(show _ from(wpC.toW.wr_mono h)))|.region ops (p::r) dead,n,T,h,Q,_,d=>by obtain⟨fs,T',o,h1,m,q⟩:=wpRF.toF (i:=0) d;grind[W.regionF]|.seq a b,n,T,h,Q,f,d=>by simp only[wpC]at d;simp only[noLoop,Zab]at f;refine W.seq ((wpC.toW1 (c:=a) f.1 d).mono ?_);rintro e B⟨k,g⟩;cases e with|normal=>exact wpC.toW1 f.2 g|exit i=>exact⟨k,g⟩|ret=>exact⟨k,g⟩
 |.cond x a b,n,T,h,Q,f,⟨t,l,d⟩=>by
  simp only[noLoop,Zab]at f;refine W.cond l ?_ ?_;·intro e;rw[if_pos e]at d;exact wpC.toW1 f.1 d
  intro e;rw[if_neg (by simp[e])]at d;exact wpC.toW1 f.2 d|.block i b,n,T,h,Q,f,d=>by simp only[wpC]at d;refine W.block ((wpC.toW1 (c:=b) f d).mono ?_);grind
section
variable{N:NM}{n:Nat}{T L:Tmps}{h:Heap}{Q:QC}{fs:List Fr}{b2:Nat}{G:Prop}
end
end Go.AM
namespace Go.AM
variable{P:Program}
section
variable{N:NM}{n:Nat}{d:Option Nat}{af dead:List Nat}{r:List SOper}{T:Tmps}{h:Heap}{Q:QC}{fs:List Fr}
theorem QgC(f:n<1099511627775):wM P N (aMakeMap .dyn n) d r dead fs n T h Q=if h.get n=none then wR P N r dead fs (n+1) (putD T d (.map n 0)) (h.set n (.map 0 [])) Q else False:=by
 have c:Nat.blt n lim=true:=by simp[Nat.blt];unfold lim;omega
 apply propext;constructor;·rintro⟨g,h1,hm,a⟩;unfold aMakeMap HM.new at hm;simp only[HM.run]at hm;cases b:h.get n with|none=>rw[b]at hm;obtain⟨f,hm⟩:=Qa2 hm;simp only[HM.run,Zaa,Zal]at hm;obtain⟨rfl,rfl⟩:=hm;rw[if_pos rfl];exact a|some z=>rw[b]at hm;cases hm
 split;·rename_i b;intro a;refine⟨_,_,?_,a⟩;grind[aMakeMap,HM.new,HM.run]
 simp_all
def keyM(k:IntKind)(v:AV)(l:List Nat):List (AV×AV):=l.map fun x:Nat=>(.int k (x:Int),v)
theorem RnM.keyM{m}{π}{h}{k}{v}(a:noRef v=true):∀{l:List Nat},RnM m π h (keyM k v l) (keyM k v l)|[]=>trivial|x::l=>⟨⟨Zck rfl,Zck a⟩,RnM.keyM a (l:=l)⟩
end
theorem wordsM:AV.nilmap.boxable=true/\AV.nilmap.cells=[.nilmap]/\(∀b g,(AV.map b g).cells=[.map b g])/\(∀b g,(AV.map b g).one=true)/\(∀b g,(AV.map b g).boxable=true)/\AV.nilmap.one=true:=⟨rfl,rfl,fun _ _=>rfl,fun _ _=>rfl,fun _ _=>rfl,rfl⟩
theorem HSpec.QuZ{f m:Nat}{sf}{args}{L0 L}{v}(n)(c:okFn P f sf=true)(l:Nat.ble args.length sf.n=true)(hm:(Nat.ble m 1099511627775&&L0.all fun p=>Nat.blt p.1 m)=true)(o:noRef v=true)(hw:wS P ⟨sf.n,m⟩ sf.body [] n (argT 0 args) (hp L0) fun e T k _=>(e=.normal\/e=.ret)/\∃vs,resV T k sf.res=some vs/\resOf vs=v/\Rec m [] L T k):HSpec P f args (hp L0) v (hp L):=by
 simp only[Zab,Nat.ble_eq]at hm;refine HSpec.of_W2 c (Zaw l) (fun b d=>?_) ((wpC.toW hw).mono ?_)
 ·have :∀M:HL,M.all (fun p=>Nat.blt p.1 m)=true->(hp M).get b=none:=by intro M;induction M with|nil=>intro _;exact get_e|cons q M h=>obtain⟨j,x⟩:=q;intro i;simp only[Zb3,Zab,Nat.blt,Nat.ble_eq]at i;rw[Qa1,QaL (by omega) (by omega)];exact h (by grind[Nat.blt])
  grind
 rintro e B⟨s,h1,vs,g,t,u,ho,a,d,r⟩;exact⟨h1,vs,_,g,Rec.maps ho d,Rec.heap ho d,Rec.dom ho a,by simp_all[Zck]⟩
end Go.AM
theorem _root_.Go.AM.ZcJ:type_of%@Go.AM.RnM.keyM:=@Go.AM.RnM.keyM
namespace Go.AM
variable{P:Program}
variable{a b c:Int}{d k:IntKind}{cs:List AV}{g:Nat}
section
variable{N:NM}{n:Nat}{d:Option Nat}{dead:List Nat}{r:List SOper}{T:Tmps}{h:Heap}{Q:QC}{fs:List Fr}
theorem QhC{sz bytes len b2 b a}:wM P N (aAppend .dyn n sz bytes (.sl b2 g b a sz) (.fsl cs len sz)) d r dead fs n T h Q=wA P N (srcB (h.get b2) g b a sz) (some cs) g a len sz bytes b2 d r dead fs n T h Q:=by
 exact bIzzM
theorem Qe9{sz bytes b2 b a}:wM P N (aAppend .dyn n sz bytes (.sl b2 g b a sz) .nilsl) d r dead fs n T h Q=wA P N (srcB (h.get b2) g b a sz) (some []) g a 0 sz bytes b2 d r dead fs n T h Q:=by
 exact bIzzM
end
theorem QhD{len sz}:aSliceC (some sz) (.fsl cs len sz) (some (.int k a)) none none=if 0<=a/\a<=len then some (.fsl ((cs.drop (a.toNat*sz)).take ((len-a.toNat)*sz)) (len-a.toNat) sz)else none:=by simp_all[aSliceC,aSlice,bnd]
theorem QhE{len sz}:aSliceC (some sz) (.fsl cs len sz) none (some (.int k b)) none=if 0<=b/\b<=len then some (.fsl (cs.take (b.toNat*sz)) b.toNat sz)else none:=by simp_all[aSliceC,aSlice,bnd]
theorem QhF{len sz}{c}:aSliceC (some sz) (.fsl cs len sz) (some (.int k a)) (some (.int c b)) none=if 0<=a/\a<=b/\b<=len then some (.fsl ((cs.drop (a.toNat*sz)).take ((b.toNat-a.toNat)*sz)) (b.toNat-a.toNat) sz)else none:=by simp_all[aSliceC,aSlice,bnd]
theorem QiZ{b off len sz}:aSliceC (some sz) (.sl b g off len sz) (some (.int k a)) none none=if 0<=a/\a<=len then some (.sl b g (off+a.toNat*sz) (len-a.toNat) sz)else none:=by simp_all[aSliceC,aSlice,bnd]
theorem Qi0{b off len sz}:aSliceC (some sz) (.sl b g off len sz) none (some (.int k c)) none=if 0<=c/\c<=len then some (.sl b g off c.toNat sz)else none:=by simp_all[aSliceC,aSlice,bnd]
theorem Qi1{b off len sz}:aSliceC (some sz) (.sl b g off len sz) (some (.int k a)) (some (.int d c)) none=if 0<=a/\a<=c/\c<=len then some (.sl b g (off+a.toNat*sz) (c.toNat-a.toNat) sz)else none:=by simp_all[aSliceC,aSlice,bnd]
end Go.AM
namespace Go.AM
variable{P:Program}
variable{v y:AV}{f:FP}{h h1:Heap}{ps:List (Nat×Nat)}{fs:List Fr}{ks:List LK}{a bs d dead o:List Nat}{ops:List SOper}{N:NM}{b g i off:Nat}{x:Nat->Blk}{B:Nat->Prop}{p:Nat×Nat}{n:Option Nat}{Q:QC}{s:SOper}{T T0:Tmps}{α:Type}{R:α->Prop}
def HM.tch{α}(B:Nat->Prop):HM α->Prop|.ret _=>True|.fail=>True|.look b k=>B b/\∀x,(k x).tch B|.put b _ k=>B b/\k.tch B
variable{m:HM AV}{k:List AV->Nat->HM AV}
theorem HM.Qu0(m:HM α):m.tch B->∀h b,b∈(m.fp h).1\/b∈(m.fp h).2->B b:=by induction m with
 |ret a=>intro _ h b c;simp[HM.fp]at c|fail=>intro _ h b c;simp[HM.fp]at c|look b k g=>
  rintro⟨h1,f⟩h d c;simp only[HM.fp,Zax]at c;rcases c with(rfl|c)|c;·exact h1
  ·grind
  grind|put b x k g=>
  rintro⟨h1,f⟩h d c;simp only[HM.fp,Zax]at c;rcases c with c|rfl|c;·grind
  ·exact h1
  grind
theorem HM.QsH{β}{m:HM α}{f:α->HM β}(h1:m.tch B)(d:∀a,(f a).tch B):(m.bind f).tch B:=by induction m with|ret a=>exact d a|fail=>trivial|look b k c=>exact⟨h1.1,fun x=>c x (h1.2 x)⟩|put b x k c=>exact⟨h1.1,c h1.2⟩
theorem QoN(o:Option α):(HM.opt o).tch B:=by cases o<;>trivial
theorem QdZ{k:List AV->HM α}(d:B b)(a:∀cs,(k cs).tch B):(HM.cells b g k).tch B:=by refine⟨d,fun x=>?_⟩;match x with
 |some (.cells c cs)=>simp only;cases Nat.beq c g<;>first|exact trivial|exact a cs
 |some (.map _ _)=>trivial|some (.dead _)=>trivial|some (.loop ..)=>trivial|none=>trivial
theorem QjI{k:Nat->Nat->HM α}(a:B i)(c:∀b g,(k b g).tch B):(HM.new .dyn i x k).tch B:=by refine⟨a,fun y=>?_⟩;match y with|none=>exact⟨a,c _ _⟩|some z=>trivial
def blks:AV->Option (List Nat)|.ptr b _ _=>some [b]|.sl b _ _ _ _=>some [b]|.map b _=>some [b]|.any=>none|.agg _=>none|.tup []=>some []|.tup _=>none|.fn _ _ _=>none|.ifc _ _=>none|.typed _ _ _=>none|_=>some []
def Pts(v:AV)(bs:List Nat):Prop:=∃cs,blks v=some cs/\∀b∈cs,b∈bs
abbrev Abs:=List (Nat×Option (List Nat))
variable{A:Abs}
def absT(T:Tmps):Abs->Nat->Option (List Nat)|[],i=>blks (lk T i)|(j,a)::r,i=>bif Nat.beq j i then a else absT T r i
def absO(T:Tmps)(A:Abs):Opd->Option (List Nat)|.t i=>absT T A i|.c v=>blks v|_=>none
def SOp.absV(i:Nat)(ax:Opd->Option (List Nat)):SOp->Option (List Nat)|.mov x=>ax x|.slice _ x _ _ _=>ax x|.iaddr _ _ x _=>ax x|.faddr _ x=>ax x|.alloc .dyn _=>some [i]|.box .dyn _=>some [i]|.bslice false .dyn _ _ _ _=>some [i]|.mkslice .dyn _ _ _ _ _=>some [i]|.mkmap .dyn=>some [i]|.append .dyn _ _ x _=>(ax x).map fun a=>i::a|_=>none
def SOp.touch(i:Nat)(ax:Opd->Option (List Nat)):SOp->Option (List Nat)
 |.load _ x=>ax x|.store _ x _=>ax x|.len _ x=>ax x|.alloc .dyn _=>some [i]|.box .dyn _=>some [i]|.bslice _ .dyn _ _ _ _=>some [i]|.mkslice .dyn _ _ _ _ _=>some [i]|.mkmap .dyn=>some [i]|.append .dyn _ _ x y=>match ax x,ax y with|some a,some b=>some (i::(a++b))|_,_=>none
 |.copy _ x y=>match ax x,ax y with|some a,some b=>some (a++b)|_,_=>none
 |.lookup _ _ _ _ x _=>ax x|.mupd _ _ x _ _=>ax x|s=>bif Nat.beq s.cls 0 then some []else none
def touches(n:Nat)(T:Tmps):List SOper->Abs->List (Option (List Nat))|[],_=>[]|s::r,A=>s.op.touch n (absO T A)::touches (n+1) T r (match s.dst with|some d=>(d,s.op.absV n (absO T A))::A|none=>A)
def pairsOK(c:List (Option (List Nat)))(d:List (Nat×Nat)):Bool:=d.all fun p=>match c.getD p.1 none,c.getD p.2 none with|some a,some b=>a.all fun x=>!b.elem x|_,_=>false
section
variable{i:Nat}{T:Tmps}{ax:Opd->Option (List Nat)}{B:Nat->Prop}
theorem QsI(h:Pts v bs):(aLoad n v).tch (·∈bs):=by
 obtain⟨cs,h1,a⟩:=h;unfold aLoad;split
 ·simp only[blks,Zaa]at h1;subst h1;refine QdZ (a _ (by simp)) fun cs=>?_;split;·exact QoN _
  split<;>trivial
 ·split;·exact QoN _
  split<;>trivial
 trivial
theorem QqU{n}{u}(h:Pts v bs):(aStore n v u).tch (·∈bs):=by
 obtain⟨cs,h1,b⟩:=h;unfold aStore;split
 ·simp only[blks,Zaa]at h1;subst h1;have a:=b _ (ZaS.2 rfl);refine QdZ a fun cs=>?_;split;·exact⟨a,trivial⟩
  trivial
 trivial
theorem QtL{k}(h:Pts v bs):(aLenC k v).tch (·∈bs):=by
 obtain⟨cs,h1,a⟩:=h;unfold aLenC;split
 ·unfold aLen;split<;>try trivial
  simp only[blks,Zaa]at h1;subst h1;refine⟨a _ (by simp),fun y=>?_⟩;match y with|some (.map b es)=>simp only;generalize Nat.beq b _=t;cases t<;>trivial|some (.cells _ _)=>trivial|some (.dead _)=>trivial|some (.loop ..)=>trivial|none=>trivial
 trivial
theorem Qg4{sz}(h:Pts v bs)(c:∀b∈bs,B b)(a:∀ys n,(k ys n).tch B):(aSrc sz v k).tch B:=by
 obtain⟨cs,h1,d⟩:=h;unfold aSrc;split
 ·simp only[blks,Zaa]at h1;subst h1;split
  ·refine QdZ (c _ (d _ (by simp))) fun cs=>?_;split;·exact a _ _
   trivial
  trivial
 ·split;·exact a _ _
  trivial
 ·exact a _ _
 ·exact a _ _
 ·exact a _ _
 ·split;·exact a _ _
  trivial
 trivial
theorem QpL{sz bytes}{x}{b}(g:Pts x a)(f:Pts y b):(aAppend .dyn i sz bytes x y).tch (·∈i::(a++b)):=by
 unfold aAppend;refine Qg4 f (fun c hc=>by simp[hc]) fun k n=>?_;split
 ·obtain⟨cs,h1,h⟩:=g;split
  ·split;·trivial
   exact QjI (by simp) fun _ _=>trivial
  ·split;·trivial
   exact QjI (by simp) fun _ _=>trivial
  ·split<;>trivial
  ·simp only[blks,Zaa]at h1;subst h1;have d:=h _ (ZaS.2 rfl);split
   ·refine QdZ (by simp[d]) fun cs=>?_;split;·exact⟨by simp[d],trivial⟩
    trivial
   trivial
  ·simp[blks]at h1
  trivial
 trivial
theorem QsJ{sz}{x}{b}(h:Pts x a)(d:Pts y b):(aCopy sz x y).tch (·∈a++b):=by
 obtain⟨cs,h1,i⟩:=h;unfold aCopy;split
 ·simp only[blks,Zaa]at h1;subst h1;have f:=i _ (ZaS.2 rfl);split
  ·refine Qg4 d (fun c hc=>by simp[hc]) fun g n=>?_;refine QdZ (by simp[f]) fun cs=>?_;split;·exact⟨by simp[f],trivial⟩
   trivial
  trivial
 ·exact Qg4 d (fun c hc=>by simp[hc]) fun g n=>trivial
 ·exact Qg4 d (fun c hc=>by simp[hc]) fun g n=>trivial
 trivial
theorem QhG{k:List (AV×AV)->HM α}(d:B b)(a:∀es,(k es).tch B):(HM.entries b g k).tch B:=by refine⟨d,fun x=>?_⟩;match x with
 |some (.map c es)=>simp only;cases Nat.beq c g<;>first|exact trivial|exact a es
 |some (.cells _ _)=>trivial|some (.dead _)=>trivial|some (.loop ..)=>trivial|none=>trivial
theorem QpM{row ok}{z x k}(h:Pts x bs):(aLookup row ks z ok x k).tch (·∈bs):=by
 obtain⟨cs,h1,a⟩:=h;unfold aLookup;split
 ·split;·trivial
  ·simp only[blks,Zaa]at h1;subst h1;refine QhG (a _ (by simp)) fun es=>?_;split<;>trivial
  ·split<;>trivial
  trivial
 trivial
theorem QsK{row}{x k}(h:Pts x bs):(aMapUpd row ks x k v).tch (·∈bs):=by
 obtain⟨cs,h1,b⟩:=h;unfold aMapUpd;split
 ·split
  ·simp only[blks,Zaa]at h1;subst h1;have a:=b _ (ZaS.2 rfl);refine QhG a fun es=>?_;split;·exact⟨a,trivial⟩
   ·exact⟨a,trivial⟩
   trivial
  trivial
 trivial
theorem QbU(h:m.tch B):(hval m).tch B:=HM.QsH h fun _=>trivial
theorem QsL{s}(d:∀x bs,ax x=some bs->Pts (ev T x) bs)(h:s.touch i ax=some o):s.cls≠0->(aop i T s).tch (·∈o)/\∀m x f,s≠.call m x f:=by
 intro p;have new1:∀{x:Nat->Blk}{r:Nat->Nat->AV},(HM.new .dyn i x fun b g=>.ret (r b g)).tch (·∈[i]):=fun{x r}=>QjI (by simp) fun _ _=>trivial;cases s<;>try(exact absurd rfl p)
 ·exact bm92B
 ·simp only[SOp.touch,SOp.cls,show Nat.beq 2 0=false from rfl,cond_false,reduceCtorEq]at h
 ·exact bm92B
 ·rename_i fz s sz len z q;cases s<;>simp only[SOp.touch,SOp.cls,show Nat.beq 2 0=false from rfl,cond_false,reduceCtorEq,Zaa]at h;subst h;refine⟨QbU ?_,fun _ _ _=>by simp⟩;unfold aBuildSlice;split
  ·split
   ·split;·split<;>trivial
    exact new1
   trivial
  trivial
 ·exact⟨QbU (QsI (d _ _ h)),fun _ _ _=>by simp⟩
 ·exact⟨QbU (QqU (d _ _ h)),fun _ _ _=>by simp⟩
 ·simp only[SOp.touch,SOp.cls,show Nat.beq 1 0=false from rfl,cond_false,reduceCtorEq]at h
 ·simp only[SOp.touch,SOp.cls,show Nat.beq 2 0=false from rfl,cond_false,reduceCtorEq]at h
 ·simp only[SOp.touch,SOp.cls,show Nat.beq 2 0=false from rfl,cond_false,reduceCtorEq]at h
 ·simp only[SOp.touch,SOp.cls,show Nat.beq 2 0=false from rfl,cond_false,reduceCtorEq]at h
 ·simp only[SOp.touch,SOp.cls,show Nat.beq 2 0=false from rfl,cond_false,reduceCtorEq]at h
 ·simp only[SOp.touch,SOp.cls,show Nat.beq 2 0=false from rfl,cond_false,reduceCtorEq]at h
 ·simp only[SOp.touch,SOp.cls,show Nat.beq 2 0=false from rfl,cond_false,reduceCtorEq]at h
 ·simp only[SOp.touch,SOp.cls,show Nat.beq 1 0=false from rfl,cond_false,reduceCtorEq]at h
 ·rename_i s;cases s<;>simp only[SOp.touch,SOp.cls,show Nat.beq 2 0=false from rfl,cond_false,reduceCtorEq,Zaa]at h;subst h;exact⟨QbU new1,fun _ _ _=>by simp⟩
 ·rename_i s sz b z l c;cases s<;>simp only[SOp.touch,SOp.cls,show Nat.beq 2 0=false from rfl,cond_false,reduceCtorEq,Zaa]at h;subst h;refine⟨QbU ?_,fun _ _ _=>by simp⟩;unfold aMakeSlice;split
  ·split;·exact new1
   trivial
  trivial
 ·exact⟨QbU (QpM (d _ _ h)),fun _ _ _=>by simp⟩
 ·exact⟨QbU (QsK (d _ _ h)),fun _ _ _=>by simp⟩
 ·exact⟨QbU (QtL (d _ _ h)),fun _ _ _=>by simp⟩
 ·rename_i s sz b x y;cases s<;>simp only[SOp.touch,SOp.cls,show Nat.beq 2 0=false from rfl,cond_false,reduceCtorEq]at h;split at h;·rename_i a b n k;cases h;exact⟨QbU (QpL (d _ _ n) (d _ _ k)),fun _ _ _=>by simp⟩
  cases h
 ·rename_i sz x y;simp only[SOp.touch]at h;split at h;·rename_i a b n k;cases h;exact⟨QbU (QsJ (d _ _ n) (d _ _ k)),fun _ _ _=>by simp⟩
  cases h
 rename_i m x f;exfalso;simp only[SOp.touch]at h;have:Nat.beq (SOp.call m x f).cls 0=false:=by cases m<;>rfl
 simp_all
theorem QhH(k:∀x bs,ax x=some bs->Pts (ev T x) bs)(q:s.op.touch i ax=some d)(n:StepV P i s T h v h1 f):f.all=false/\∀b,b∈f.R\/b∈f.W->b∈d:=by
 by_cases t:s.op.cls=0;·obtain⟨B,y,z⟩:=n.cls (by omega);simp_all
 obtain⟨p,o⟩:=QsL k q t;have key:∀{g:SOp},g=s.op->StepX P i g T h v h1 f->f.all=false/\∀b,b∈f.R\/b∈f.W->b∈d:=by
  rintro g rfl⟨out,E,hm,ho⟩;have fin:f=fpOf ((aop i T s.op).fp h)->f.all=false/\∀b,b∈f.R\/b∈f.W->b∈d:=by rintro rfl;exact⟨rfl,fun b w=>HM.Qu0 _ p h b w⟩
  match out,ho with
  |.val u,ho=>exact fin ho.2.2|.call .pure l args,ho=>exact fin ho.2.2|.call .borrow l args,ho=>exact fin ho.2.2.2|.call .heap l args,ho=>exfalso;cases a:s.op with|call m x c=>exact o m x c a|_=>rw[a]at hm;first|(obtain⟨u,hu,he⟩:=QaV hm;cases he)|(obtain⟨u,r,hu,he⟩:=QaS hm;cases he)|(simp[aop,HM.run]at hm)
  |.round A C args,ho=>exfalso;cases a:s.op with|call m x c=>exact o m x c a|_=>rw[a]at hm;first|(obtain⟨u,hu,he⟩:=QaV hm;cases he)|(obtain⟨u,r,hu,he⟩:=QaS hm;cases he)|(simp[aop,HM.run]at hm)
 unfold StepV at n;grind
theorem Pts.slice{x}{l h m}(f:Pts x bs)(a:aSliceC n x l h m=some v):Pts v bs:=by
 obtain⟨cs,h1,c⟩:=f;have key:aSlice x l h m=some v->Pts v bs:=by
  intro a;unfold aSlice at a;have nil:∀{v:AV},blks v=some []->Pts v bs:=fun h=>⟨[],h,fun b d=>by cases d⟩;split at a;·cases a
  split at a
  ·split at a
   ·split at a;·split at a<;>first|(cases a;exact nil rfl)|cases a
    split at a<;>first|(split at a<;>first|(cases a;first|exact⟨cs,h1,c⟩|exact nil rfl)|cases a)|cases a
   cases a
  ·cases a
  split at a
  ·split at a;·cases a
   split at a;·cases a;exact⟨cs,h1,c⟩
   cases a
  ·split at a;·cases a
   split at a;·cases a;exact nil rfl
   cases a
  ·split at a;·cases a
   split at a;·cases a;exact nil rfl
   cases a
  ·split at a;·cases a
   split at a;·cases a;exact nil rfl
   cases a
  ·split at a;·cases a
   split at a;·cases a;exact nil rfl
   cases a
  cases a
 unfold aSliceC at a;grind
theorem Pts.iaddr{a}{sz}{x j}(f:Pts x bs)(c:aIAddr a sz x j=some v):Pts v bs:=by
 obtain⟨cs,h1,g⟩:=f;have nil:∀{v:AV},blks v=some []->Pts v bs:=fun h=>⟨[],h,fun b d=>by cases d⟩;unfold aIAddr at c;split at c;·split at c<;>first|(split at c<;>first|(cases c;first|exact⟨cs,h1,g⟩|exact nil rfl)|cases c)|cases c
 cases c
theorem Pts.faddr{x}(d:Pts x bs)(a:aFAddr off x=some v):Pts v bs:=by
 obtain⟨cs,h1,f⟩:=d;have nil:∀{v:AV},blks v=some []->Pts v bs:=fun h=>⟨[],h,fun b c=>by cases c⟩;unfold aFAddr at a;split at a;·cases a;exact⟨cs,h1,f⟩
 ·cases a;exact nil rfl
 ·simp[blks]at h1
 cases a
def HM.gives{α}(R:α->Prop):HM α->Prop|.ret a=>R a|.fail=>True|.look _ k=>∀x,(k x).gives R|.put _ _ k=>k.gives R
theorem HM.QqV(m:HM α):m.gives R->∀h a h1,m.run h=some (a,h1)->R a:=by induction m with|ret a=>intro c h b h1 hm;simp only[HM.run,Zaa,Zal]at hm;rw[<-hm.1];exact c|fail=>intro _ h b h1 hm;simp[HM.run]at hm|look b k d=>intro c h a h1 hm;exact d _ (c _) h a h1 hm|put b x k d=>intro c h a h1 hm;exact d c _ a h1 (Qa2 hm).2
theorem QhI{k:List AV->HM α}(a:∀cs,(k cs).gives R):(HM.cells b g k).gives R:=by intro x;match x with
 |some (.cells c cs)=>simp only;cases Nat.beq c g<;>first|exact trivial|exact a cs
 |some (.map _ _)=>trivial|some (.dead _)=>trivial|some (.loop ..)=>trivial|none=>trivial
theorem QcF{k}(a:(k i 0).gives R):(HM.new .dyn i x k).gives R:=by intro y;match y with|none=>exact a|some z=>trivial
theorem QqW{R}{sz}(a:∀ys n,(k ys n).gives R):(aSrc sz v k).gives R:=by
 unfold aSrc;split
 ·split
  ·refine QhI fun cs=>?_;split;·exact a _ _
   trivial
  trivial
 ·split;·exact a _ _
  trivial
 ·exact a _ _
 ·exact a _ _
 ·exact a _ _
 ·split;·exact a _ _
  trivial
 trivial
theorem QmF{sz bytes}{x}(d:Pts x a):(aAppend .dyn i sz bytes x y).gives fun v=>Pts v (i::a):=by
 have nil:∀{v:AV},blks v=some []->Pts v (i::a):=fun h=>⟨[],h,fun b c=>by cases c⟩;unfold aAppend;refine QqW fun g n=>?_;split
 ·obtain⟨cs,h1,f⟩:=d;split
  ·split;·exact nil rfl
   exact QcF ⟨_,rfl,fun b c=>by simp_all⟩
  ·split;·exact nil rfl
   exact QcF ⟨_,rfl,fun b c=>by simp_all⟩
  ·split;·exact nil rfl
   trivial
  ·simp only[blks,Zaa]at h1;subst h1;split
   ·refine QhI fun cs=>?_;split;·exact⟨_,rfl,fun b c=>List.mem_cons_of_mem _ (f b c)⟩
    trivial
   trivial
  ·simp[blks]at h1
  trivial
 trivial
theorem Qd8(g:∀x bs,ax x=some bs->Pts (ev T x) bs)(d:s.op.absV i ax=some bs)(k:StepV P i s T h v h1 f):Pts v bs:=by
 have self:∀{v:AV},blks v=some [i]->Pts v [i]:=fun h=>⟨_,h,fun b r=>r⟩;have key:∀{p:SOp},p.absV i ax=some bs->StepX P i p T h v h1 f->Pts v bs:=by
  rintro p d⟨out,B,hm,ho⟩;have n:∀{m:HM AV},aop i T p=hval m->(m.gives fun v=>Pts v bs)->Pts v bs:=by grind[QaS,HM.QqV]
  have q:∀{o:Option AV},aop i T p=lift o->(∀u,o=some u->Pts u bs)->Pts v bs:=by grind[QaV]
  cases p<;>try(simp only[SOp.absV,reduceCtorEq]at d;done)
  ·simp only[aop,HM.run,Zaa,Zal]at hm;obtain⟨rfl,rfl⟩:=hm;rw[ho.1];exact g _ _ d
  ·exact bZ6zp
  ·exact bZ6zp
  ·rename_i fz s sz len z A;cases fz<;>cases s<;>simp only[SOp.absV,reduceCtorEq,Zaa]at d;subst d;refine n rfl ?_;unfold aBuildSlice;split
   ·split;·rw[if_neg (by simp)];exact QcF (self rfl)
    trivial
   trivial
  ·rename_i s;cases s<;>simp only[SOp.absV,reduceCtorEq,Zaa]at d;subst d;exact n rfl (QcF (self rfl))
  ·rename_i s sz b z l c;cases s<;>simp only[SOp.absV,reduceCtorEq,Zaa]at d;subst d;refine n rfl ?_;unfold aMakeSlice;split
   ·split;·exact QcF (self rfl)
    trivial
   trivial
  ·exact q rfl fun u hu=>(g _ _ d).slice hu
  ·exact q rfl fun u hu=>(g _ _ d).faddr hu
  ·exact q rfl fun u hu=>(g _ _ d).iaddr hu
  rename_i s sz b x y;cases s<;>simp only[SOp.absV,reduceCtorEq,Option.map_eq_some_iff]at d;obtain⟨a,w,rfl⟩:=d;exact n rfl (QmF (g _ _ w))
 unfold StepV at k;split at k;·exact key d k
 obtain⟨t,_,k⟩:=k;split at k;·exact key d k
 obtain⟨rfl,_⟩:=k;exact⟨[],rfl,fun b r=>by cases r⟩
end
def AbsOK(T0:Tmps)(A:Abs)(T:Tmps):Prop:=∀j a,absT T0 A j=some a->Pts (lk T j) a
theorem AbsOK.opd(h:AbsOK T0 A T):∀x bs,absO T0 A x=some bs->Pts (ev T x) bs:=by intro x bs a;cases x with|t i=>exact h i bs a|c v=>exact⟨bs,a,fun b c=>c⟩|f n=>cases a|g n=>cases a
theorem AbsOK.nil:AbsOK T [] T:=fun j c h=>⟨c,h,fun b a=>a⟩
theorem AbsOK.up{d}{a}(h:AbsOK T0 A T)(c:∀bs,a=some bs->Pts v bs):AbsOK T0 ((d,a)::A) (up T d v):=by
 intro j bs b;rw[lk_up];simp only[absT]at b;by_cases e:d=j;·simp_all
 have :Nat.beq d j=false:=by simp_all[ZaJ]
 rw[this]at b;rw[if_neg (fun h=>e h.symm)];exact h j bs b
theorem QoO:∀{r:List SOper}{n:Nat}{A:Abs}{T:Tmps}{h:Heap}{K:Tmps->Heap->Nat->Prop}(hA:AbsOK T0 A T)(K':List FP->Tmps->Heap->Nat->Prop),(∀fs T h n',fs.length=r.length->(∀(j:Nat)a,(touches n T0 r A).getD j none=some a->(fs.getD j ⟨false,[],[]⟩).all=false/\∀b,b∈(fs.getD j ⟨false,[],[]⟩).R\/b∈(fs.getD j ⟨false,[],[]⟩).W->b∈a)->K T h n'->K' fs T h n')->wpR P n r T h K->wpRF P n r T h K'
 |[],n,A,T,h,K,hA,K',g,hw=>g [] T h n rfl (fun j a c=>by simp_all) hw|s::r,n,A,T,h,K,hA,K',g,hw=>by
  obtain⟨v,h1,f,i,m⟩:=hw;refine⟨v,h1,f,i,?_⟩;have k:AbsOK T0 (match s.dst with|some d=>(d,s.op.absV n (absO T0 A))::A|none=>A) (putD T s.dst v):=by cases s.dst with|none=>exact hA|some d=>exact AbsOK.up hA fun q l=>Qd8 hA.opd l i
  refine QoO k (fun fs T h n=>K' (f::fs) T h n) (fun fs T h n' p hf o=>?_) m;refine g (f::fs) T h n' (by simp[p]) (fun j a c=>?_) o;cases j with|zero=>simp only[touches,List.getD_cons_zero]at c⊢;exact QhH hA.opd c i|succ j=>simp only[touches,List.getD_cons_succ]at c⊢;exact hf j a c
inductive PairsOK(n:Nat)(T:Tmps)(ops:List SOper)(ps:List (Nat×Nat)):Prop|mk(h:pairsOK (touches n T ops []) ps=true)
theorem Qi2{n}(hp:PairsOK n T ops (p::ps)):wS P N (.region ops (p::ps) dead) fs n T h Q=wR P N ops dead fs n T h Q:=by
 obtain⟨hp⟩:=hp;apply propext;constructor
 ·intro hw;have:∀{r:List SOper}{n:Nat}{T:Tmps}{h:Heap}{K:List FP->Tmps->Heap->Nat->Prop}{K':Tmps->Heap->Nat->Prop},(∀fs T h n,K fs T h n->K' T h n)->wpRF P n r T h K->wpR P n r T h K':=by intro r;induction r with|nil=>intro n T h K K' hK hw;exact hK _ _ _ _ hw|cons s r ih=>rintro n T h K K' hK⟨v,h1,f,hs,hr⟩;exact⟨v,h1,f,hs,ih (fun fs T h n hk=>hK _ _ _ _ hk) hr⟩
  exact this (fun fs' T h n hk=>hk.2) hw
 ·intro hw;refine QoO AbsOK.nil _ (fun fs' T h n' hl hf hk=>⟨?_,hk⟩) hw;rw[ZaH];intro q hq;have:=ZaH.1 hp q hq;split at this
  ·rename_i a b ha hb;obtain⟨f1,f2⟩:=hf _ _ ha;obtain⟨g1,g2⟩:=hf _ _ hb;have hd:∀x y,x∈a->y∈b->x≠y:=by grind
   have dj:∀xs ys:List Nat,(∀x∈xs,∀y∈ys,x≠y)->disj xs ys=true:=by intro xs ys hh;unfold disj;grind
   grind[FP.apart]
  ·cases this
theorem FrzL.nil:FrzL h [] []:=trivial
theorem FrzL.cons{x}{xs ys}(h1:FrzTo h x y)(a:FrzL h xs ys):FrzL h (x::xs) (y::ys):=⟨h1,a⟩
end Go.AM
theorem _root_.Go.AM.ZcK:type_of%@Go.AM.FrzL.nil:=@Go.AM.FrzL.nil
theorem _root_.Go.AM.ZcL:type_of%@Go.AM.FrzL.cons:=@Go.AM.FrzL.cons
namespace Go.AM
variable{P:Program}
variable{v:AV}{x:Blk}{L r:HL}{h:Heap}{args:List AV}{b f k:Nat}{sf:SFn}
def setL:HL->Heap->Heap|[],h=>h|(k,x)::r,h=>(setL r h).set k x
theorem QmG:setL [] h=h:=rfl
theorem QkU:setL ((k,x)::r) h=(setL r h).set k x:=rfl
theorem QmH(hf:Fresh b h):∀{L:HL},(L.all fun p=>Nat.ble b p.1&&Nat.blt p.1 1099511627775)=true->∀k,(setL L h).get k=if k<b then h.get k else(hp L).get k
 |[],_,k=>by
  simp only[setL,hp];split;·rfl
  rw[hf k (by omega),get_e]|(j,x)::r,a,k=>by
  simp only[Zb3,Zab,Nat.ble_eq,ZbT]at a;obtain⟨⟨h1,d⟩,c⟩:=a;have f:=QmH hf (L:=r) (by simpa using c) k;simp only[setL,hp];by_cases e:k=j;·simp_all[QaE,if_neg]
  simp_all[QaL]
theorem HSpec.of_O(hn:noRefs args=true)(Q:HSpec P f args .e v (hp L))(hf:Fresh b h)(Y:(L.all fun p=>Nat.ble b p.1&&Nat.blt p.1 1099511627775)=true):HSpec P f args h v (setL L h):=by
 obtain⟨hc,Q⟩:=Q;refine⟨hc,fun c w z H ha=>?_⟩;refine(Q (only c.F) w z (HRel.only H.inF) (Zci (c:=c) (c':=only c.F) (fun _ h=>h) _ _ hn ha)).mono ?_;rintro e G⟨cv,n,rfl,E,H',V⟩;have i:∀k,n.O k->w.heap.size<=k:=fun k d=>(E.own k d).elim (fun h=>h.elim) id;have m:∀k,n.F k->c.F k\/w.heap.size<=k:=fun k B=>(E.frzNew k B).elim .inl fun h=>h.elim (fun h=>h.elim) .inr;have l:∀k,k<w.heap.size->G.heap[k]?=w.heap[k]?:=fun k a=>E.keep k a (fun h=>h);have J:=QmH hf Y;have X:∀k,(hp L).get k≠none->b<=k:=fun k a=>by
  rcases ZbG k b with h1|h1
  ·exfalso;apply a;have:∀{M:HL},(M.all fun p=>Nat.ble b p.1&&Nat.blt p.1 1099511627775)=true->(hp M).get k=none:=by intro M;induction M with|nil=>intro _;exact get_e|cons q M ih=>obtain⟨j,x⟩:=q;intro Z;simp only[Zb3,Zab,Nat.ble_eq,ZbT]at Z;rw[Qa1,QaL Z.1.2 (by omega)];exact ih (by grind)
   exact this Y
  exact h1
 have R:∀k g,k<b->n.ρ k g=none:=fun k g a=>by
  have:(hp L).get k=none:=by grind
  exact H'.fresh k this g
 have I:∀k g,b<=k->c.ρ k g=none:=fun k g a=>H.fresh k (hf k a) g;let r:Ctx (okc P):={ρ:=fun k g=>if k<b then c.ρ k g else n.ρ k g,F:=n.F,O:=fun k=>c.O k\/n.O k,base:=c.base};have A:∀k g,k<b->r.ρ k g=c.ρ k g:=fun k g a=>if_pos a;have u:∀k g,b<=k->r.ρ k g=n.ρ k g:=fun k g a=>if_neg (by omega);have T:∀k g p,c.ρ k g=some p->r.ρ k g=some p:=fun k g p hp=>by grind
 have S:∀k g p,n.ρ k g=some p->r.ρ k g=some p:=fun k g p hp=>by grind
 have E2:Evo c w r G:=⟨E.os,E.tape,E.output,E.size,E.shape,fun k a _=>l k a,T,fun k a=>E.frz k a,fun k a=>(m k a).elim .inl fun h=>.inr (.inr h),fun k a=>a.elim .inl fun h=>.inr (i k h),rfl⟩;have X2:Ext n G r G:=⟨S,fun _ h=>h,fun k _ _ h=>h,fun k C e fr h=>⟨C,fr,h,rfl⟩⟩;refine⟨cv,r,rfl,E2,?_,Zce X2 _ _ V⟩;refine⟨fun k a g=>?_,fun k x a g F=>?_,fun k x a=>?_,?_,fun k B d=>?_,fun k B=>H'.inF k B,fun k d=>d.elim (fun h=>Za0 (H.inO k h) E.size) (H'.inO k)⟩
 ·rw[J k]at a;split at a;·rename_i h1;rw[A k g h1];exact H.fresh k a g
  rename_i h1;rw[u k g (by omega)];exact H'.fresh k a g
 ·rw[J k]at a;split at a;·rename_i h1;rw[A k g h1];exact H.later k x a g F
  rename_i h1;rw[u k g (by omega)];exact H'.later k x a g F
 ·rw[J k]at a;split at a;·refine Zcg (E2.ext H.disj) (fun o base s hp=>?_) (H.blk k x a);have d:=H.owned ⟨x,a,rfl,s⟩ hp;exact⟨.inl d,l o (H.inO _ d)⟩
  refine Zcg X2 (fun o base s hp=>?_) (H'.blk k x a);have d:=H'.owned ⟨x,a,rfl,s⟩ hp;grind
 ·intro b1 g1 b2 g2 o t y l1 l2 p1 p2;have key:∀k g base,Live (setL L h) k g->r.ρ k g=some (.loc o base)->(k<b/\Live h k g/\c.ρ k g=some (.loc o base)/\o<w.heap.size)\/(b<=k/\Live (hp L) k g/\n.ρ k g=some (.loc o base)/\w.heap.size<=o):=by
   rintro k g base⟨x,a,rfl,s⟩hp;rw[J k]at a;split at a;·rename_i h1;rw[A k _ h1]at hp;exact .inl ⟨h1,⟨x,a,rfl,s⟩,hp,H.inO _ (H.owned ⟨x,a,rfl,s⟩ hp)⟩
   rename_i h1;rw[u k _ (by omega)]at hp;exact .inr ⟨by omega,⟨x,a,rfl,s⟩,hp,i _ (H'.owned ⟨x,a,rfl,s⟩ hp)⟩
  rcases key b1 g1 t l1 p1 with⟨k1,O,N,k4⟩|⟨k1,O,N,k4⟩<;>rcases key b2 g2 y l2 p2 with⟨j1,K,U,j4⟩|⟨j1,K,U,j4⟩;·exact H.inj _ _ _ _ _ _ _ O K N U
  ·omega
  ·omega
  exact H'.inj _ _ _ _ _ _ _ O K N U
 rcases d with d|d
 ·rcases m k B with h1|h1;·exact H.disj k h1 d
  have:=H.inO k d;omega
 exact H'.disj k B d
theorem HSpec.QbC(n)(c:okFn P f sf=true)(h:Nat.ble args.length sf.n=true)(hw:wS P ⟨sf.n,0⟩ sf.body [] n (argT 0 args) .e fun e T k _=>(e=.normal\/e=.ret)/\∃vs,resV T k sf.res=some vs/\Rec 0 [(0,v)] L [(0,resOf vs)] k):HSpec P f args .e v (hp L):=by refine HSpec.of_W2 (m:=0) c (Zaw h) (fun b _=>get_e) ((wpC.toW hw).mono ?_);rintro e B⟨l,h1,vs,i,m,ho,a,d,g⟩;exact⟨h1,vs,_,i,Rec.maps ho d,Rec.heap ho d,Rec.dom ho a,g 0⟩
end Go.AM
theorem _root_.Go.AM.ZcM:type_of%@Go.AM.HSpec.of_O:=@Go.AM.HSpec.of_O
theorem _root_.Go.AM.ZcN:type_of%@Go.AM.HSpec.QbC:=@Go.AM.HSpec.QbC
namespace Go.AM
variable{v z:AV}{k:IntKind}{l:List Nat}{b g x:Nat}{f:Nat->AV}{p:Prop}
theorem wV:type_of%@words/\type_of%@wordsN/\type_of%@wordsR/\type_of%@Qi2/\type_of%@QhC/\type_of%@Qe9/\type_of%@QhD/\type_of%@QhE/\type_of%@QhF/\type_of%@QiZ/\type_of%@Qi0/\type_of%@Qi1/\type_of%@QkU/\type_of%@QmG/\type_of%@SX.exit.injEq/\type_of%@if_true.{1}/\type_of%@if_false.{1}/\type_of%@ne_eq.{1}:=⟨@words,@wordsN,@wordsR,@Qi2,@QhC,@Qe9,@QhD,@QhE,@QhF,@QiZ,@Qi0,@Qi1,@QkU,@QmG,@SX.exit.injEq,@if_true,@if_false,@ne_eq⟩
theorem gg(h:p:=by first|(simp(disch:=omega)only[QaE,QaL,Qa1];done)|(simp(disch:=omega)only[QaE,QaL,Qa1];rfl)):p:=h
variable{P:Program}
def mapF(k:IntKind)(f:Nat->AV)(l:List Nat):List (AV×AV):=l.map fun x:Nat=>(.int k (x:Int),f x)
def updF(f:Nat->AV)(x:Nat)(v:AV):Nat->AV:=fun y=>if y=x then v else f y
theorem QkV{y:Nat}:keyEq false [.i] (.int k (x:Int)) (.int k (y:Int))=some (decide (x=y)):=by
 by_cases e:x=y;·grind[keyEq,eqCells,eqCell]
 have :¬(x:Int)=y:=by omega
 grind[keyEq,eqCells,eqCell]
theorem QfL:∀(l:List Nat)(i:Nat),x∈l->aFind false [.i] (.int k (x:Int)) (mapF k f l) i=some (some (i+l.findIdx (·==x),f x))
 |[],_,h=>by cases h|y::l,i,b=>by
  show(match keyEq false [.i] (.int k (x:Int)) (.int k (y:Int))with|some true=>_|some false=>_|none=>_)=_;rw[QkV,List.findIdx_cons];by_cases e:x=y;·subst e;simp
  have a:(y==x)=false:=by grind
  rw[decide_eq_false e,a];show aFind false [.i] (.int k (x:Int)) (mapF k f l) (i+1)=_;rw[QfL l (i+1) ((Zax.1 b).resolve_left e)];grind
theorem QeZ:∀(l:List Nat)(i:Nat),x∉l->aFind false [.i] (.int k (x:Int)) (mapF k f l) i=some none|[],_,_=>rfl|y::l,i,a=>by simp only[Zax,not_or]at a;show(match keyEq false [.i] (.int k (x:Int)) (.int k (y:Int))with|some true=>_|some false=>_|none=>_)=_;rw[QkV,decide_eq_false a.1];exact QeZ l (i+1) a.2
theorem QmI:∀(l:List Nat),l.Nodup->x∈l->(mapF k f l).set (l.findIdx (·==x)) (.int k (x:Int),v)=mapF k (updF f x v) l
 |[],_,h=>by cases h|y::l,a,c=>by
  rw[Zcb]at a;rw[List.findIdx_cons];by_cases e:y=x
  ·subst e;have:mapF k f l=mapF k (updF f y v) l:=Zba fun z d=>by grind[updF]
   grind[mapF,updF]
  have b:(y==x)=false:=by simpa using e
  rw[b];simp only[cond_false];show(.int k (y:Int),f y)::(mapF k f l).set (l.findIdx (·==x)) (.int k (x:Int),v)=(.int k (y:Int),updF f x v y)::mapF k (updF f x v) l;rw[QmI l a.2 ((Zax.1 c).resolve_left fun h=>e h.symm)];simp[updF,e]
theorem QsM(a:x∉l):mapF k f l++[(.int k (x:Int),v)]=mapF k (updF f x v) (l++[x]):=by grind[mapF,updF,Zba]
theorem RnM.mapF{m}{π}{h}{k}{f g}:∀{l:List Nat},(∀x∈l,Rn m π h (f x) (g x))->RnM m π h (mapF k f l) (mapF k g l)|[],_=>trivial|x::l,hf=>⟨⟨Zck rfl,hf x (by simp)⟩,RnM.mapF (l:=l) fun y a=>hf y (by simp[a])⟩
section
variable{N:NM}{n:Nat}{d:Option Nat}{af dead:List Nat}{r:List SOper}{T:Tmps}{h:Heap}{Q:QC}{fs:List Fr}
def lkV(ok:Bool)(z:AV):Option (Nat×AV)->AV|some (_,v)=>if ok then .tup [v,.bool true]else v|none=>if ok then .tup [z,.bool false]else z
def wK(P:Program)(N:NM)(o:Option Blk)(g:Nat)(k z:AV)(ok:Bool)(d:Option Nat)(ops:List SOper)(dead:List Nat)(fs:List Fr)(n:Nat)(T:Tmps)(h:Heap)(Q:QC):Prop:=∃es q,o=some (.map g es)/\aFind false [.i] k es 0=some q/\wR P N ops dead fs (n+1) (putD T d (lkV ok z q)) h Q
theorem QcT{x}{ok}(hu:wK P N (h.get b) g (.int k x) z ok d r dead fs n T h Q):wM P N (aLookup false [.i] z ok (.map b g) (.int k x)) d r dead fs n T h Q:=by
 obtain⟨es,q,hb,hf,hk⟩:=hu;refine⟨_,_,?_,hk⟩;have hok:keyOK false [.i] (.int k x)=true:=by simp[keyOK,keyEq,eqCells,eqCell]
 have hg:Nat.beq g g=true:=by simp
 grind[aLookup,HM.entries,HM.run,lkV]
abbrev fmapF(k:IntKind)(f:Nat->AV)(l:List Nat):AV:=.fmap (l.map fun x:Nat=>.int k (x:Int)) (l.map f)
theorem QmJ(l):(l.map fun x:Nat=>AV.int k (x:Int)).zip (l.map f)=mapF k f l:=by induction l with|nil=>rfl|cons x l a=>simp only[ZaL,List.zip_cons_cons,a];rfl
theorem Qn6{ok:Bool}(hx:x∈l)(hk:wR P N r dead fs (n+1) (putD T d (if ok then .tup [f x,.bool true]else f x)) h Q):wM P N (aLookup false [.i] z ok (fmapF k f l) (.int k (x:Int))) d r dead fs n T h Q:=by
 refine⟨_,h,?_,hk⟩;have e:keyOK false [.i] (AV.int k (x:Int))=true:=by simp[keyOK,keyEq,eqCells,eqCell]
 unfold aLookup;rw[if_pos e];simp only[fmapF];rw[QmJ,QfL l 0 hx];rfl
theorem QmK{ok:Bool}(a:x∉l)(b:wR P N r dead fs (n+1) (putD T d (if ok then .tup [z,.bool false]else z)) h Q):wM P N (aLookup false [.i] z ok (fmapF k f l) (.int k (x:Int))) d r dead fs n T h Q:=by
 refine⟨_,h,?_,b⟩;have e:keyOK false [.i] (AV.int k (x:Int))=true:=by simp[keyOK,keyEq,eqCells,eqCell]
 unfold aLookup;rw[if_pos e];simp only[fmapF];rw[QmJ,QeZ l 0 a];rfl
theorem FrzTo.mapF{g:Nat->AV}{gg}(a:h.get b=some (.map gg (Go.AM.mapF k f l)))(c:∀x∈l,FrzTo h (f x) (g x)):FrzTo h (.map b gg) (fmapF k g l):=by
 refine FrzTo.map a ?_ ?_
 ·have :(Go.AM.mapF k f l).map (·.1)=l.map fun x:Nat=>AV.int k (x:Int):=by simp[Go.AM.mapF]
  simp_all[Zcr]
 have :(Go.AM.mapF k f l).map (·.2)=l.map f:=by simp[Go.AM.mapF]
 rw[this];clear a this;induction l with|nil=>trivial|cons x l d=>exact⟨c x (by simp),d fun y i=>c y (by simp[i])⟩
theorem wK_in{ok:Bool}(a:x∈l)(b:wR P N r dead fs (n+1) (putD T d (if ok then .tup [f x,.bool true]else f x)) h Q):wK P N (some (.map g (mapF k f l))) g (.int k (x:Int)) z ok d r dead fs n T h Q:=⟨_,_,rfl,QfL l 0 a,b⟩
theorem QqX{ok:Bool}(a:x∉l)(b:wR P N r dead fs (n+1) (putD T d (if ok then .tup [z,.bool false]else z)) h Q):wK P N (some (.map g (mapF k f l))) g (.int k (x:Int)) z ok d r dead fs n T h Q:=⟨_,_,rfl,QeZ l 0 a,b⟩
def wUF(P:Program)(N:NM)(o:Option Blk)(b g:Nat)(k v:AV)(d:Option Nat)(ops:List SOper)(dead:List Nat)(fs:List Fr)(n:Nat)(T:Tmps)(h:Heap)(Q:QC):Prop:=∃es q,o=some (.map g es)/\aFind false [.i] k es 0=some q/\b<lim/\wR P N ops dead fs (n+1) (putD T d .any) (h.set b (.map g (match q with|some (i,_)=>es.set i (k,v)|none=>es++[(k,v)]))) Q
theorem Qbh{x}(hu:wUF P N (h.get b) b g (.int k x) v d r dead fs n T h Q):wM P N (aMapUpd false [.i] (.map b g) (.int k x) v) d r dead fs n T h Q:=by
 obtain⟨es,q,m,hf,i,f⟩:=hu;refine⟨_,_,?_,f⟩;have a:keyOK false [.i] (.int k x)=true:=by simp[keyOK,keyEq,eqCells,eqCell]
 have c:Nat.blt b lim=true:=by simp_all
 have l:Nat.beq g g=true:=by simp
 grind[aMapUpd,HM.entries,HM.run]
theorem Qu1(m:l.Nodup)(c:x∈l)(i:b<1099511627775)(o:wR P N r dead fs (n+1) (putD T d .any) (h.set b (.map g (mapF k (updF f x v) l))) Q):wUF P N (some (.map g (mapF k f l))) b g (.int k (x:Int)) v d r dead fs n T h Q:=by have a:b<lim:=i;refine⟨_,_,rfl,QfL l 0 c,a,?_⟩;simp_all[QmI]
theorem QbK(c:x∉l)(i:b<1099511627775)(m:wR P N r dead fs (n+1) (putD T d .any) (h.set b (.map g (mapF k (updF f x v) (l++[x])))) Q):wUF P N (some (.map g (mapF k f l))) b g (.int k (x:Int)) v d r dead fs n T h Q:=by have a:b<lim:=i;refine⟨_,_,rfl,QeZ l 0 c,a,?_⟩;simp_all[QsM]
end
end Go.AM
theorem _root_.Go.AM.ZcO:type_of%@Go.AM.RnM.mapF:=@Go.AM.RnM.mapF
namespace Go.AM
variable{b:Bool}{cs:List AV}
theorem QmL:(AV.bool b).cells=[.bool b]:=rfl
theorem QqY:(AV.bool b).one=true:=rfl
theorem QqZ:(AV.bool b).boxable=true:=rfl
theorem QmM{b g o}:aNil (.ptr b g o)=some (.ptr b g o):=rfl
theorem QkW:aNil (.fptr cs)=some (.fptr cs):=rfl
end Go.AM
namespace Go.AM.SD
open Go.AM
variable{a b:List AV}{l:List Nat}{i k x:Nat}{r:Rm}{α:Type}{f:α->List AV}
def ints(l:List Int):List AV:=l.map (.int .i64)
abbrev sli(l:List Int):AV:=.fsl (ints l) l.length 1
theorem Qaa(l):noRefs (ints l)=true:=by induction l with|nil=>rfl|cons x l a=>simp only[ints,ZaL,noRefs,noRef,Zag];exact a
theorem QcW{l}:(ints l).length=l.length:=by simp[ints]
theorem lenW:type_of%@List.length_map.{0,0}/\type_of%@List.length_append.{0}/\type_of%@List.length_cons.{0}/\type_of%@List.length_nil.{0}/\type_of%@QcW:=⟨@List.length_map.{0,0},@List.length_append.{0},@List.length_cons.{0},@List.length_nil.{0},@QcW⟩
theorem QaI{l}{x}(h:l[i]?=some x):((ints l).drop i).head?=some (.int .i64 x):=by rw[ZbB];simp[ints,h]
abbrev nz(l:List Nat):List Int:=l.map fun x:Nat=>(x:Int)
theorem nz_at(h:l[i]?=some x):(nz l)[i]?=some (x:Int):=by simp[nz,h]
theorem QmN:(nz l).length=l.length:=by simp[nz]
theorem Qak{l:List α}(h:i<l.length):∃x,l[i]?=some x:=⟨l[i],Zak h⟩
theorem Qaf:noRefs (a++b)=(noRefs a&&noRefs b):=by induction a with|nil=>simp[noRefs]|cons x a c=>simp only[ZaU,noRefs,c,Bool.and_assoc]
theorem Qa5(h:∀x,noRefs (f x)=true)(l:List α):noRefs (l.flatMap f)=true:=by induction l with|nil=>rfl|cons x l a=>rw[Zay,Qaf,h,a];rfl
theorem Qbe(h:∀x,(f x).length=k)(l:List α):(l.flatMap f).length=l.length*k:=by induction l with|nil=>simp|cons x l a=>rw[Zay,Zaf,h,a,ZaC,Zbg];omega
theorem Qba(h:∀x,(f x).length=k):∀{l:List α}{i:Nat}{x:α},l[i]?=some x->(l.flatMap f).drop (i*k)=f x++(l.drop (i+1)).flatMap f
 |[],_,_,a=>by simp at a|y::l,0,x,a=>by simp at a;subst a;simp|y::l,i+1,x,a=>by
  simp at a;rw[Zay,List.drop_append,h,List.drop_of_length_le (by rw[h,Zbg];omega),ZaW];have:(i+1)*k-k=i*k:=by rw[Zbg];omega
  rw[this,Qba h a,Zbj]
structure Eg where
 fr:Int
 ev:Int
 to:Int deriving DecidableEq
def egC(e:Eg):List AV:=[.int .i64 e.fr,.int .i64 e.ev,.int .i64 e.to]
abbrev egs(l:List Eg):AV:=.fsl (l.flatMap egC) l.length 3
theorem Qal(l:List Eg):noRefs (l.flatMap egC)=true:=Qa5 (fun x=>rfl) l
theorem Qaq(l):noRef (egs l)=true:=by simp only[noRef];exact Qal l
theorem QdF{l:List Eg}{e}(h:l[i]?=some e):(l.flatMap egC).drop (i*3)=.int .i64 e.fr::.int .i64 e.ev::.int .i64 e.to::(l.drop (i+1)).flatMap egC:=Qba (f:=egC) (k:=3) (fun _=>rfl) h
theorem Qah(l):noRef (sli l)=true:=by simp only[noRef];exact Qaa l
structure Au where
 al:List Int
 n:Int
 ms:List Int
 es:List Eg
abbrev auV(a:Au):AV:=.agg [sli a.al,.int .i64 a.n,sli a.ms,egs a.es]
def eg(e:Ed):Eg:=⟨e.1,e.2.1,e.2.2⟩
def au(a:Aut):Au:=⟨nz a.al,a.n,nz a.ms,a.es.map eg⟩
def rmC(r:Rm):List AV:=[.int .i64 r.st,.int .i64 r.rank,.int .i64 r.reason,.int .i64 r.ev]
abbrev rms(l:List Rm):AV:=.fsl (l.flatMap rmC) l.length 4
theorem Qan(l:List Rm):noRefs (l.flatMap rmC)=true:=Qa5 (fun x=>rfl) l
theorem QsN{l:List Rm}(h:l[i]?=some r):(l.flatMap rmC).drop (i*4)=.int .i64 r.st::.int .i64 r.rank::.int .i64 r.reason::.int .i64 r.ev::(l.drop (i+1)).flatMap rmC:=Qba (f:=rmC) (k:=4) (fun _=>rfl) h
def edC(e:Ed):List AV:=[.int .i64 (e.1:Int),.int .i64 (e.2.1:Int),.int .i64 (e.2.2:Int)]
abbrev egsN(l:List Ed):AV:=.fsl (l.flatMap edC) l.length 3
theorem Qag(l:List Ed):noRefs (l.flatMap edC)=true:=Qa5 (fun x=>rfl) l
theorem Qaj(l):noRef (egsN l)=true:=by simp only[noRef];exact Qag l
theorem QaT{l:List Ed}{e}(h:l[i]?=some e):(l.flatMap edC).drop (i*3)=.int .i64 (e.1:Int)::.int .i64 (e.2.1:Int)::.int .i64 (e.2.2:Int)::(l.drop (i+1)).flatMap edC:=Qba (f:=edC) (k:=3) (fun _=>rfl) h
theorem QtM(l):egs (l.map eg)=egsN l:=by unfold egs egsN;rw[Zav,List.flatMap_map];rfl
abbrev sliN(l:List Nat):AV:=.fsl (ints (nz l)) l.length 1
theorem Qb2(l):sli (nz l)=sliN l:=by unfold sli sliN;rw[Zav]
theorem Qab(l):noRef (sliN l)=true:=by simp only[noRef];exact Qaa _
theorem QaH(h:l[i]?=some x):((ints (nz l)).drop i).head?=some (.int .i64 (x:Int)):=QaI (nz_at h)
abbrev aV(a:Aut):AV:=.agg [sliN a.al,.int .i64 (a.n:Int),sliN a.ms,egsN a.es]
theorem Qu2(a):auV (au a)=aV a:=by show AV.agg [sli (nz a.al),.int .i64 (a.n:Int),sli (nz a.ms),egs (a.es.map eg)]=_;rw[Qb2,Qb2,QtM]
theorem QdG(a):noRef (aV a)=true:=by rw[aV,noRef,noRefs,noRefs,noRefs,noRefs,Qab,Qab,Qaj];rfl
def bls(l:List Bool):List AV:=l.map .bool
theorem Qai(l):noRefs (bls l)=true:=by induction l with|nil=>rfl|cons x l a=>simp only[bls,ZaL,noRefs,noRef,Zag];exact a
theorem QjJ{l}:(bls l).length=l.length:=by simp[bls]
theorem QjK{l}{i}{b}:(bls l).set i (.bool b)=bls (l.set i b):=by simp[bls,List.map_set]
theorem Qa7{l}(h:i<l.length):((bls l).drop i).head?=some (.bool (lf l i)):=by rw[ZbB];simp[bls,lf,h]
theorem QoP{l}(h:i<l.length):(bls l)[i]?=some (.bool (lf l i)):=by simp[bls,lf,h]
theorem QaF{a b}:ints (a++b)=ints a++ints b:=by simp[ints]
theorem QaQ{a b}:nz (a++b)=nz a++nz b:=by simp
theorem Qd0{l:List α}{x}(h:x∈l):∃j:Nat,l[j]?=some x/\j<l.length:=by obtain⟨j,a⟩:=List.mem_iff_getElem?.1 h;exact⟨j,a,(Zaj.1 a).1⟩
theorem Qfj:decide ((x:Int)∈nz l)=l.contains x:=by
 have:(x:Int)∈nz l↔x∈l:=⟨fun h=>by
  obtain⟨y,b,e⟩:=Zap.1 h;have e:y=x:=by omega
  exact e▸b,fun h=>Zap.2 ⟨x,h,rfl⟩⟩;by_cases h:x∈l;·rw[decide_eq_true (this.2 h)];simp[h]
 rw[decide_eq_false fun a=>h (this.1 a)];simp[h]
end Go.AM.SD
namespace Go.AM
variable{k:IntKind}{a b s:List UInt8}{m:Nat}{β:Type}
theorem QmO:(AV.str s).cells=[.str s]:=rfl
theorem Qq0:(AV.str s).one=true:=rfl
theorem Qq1:(AV.str s).boxable=true:=rfl
theorem QkX:aBin .add (.str a) (.str b)=if a.length+b.length<=140737488355328 then some (.str (a++b))else none:=rfl
open SD
theorem wW:type_of%@QgC/\type_of%@wordsM/\type_of%@QmM/\type_of%@QkW/\type_of%@Int.one_mul/\type_of%@QjJ/\type_of%@QcW/\type_of%@QmL/\type_of%@QqY/\type_of%@QqZ/\type_of%@List.length_replicate.{0}/\type_of%@QmO/\type_of%@Qq0/\type_of%@Qq1/\type_of%@Qmi/\type_of%@QqH/\type_of%@QeD/\type_of%@QkX:=⟨@QgC,@wordsM,@QmM,@QkW,@Int.one_mul,@QjJ,@QcW,@QmL,@QqY,@QqZ,@Zbe,@QmO,@Qq0,@Qq1,@Qmi,@QqH,@QeD,@QkX⟩
variable{P:Program}
noncomputable section
structure FFn where
 n:Nat
 res:List SRes
 body:FCode
def FFn.slim(f:FFn):SFn:=⟨f.n,f.res,f.body.slim⟩
structure Ans(α:Type)where
 bad:α
 asm:List AV->List AV->α->α
 holds:α->Prop
def ansB:Ans Bool:=⟨false,fun _ _ _=>false,fun b=>b=true⟩
structure Ans.OK{α:Type}(A:Ans α):Prop where
 bad:¬A.holds A.bad
 asm:∀x y p,A.holds (A.asm x y p)->x=y/\A.holds p
theorem QoQ:ansB.OK:=⟨fun h=>(by cases h),fun _ _ _ h=>(by cases h)⟩
variable{α:Type}
abbrev ifB(c:Bool)(a b:α):α:=@Bool.rec (fun _=>α) b a c
theorem QaM(c)(a b:α):ifB c a b=if c=true then a else b:=by cases c<;>rfl
def fNat(m:Nat)(k:Nat->α):α:=@Nat.rec (fun _=>α) (k 0) (fun n _=>k (Nat.succ n)) m
theorem Qbx(m)(k:Nat->α):fNat m k=k m:=by cases m<;>rfl
def fInt(n:Int)(k:Int->α):α:=@Int.rec (fun _=>α) (fun m=>fNat m fun m=>k (.ofNat m)) (fun m=>fNat m fun m=>k (.negSucc m)) n
theorem QtN(n)(k:Int->α):fInt n k=k n:=by cases n<;>simp[fInt,Qbx]
def fBool(b:Bool)(k:Bool->α):α:=@Bool.rec (fun _=>α) (k false) (k true) b
theorem QcX(b)(k:Bool->α):fBool b k=k b:=by cases b<;>rfl
def fList{β:Type}(l:List β)(k:List β->α):α:=@List.rec β (fun _=>(List β->α)->α) (fun k=>k []) (fun x _ a k=>a fun r=>k (x::r)) l k
theorem QcY(l)(k:List β->α):fList l k=k l:=by
 have:∀(l:List β)(k:List β->α),@List.rec β (fun _=>(List β->α)->α) (fun k=>k []) (fun x _ ih k=>ih fun r=>k (x::r)) l k=k l:=by intro l;induction l with|nil=>intro k;rfl|cons x r ih=>intro k;exact ih _
 exact this l k
def fAV(v:AV)(k:AV->α):α:=match v with|.int t n=>fInt n fun n=>k (.int t n)|.bool b=>fBool b fun b=>k (.bool b)|.any=>k .any|.str s=>fList s fun s=>k (.str s)|.agg cs=>fList cs fun cs=>k (.agg cs)|.tup cs=>fList cs fun cs=>k (.tup cs)|.nilptr=>k .nilptr|.ptr b g o=>fNat o fun o=>k (.ptr b g o)|.fptr cs=>fList cs fun cs=>k (.fptr cs)|.nilsl=>k .nilsl|.sl b g o l s=>fNat o fun o=>fNat l fun l=>k (.sl b g o l s)|.fsl cs l s=>fNat l fun l=>fList cs fun cs=>k (.fsl cs l s)|.esl=>k .esl|.nsl=>k .nsl|.nilmap=>k .nilmap|.map b g=>k (.map b g)|.fmap x y=>fList x fun x=>fList y fun y=>k (.fmap x y)|.nilfn=>k .nilfn|.fn f x y=>fList x fun x=>fList y fun y=>k (.fn f x y)|.yld b g=>k (.yld b g)|.nilif=>k .nilif|.ifc t v=>k (.ifc t v)|.typed t n v=>fNat t fun t=>fNat n fun n=>k (.typed t n v)
theorem Qdi(v)(k:AV->α):fAV v k=k v:=by unfold fAV;grind[QtN,QcX,QcY,Qbx]
def fBlk(x:Blk)(k:Blk->α):α:=match x with|.cells g cs=>fList cs fun cs=>k (.cells g cs)|x=>k x
theorem QtO(x)(k:Blk->α):fBlk x k=k x:=by unfold fBlk;grind[QcY]
def lkK(T:Tmps)(i:Nat)(k:AV->α):α:=@List.rec (Nat×AV) (fun _=>α) (k .any) (fun p _ a=>ifB (Nat.beq p.1 i) (k p.2) a) T
theorem Qfk(T)(i)(k:AV->α):lkK T i k=k (lk T i):=by induction T with|nil=>rfl|cons p T a=>
 show ifB (Nat.beq p.1 i) (k p.2) (lkK T i k)=_;rw[a,QaM,Qa3];by_cases h:p.1=i;·subst h;simp
 simp_all[ZaJ]
def evK(T:Tmps)(x:Opd)(k:AV->α):α:=@Opd.rec (fun _=>α) (fun i=>lkK T i k) (fun v=>k v) (fun n=>k (.fn n [] [])) (fun _=>k .any) x
theorem Qbr(T)(x)(k:AV->α):evK T x k=k (ev T x):=by
 cases x;·exact Qfk _ _ _
 ·rfl
 ·rfl
 rfl
def upR(T:Tmps)(i:Nat)(v:AV)(k:Tmps->α):α:=@List.rec (Nat×AV) (fun _=>(Tmps->α)->α) (fun k=>k [(i,v)]) (fun p r a k=>ifB (Nat.beq p.1 i) (k ((i,v)::r)) (a fun b=>k (p::b))) T k
theorem Qd1(T)(i)(v)(k:Tmps->α):upR T i v k=k (up T i v):=by
 have:∀(T:Tmps)(k:Tmps->α),@List.rec (Nat×AV) (fun _=>(Tmps->α)->α) (fun k=>k [(i,v)]) (fun p r a k=>ifB (Nat.beq p.1 i) (k ((i,v)::r)) (a fun b=>k (p::b))) T k=k (up T i v):=by intro T;induction T with|nil=>intro k;rfl|cons p T a=>
  intro k;show ifB (Nat.beq p.1 i) (k ((i,v)::T)) (@List.rec (Nat×AV) (fun _=>(Tmps->α)->α) (fun k=>k [(i,v)]) (fun p r a k=>ifB (Nat.beq p.1 i) (k ((i,v)::r)) (a fun b=>k (p::b))) T fun b=>k (p::b))=_;rw[a,QaM,QjF];by_cases h:p.1=i;·subst h;simp
  simp_all[ZaJ]
 exact this T k
def putS(a:Bool)(T:Tmps)(dst:Option Nat)(v:AV)(k:Tmps->α):α:=@Option.rec Nat (fun _=>α) (k T) (fun d=>ifB a (k ((d,v)::T)) (upR T d v k)) dst
theorem QkY(a)(T)(dst)(v)(k:Tmps->α):∃T',putS a T dst v k=k T'/\∀i,lk T' i=lk (putD T dst v) i:=by cases dst with|none=>exact⟨T,rfl,fun _=>rfl⟩|some d=>cases a with|false=>exact⟨up T d v,Qd1 T d v k,fun _=>rfl⟩|true=>
 refine⟨(d,v)::T,rfl,fun i=>?_⟩;rw[Qa3,QbG];by_cases h:d=i;·subst h;simp
 simp_all
def rmR(m:Nat)(T:Tmps)(k:Tmps->α):α:=@List.rec (Nat×AV) (fun _=>(Tmps->α)->α) (fun k=>k []) (fun p r a k=>ifB (Nat.beq (Nat.land (Nat.shiftRight m p.1) 1) 1) (a k) (a fun b=>k (p::b))) T k
def rmM(m:Nat):Tmps->Tmps|[]=>[]|p::r=>if Nat.beq (Nat.land (Nat.shiftRight m p.1) 1) 1=true then rmM m r else p::rmM m r
theorem Qq2(m)(T)(k:Tmps->α):rmR m T k=k (rmM m T):=by
 have:∀(T:Tmps)(k:Tmps->α),@List.rec (Nat×AV) (fun _=>(Tmps->α)->α) (fun k=>k []) (fun p r a k=>ifB (Nat.beq (Nat.land (Nat.shiftRight m p.1) 1) 1) (a k) (a fun b=>k (p::b))) T k=k (rmM m T):=by intro T;induction T with|nil=>intro k;rfl|cons p T a=>intro k;show ifB (Nat.beq (Nat.land (Nat.shiftRight m p.1) 1) 1) (@List.rec (Nat×AV) (fun _=>(Tmps->α)->α) (fun k=>k []) (fun p r a k=>ifB (Nat.beq (Nat.land (Nat.shiftRight m p.1) 1) 1) (a k) (a fun b=>k (p::b))) T k) (@List.rec (Nat×AV) (fun _=>(Tmps->α)->α) (fun k=>k []) (fun p r a k=>ifB (Nat.beq (Nat.land (Nat.shiftRight m p.1) 1) 1) (a k) (a fun b=>k (p::b))) T fun b=>k (p::b))=_;rw[a,a,QaM];simp only[rmM];split<;>rfl
 exact this T k
theorem QoR(m)(T):Sub (rmM m T) T:=by
 have dead:∀(T:Tmps)(i:Nat),Nat.beq (Nat.land (Nat.shiftRight m i) 1) 1=true->lk (rmM m T) i=.any:=by intro T i hi;induction T with|nil=>rfl|cons p T a=>
  simp only[rmM];split;·exact a
  rename_i h;rw[Qa3,if_neg (by grind)];exact a
 have live:∀(T:Tmps)(i:Nat),¬Nat.beq (Nat.land (Nat.shiftRight m i) 1) 1=true->lk (rmM m T) i=lk T i:=by intro T i hi;induction T with|nil=>rfl|cons p T a=>
  simp only[rmM];split;·rename_i h;rw[Qa3,if_neg (by grind)];exact a
  grind[Qa3]
 intro i;grind
def getR{β}(t:Tr β)(b:Nat)(k:Option β->α):α:=@Tr.rec β (fun _=>Nat->α) (fun _=>k none) (fun _ v _ a c b=>ifB (Nat.beq b 0) (k v) (ifB (Nat.beq (Nat.mod b 2) 1) (a (Nat.div b 2)) (c (Nat.sub (Nat.div b 2) 1)))) t b
theorem QbS(t)(b)(k:Option β->α):getR t b k=k (t.get b):=by induction t generalizing b with|e=>rfl|n l v r a g=>show ifB (Nat.beq b 0) (k v) (ifB (Nat.beq (Nat.mod b 2) 1) (getR l (Nat.div b 2) k) (getR r (Nat.sub (Nat.div b 2) 1) k))=_;rw[a,g,QaM,QaM];simp only[Tr.get];have f:Nat.mod b 2=b%2:=rfl;have c:Nat.div b 2=b/2:=rfl;have d:Nat.sub (b/2) 1=b/2-1:=rfl;rw[f,c,d];cases Nat.beq b 0<;>cases Nat.beq (b%2) 1<;>rfl
def setE{β}(f:Nat)(b:Nat)(x:β)(k:Tr β->α):α:=@Nat.rec (fun _=>Nat->(Tr β->α)->α) (fun _ k=>k .e) (fun _ a b k=>ifB (Nat.beq b 0) (k (.n .e (some x) .e)) (ifB (Nat.beq (Nat.mod b 2) 1) (a (Nat.div b 2) fun l=>k (.n l none .e)) (a (Nat.sub (Nat.div b 2) 1) fun r=>k (.n .e none r)))) f b k
theorem QtP(f)(b)(x)(k:Tr β->α):setE f b x k=k (Tr.setF f .e b x):=by induction f generalizing b k with|zero=>rfl|succ f a=>show ifB (Nat.beq b 0) (k (.n .e (some x) .e)) (ifB (Nat.beq (Nat.mod b 2) 1) (setE f (Nat.div b 2) x fun l=>k (.n l none .e)) (setE f (Nat.sub (Nat.div b 2) 1) x fun r=>k (.n .e none r)))=_;rw[a,a,QaM,QaM];simp only[Tr.setF];have g:Nat.mod b 2=b%2:=rfl;have c:Nat.div b 2=b/2:=rfl;have d:Nat.sub (b/2) 1=b/2-1:=rfl;rw[g,c,d];cases Nat.beq b 0<;>cases Nat.beq (b%2) 1<;>rfl
def setR{β}(t:Tr β)(f:Nat)(b:Nat)(x:β)(k:Tr β->α):α:=@Tr.rec β (fun _=>Nat->Nat->(Tr β->α)->α) (fun f b k=>setE f b x k) (fun l v r a c f b k=>@Nat.rec (fun _=>α) (k (.n l v r)) (fun f _=>ifB (Nat.beq b 0) (k (.n l (some x) r)) (ifB (Nat.beq (Nat.mod b 2) 1) (a f (Nat.div b 2) fun l=>k (.n l v r)) (c f (Nat.sub (Nat.div b 2) 1) fun r=>k (.n l v r)))) f) t f b k
theorem QtQ(t)(f)(b)(x)(k:Tr β->α):setR t f b x k=k (Tr.setF f t b x):=by induction t generalizing f b k with|e=>exact QtP f b x k|n l v r a h=>cases f with|zero=>rfl|succ f=>show ifB (Nat.beq b 0) (k (.n l (some x) r)) (ifB (Nat.beq (Nat.mod b 2) 1) (setR l f (Nat.div b 2) x fun l=>k (.n l v r)) (setR r f (Nat.sub (Nat.div b 2) 1) x fun r=>k (.n l v r)))=_;rw[a,h,QaM,QaM];simp only[Tr.setF];have g:Nat.mod b 2=b%2:=rfl;have c:Nat.div b 2=b/2:=rfl;have d:Nat.sub (b/2) 1=b/2-1:=rfl;rw[g,c,d];cases Nat.beq b 0<;>cases Nat.beq (b%2) 1<;>rfl
def putBR(A:Ans α)(h:Heap)(b:Nat)(x:Blk)(k:Heap->α):α:=ifB (Nat.ble (Nat.succ b) lim) (setR h 40 b x k) A.bad
theorem Qb3(A:Ans α)(h)(b)(x)(k):putBR A h b x k=if b<lim then k (h.set b x)else A.bad:=by
 unfold putBR;rw[QtQ,QaM];by_cases a:b<lim;·rw[if_pos (Nat.ble_eq_true_of_le a),if_pos a];rfl
 rw[if_neg (fun h=>a (Zaw h)),if_neg a]
def runR{β}(A:Ans α)(m:HM β)(h:Heap)(k:β->Heap->α):α:=@HM.rec β (fun _=>Heap->α) (fun a h=>k a h) (fun _=>A.bad) (fun b _ c h=>getR h b fun o=>c o h) (fun b x _ c h=>fBlk x fun x=>putBR A h b x fun h=>c h) m h
theorem Qc5(A:Ans α)(m:HM β):∀(h:Heap)(k:β->Heap->α),runR A m h k=match m.run h with|some (a,h')=>k a h'|none=>A.bad:=by induction m with|ret a=>intro h k;rfl|fail=>intro h k;rfl|look b m c=>intro h k;show getR h b (fun o=>runR A (m o) h k)=_;rw[QbS];exact c _ h k|put b x m c=>
 intro h k;show fBlk x (fun x=>putBR A h b x fun h=>runR A m h k)=_;rw[QtO,Qb3];simp only[HM.run];by_cases d:b<lim
 ·have :Nat.blt b lim=true:=by simp_all
  grind
 have :Nat.blt b lim=false:=by simp_all[ZaJ]
 grind
def optR(A:Ans α)(o:Option AV)(k:AV->α):α:=@Option.rec AV (fun _=>α) A.bad (fun v=>fAV v k) o
theorem QbT(A:Ans α)(o:Option AV)(k:AV->α):optR A o k=match o with|some v=>k v|none=>A.bad:=by cases o with|none=>rfl|some v=>exact Qdi v k
def hiN:IntKind->Nat|.i8=>127|.i16=>32767|.i32=>2147483647|.i64=>9223372036854775807|.u8=>255|.u16=>65535|.u32=>4294967295|.u64=>18446744073709551615
theorem Qu3(k):hi k=hiN k:=by cases k<;>rfl
theorem lo_le(k):lo k<=0:=by cases k<;>decide
theorem Qi3(h:m<=hiN k):wr k (.ofNat m)=.ofNat m:=wr_of (by grind[lo_le]) (by simp_all[Qu3])
def kn:IntKind->Nat|.i8=>0|.i16=>1|.i32=>2|.i64=>3|.u8=>4|.u16=>5|.u32=>6|.u64=>7
theorem QmP{a}(h:Nat.beq (kn k) (kn a)=true):k=a:=by cases k<;>cases a<;>first|rfl|(cases h)
def bin2(A:Ans α)(op:BinOp)(d:IntKind)(a b:Nat)(c:α)(k:AV->α):α:=match op with|.add=>fNat (Nat.add a b) fun r=>ifB (Nat.ble r (hiN d)) (k (.int d (.ofNat r))) c|.sub=>ifB (Nat.ble b a) (fNat (Nat.sub a b) fun r=>ifB (Nat.ble r (hiN d)) (k (.int d (.ofNat r))) c) c|.mul=>fNat (Nat.mul a b) fun r=>ifB (Nat.ble r (hiN d)) (k (.int d (.ofNat r))) c|.eql=>fBool (Nat.beq a b) fun t=>k (.bool t)|.neq=>fBool (Nat.beq a b) fun t=>ifB t (k (.bool false)) (k (.bool true))|.lss=>fBool (Nat.ble (Nat.succ a) b) fun t=>k (.bool t)|.leq=>fBool (Nat.ble a b) fun t=>k (.bool t)|.gtr=>fBool (Nat.ble (Nat.succ b) a) fun t=>k (.bool t)|.geq=>fBool (Nat.ble b a) fun t=>k (.bool t)|_=>c
def binN(op:BinOp)(below:Bool)(a:α)(k:AV->α):α:=match op with|.eql=>k (.bool false)|.neq=>k (.bool true)|.lss=>ifB below (k (.bool true)) (k (.bool false))|.leq=>ifB below (k (.bool true)) (k (.bool false))|.gtr=>ifB below (k (.bool false)) (k (.bool true))|.geq=>ifB below (k (.bool false)) (k (.bool true))|_=>a
def binR(A:Ans α)(op:BinOp)(x y:AV)(k:AV->α):α:=match x with|.int c (.ofNat a)=>(match y with|.int d (.ofNat b)=>ifB (Nat.beq (kn c) (kn d)) (bin2 A op c a b (optR A (aBin op x y) k) k) (optR A (aBin op x y) k)|.int d (.negSucc b)=>ifB (Nat.beq (kn c) (kn d)) (binN op false (optR A (aBin op x y) k) k) (optR A (aBin op x y) k)|_=>optR A (aBin op x y) k)|.int c (.negSucc a)=>(match y with|.int d (.ofNat b)=>ifB (Nat.beq (kn c) (kn d)) (binN op true (optR A (aBin op x y) k) k) (optR A (aBin op x y) k)|_=>optR A (aBin op x y) k)|_=>optR A (aBin op x y) k
theorem QtR(A:Ans α)(op)(c)(a b)(k):binN op true (optR A (aBin op (.int c (.negSucc a)) (.int c (.ofNat b))) k) k=optR A (aBin op (.int c (.negSucc a)) (.int c (.ofNat b))) k:=by
 have d:(Int.negSucc a:Int)<Int.ofNat b:=by grind
 generalize Int.negSucc a=x at*;generalize Int.ofNat b=y at*;unfold binN;grind[QeF,QbT,decide,QeG,QeH,QeI,QeJ,QeK]
theorem binN_eq'(A:Ans α)(op)(c)(a b)(k):binN op false (optR A (aBin op (.int c (.ofNat a)) (.int c (.negSucc b))) k) k=optR A (aBin op (.int c (.ofNat a)) (.int c (.negSucc b))) k:=by
 have d:(Int.negSucc b:Int)<Int.ofNat a:=by grind
 generalize Int.negSucc b=x at*;generalize Int.ofNat a=y at*;unfold binN;grind[QeF,QbT,decide,QeG,QeH,QeI,QeJ,QeK]
theorem QtS(A:Ans α)(op)(c)(a b)(k):bin2 A op c a b (optR A (aBin op (.int c (.ofNat a)) (.int c (.ofNat b))) k) k=optR A (aBin op (.int c (.ofNat a)) (.int c (.ofNat b))) k:=by
 unfold bin2;cases op<;>simp only<;>try rfl
 ·rw[Qbx,QaM];split;·rename_i h1;rw[Qh8,show(Int.ofNat a+Int.ofNat b:Int)=Int.ofNat (a+b)from rfl,Qi3 (m:=a+b) (Zaw h1),QbT];rfl
  rfl
 ·rw[QaM];split
  ·rename_i d;have d:=Zaw d;rw[Qbx,QaM];split;·rename_i h1;rw[Qh9,show(Int.ofNat a-Int.ofNat b:Int)=Int.ofNat (a-b)from(Int.ofNat_sub d).symm,Qi3 (m:=a-b) (Zaw h1),QbT];rfl
   rfl
  rfl
 ·rw[Qbx,QaM];split;·rename_i h1;rw[Qia,show(Int.ofNat a*Int.ofNat b:Int)=Int.ofNat (a*b)from rfl,Qi3 (m:=a*b) (Zaw h1),QbT];rfl
  rfl
 ·rw[QcX,QeF,QbT];simp only;congr 2;rw[Zb2];simp;omega
 ·rw[QcX,QeG,QbT,QaM];simp only;by_cases e:a=b;·subst e;simp
  have h1:Nat.beq a b=false:=by simp_all[ZaJ]
  grind[decide]
 ·rw[QcX,QeH,QbT];simp only;congr 2;rw[Zb2];simp;omega
 ·rw[QcX,QeI,QbT];simp only;congr 2;rw[Zb2];simp
 ·rw[QcX,QeJ,QbT];simp only;congr 2;rw[Zb2];simp;omega
 rw[QcX,QeK,QbT];simp only;congr 2;rw[Zb2];simp
theorem QtT(A:Ans α)(op:BinOp)(x y:AV)(k:AV->α):binR A op x y k=match aBin op x y with|some v=>k v|none=>A.bad:=by
 rw[<-QbT A];unfold binR;split
 ·split;·grind[QaM,QmP,QtS]
  ·grind[QaM,QmP,binN_eq']
  rfl
 ·split;·grind[QaM,QmP,QtR]
  rfl
 rfl
def nthR(A:Ans α)(cs:List AV)(j:Nat)(k:AV->α):α:=@List.rec AV (fun _=>Nat->α) (fun _=>A.bad) (fun c _ a j=>@Nat.rec (fun _=>α) (k c) (fun j _=>a j) j) cs j
theorem QoS(A:Ans α)(cs:List AV)(j:Nat)(k:AV->α):nthR A cs j k=match cs[j]? with|some v=>k v|none=>A.bad:=by induction cs generalizing j with|nil=>rfl|cons c cs a=>cases j with|zero=>rfl|succ j=>exact(a j).trans (by simp)
def nthSetR(cs:List AV)(j:Nat)(v:AV)(k:List AV->α):α:=@List.rec AV (fun _=>Nat->(List AV->α)->α) (fun _ k=>k []) (fun c r a j k=>@Nat.rec (fun _=>α) (k (v::r)) (fun j _=>a j fun r=>k (c::r)) j) cs j k
theorem QpN(cs)(j)(v)(k:List AV->α):nthSetR cs j v k=k (cs.set j v):=by induction cs generalizing j k with|nil=>rfl|cons c cs a=>cases j with|zero=>rfl|succ j=>exact a j _
def dropR(cs:List AV)(j:Nat)(k:List AV->α):α:=@List.rec AV (fun _=>Nat->α) (fun _=>k []) (fun c r a j=>@Nat.rec (fun _=>α) (k (c::r)) (fun j _=>a j) j) cs j
theorem Qic(cs)(j)(k:List AV->α):dropR cs j k=k (cs.drop j):=by induction cs generalizing j with|nil=>simp[dropR]|cons c cs a=>cases j with|zero=>rfl|succ j=>exact a j
def isPtr:AV->Bool|.ptr ..=>true|_=>false
def loadR(A:Ans α)(m:Option Nat)(x:AV)(h:Heap)(k:AV->α):α:=match m with|none=>(match x with|.ptr b g off=>getR h b fun o=>(match o with|some (.cells a cs)=>ifB (Nat.beq a g) (nthR A cs off k) A.bad|_=>A.bad)|.fptr cs=>(match cs with|c::_=>k c|[]=>A.bad)|_=>A.bad)|some _=>runR A (aLoad m x) h fun v _=>fAV v k
theorem QmQ(A:Ans α)(m:Option Nat)(x:AV)(h:Heap)(k:AV->α):loadR A m x h k=match(aLoad m x).run h with|some (v,_)=>k v|none=>A.bad:=by
 unfold loadR;split
 ·split;·rename_i b g off;rw[QbS];simp only[aLoad,HM.cells,HM.run];cases d:h.get b with|none=>rfl|some x=>cases x with|map a es=>rfl|dead a=>rfl|loop=>rfl|cells a cs=>simp only;rw[QaM,QoS];cases f:Nat.beq a g with|true=>simp only[cond_true,if_true];cases cs[off]?<;>rfl|false=>simp[HM.run]
  ·rename_i cs;split<;>rfl
  rename_i h1 c;cases x<;>first|rfl|(exact absurd rfl (h1 _ _ _))|(exact absurd rfl (c _))
 grind[Qc5,Qdi]
def one1:AV->Bool|.any|.agg _|.tup _=>false|_=>true
def storeR(A:Ans α)(m:Nat)(x v:AV)(h:Heap)(k:AV->Heap->α):α:=match x with|.ptr b g off=>ifB (one1 v&&Nat.beq m 1) (getR h b fun o=>(match o with|some (.cells a cs)=>ifB (Nat.beq a g) (ifB (Nat.ble (Nat.succ off) cs.length) (nthSetR cs off v fun cs=>putBR A h b (.cells a cs) fun h=>k .any h) A.bad) A.bad|_=>A.bad)) (runR A (aStore m x v) h k)|_=>runR A (aStore m x v) h k
theorem Qq3(A:Ans α)(m:Nat)(x v:AV)(h:Heap)(k:AV->Heap->α):storeR A m x v h k=match(aStore m x v).run h with|some (u,h')=>k u h'|none=>A.bad:=by
 unfold storeR;split
 ·rename_i b g off;rw[QaM];split
  ·rename_i h1;simp only[Zab]at h1;obtain⟨h1,f⟩:=h1;have:m=1:=by simpa using f
   subst this;have d:v.cells=[v]/\AV.one v=true:=by cases v<;>first|(exact⟨rfl,rfl⟩)|(cases h1)
   rw[QbS];simp only[aStore,HM.cells,HM.run];cases l:h.get b with|none=>rfl|some x=>cases x with|map a es=>rfl|dead a=>rfl|loop=>rfl|cells a cs=>simp only;rw[QaM,QaM];cases i:Nat.beq a g with|false=>simp[HM.run]|true=>
    have:a=g:=by simpa using i
    subst this;simp only[cond_true,if_true,d.1];by_cases c:off<cs.length
    ·rw[if_pos (Nat.ble_eq_true_of_le c),if_pos ⟨rfl,c,by simp[d.2]⟩,QpN,Qb3];simp only[HM.run];have e:Go.AM.putR cs off [v]=cs.set off v:=rfl;by_cases l:b<lim
     ·have :Nat.blt b lim=true:=by simp_all
      grind
     have :Nat.blt b lim=false:=by simp_all[ZaJ]
     grind
    rw[if_neg (fun h=>c (Zaw h)),if_neg (by simp;omega)];rfl
  grind[Qc5]
 grind[Qc5]
end
end Go.AM
namespace Go.AM
variable{P:Program}
variable{v:AV}{x:Blk}{Z h:Heap}{G I:LCode}{st:LSt}{args:List AV}{X ps2 z:List Nat}{r:Loop}{N N2 b:Nat}{g:Opd}{K:SCode}{A:St}{T T2:Tmps}{w:World}
theorem HRel.turnL{ok}{c:Ctx ok}(H:HRel c h w){g cb}(o)(p:b<lim)(f:Live h b g)(hp:c.ρ b g=some (.loc cb 0))(l:w.heap[cb]?=some (.loop r))(i:x.gen=g)(s:∀c',Evo c w c' (w.putObj cb o)->c'.ρ b g=some (.loc cb 0)->c'.O cb->BRel c' (w.putObj cb o) b x):∃c',Evo c w c' (w.putObj cb o)/\HRel c' (h.set b x) (w.putObj cb o)/\c'.ρ b g=some (.loc cb 0):=by
 subst i;have m:=Qbc l;have other:∀k,k≠cb->(w.putObj cb o).heap[k]?=w.heap[k]?:=fun k d=>World.putObj_heap_other d;have a:∀y,x.gen<y->c.ρ b y=none:=by intro y u;obtain⟨z,q,n,_⟩:=f;exact H.later b z q y (by omega)
 have:=H.put (w':=w.putObj cb o) (cb:=cb) (base:=0) p a (.inr hp) (.inr ⟨x.gen,0,f,hp⟩) rfl rfl rfl (by simp_all) (by simp_all) (fun k _ d=>other k d) (fun C e t hc=>by simp_all) (fun E=>s _ E (by show(if b=b/\x.gen=x.gen then _ else _)=_;simp_all) (.inr rfl));exact⟨_,this.1,this.2,by show(if b=b/\x.gen=x.gen then _ else _)=_;simp_all⟩
def upsT:Tmps->List Nat->List AV->Tmps|T,p::a,x::xs=>upsT (up T p x) a xs|T,_,_=>T
theorem QmR{ok}{c:Ctx ok}:∀(ps:List Nat)(xs:List AV)(vs:List Value)(T:Tmps)(t:Array Value),(∀p∈ps,p<t.size)->xs.length=ps.length->VRels c w xs vs->(∀i,VRel c w (lk T i) (t.getD i undef))->(∀i,VRel c w (lk (upsT T ps xs) i) (((ps.zip vs).foldl (fun t(p:Nat×Value)=>t.setIfInBounds p.1 p.2) t).getD i undef))/\((ps.zip vs).foldl (fun t(p:Nat×Value)=>t.setIfInBounds p.1 p.2) t).size=t.size
 |[],xs,vs,T,t,_,_,_,ht=>by cases xs<;>exact⟨ht,rfl⟩
 |p::ps,[],_,_,_,_,hl,_,_=>by simp at hl|p::ps,x::xs,vs,T,t,hp,hl,hv,ht=>by simp only[VRels]at hv;obtain⟨v,vs',rfl,h1,h2⟩:=hv;have hlt:p<t.size:=hp p (by simp);obtain⟨k1,k2⟩:=QmR ps xs vs' (up T p x) (t.setIfInBounds p v) (fun q hq=>by simp_all) (by simpa using hl) h2 (fun i=>by
  rw[lk_up];by_cases e:i=p;·simp_all
  ·rw[if_neg e];have:=ht i;simpa[Array.getElem?_setIfInBounds_ne (fun h=>e h.symm)]using this);exact⟨k1,by simp_all⟩
def stOf:SX->LSt|.normal=>.ready|e=>.done e
def SX.isNormal:SX->Bool|.normal=>true|_=>false
variable{Q:SX->St->Prop}
theorem RSpec.of_W{g}{body}{h':Heap}(hb:h.get b=some (.loop g N T z I body .ready))(Y:b<lim)(hlen:args.length=z.length)(J:∀p∈z,p<N)(hw:W P N I.slim (fun e B=>e=.normal/\∃N1 T1 s n l,B.h.get b=some (.loop g N1 T1 s n l .ready)/\W P N body.slim (fun e C=>∃N2 T2 o q d,C.h.get b=some (.loop g N2 T2 o q d .busy)/\v=.bool e.isNormal/\∀x,(C.h.set b (.loop g N2 T2 o q d (stOf e))).get x=h'.get x) ⟨B.T,B.h.set b (.loop g N1 T1 s n l .busy)⟩) ⟨upsT T z args,h⟩):RSpec P b g args h v h':=by
 intro c w f A H Z G;obtain⟨cb0,r,h1,h2,h3,L⟩:=H.blk b _ hb;rw[G]at h1;cases h1;have X:f.size=r.params.size:=by
  have e1:=QaG Z;have e2:r.params.toList.length=z.length:=by rw[L.params]
  simp_all
 refine⟨r.fn,_,r.assign,r.body,run_yield h3 X,roundIn_of_wpIn trivial ?_⟩;have m:(r.params.zip f).foldl (fun tmps(x:Nat×Value)=>tmps.setIfInBounds x.1 x.2) r.tmps=(z.zip f.toList).foldl (fun t(p:Nat×Value)=>t.setIfInBounds p.1 p.2) r.tmps:=by rw[<-Array.foldl_toList,Array.toList_zip,L.params]
 obtain⟨ht,O⟩:=QmR z args f.toList T r.tmps (fun p hp=>by rw[L.size];exact J p hp) hlen Z L.tmps;refine hw r.assign L.okA.1 (c.rb 0) ⟨_,[]⟩ w ⟨H.rebase 0,fun i=>?_,?_,Zai _⟩ (some A) (fun e=>by rw[L.okA.2]at e;cases e) _ ?_;·rw[m];exact(ht i).rebase 0
 ·rw[m,O,L.size]
 rintro e B c1 a1 w1⟨rfl,N1,T1,s,n,l,hB,K⟩S1 E1;obtain⟨U,r1,g1,g2,M,L1⟩:=S1.heap.blk b _ hB;have y:c1.ρ b g=some (.loc A 0):=E1.rho _ _ _ G;rw[show c1.ρ b g=some (.loc U 0)from g1]at y;cases y;refine⟨_,run_beginRound M L1.state,?_⟩;obtain⟨c2,E2,H2,F⟩:=S1.heap.turnL (.loop {r1 with state:=.busy}) (x:=.loop g N1 T1 s n l .busy) Y ⟨_,hB,rfl,fun k=>by simp⟩ g1 M rfl (fun c' E' S V=>⟨A,_,S,V,World.putObj_heap_same (Qbc M),by have L':=L1.mono (E'.ext S1.heap.disj);exact⟨L'.params,L'.size,L'.tmps,L'.okA,L'.okB,rfl,L'.pend⟩⟩);refine K r.body L.okB.1 c2 a1 _ ⟨H2,fun i=>Zce (E2.ext S1.heap.disj) _ _ (S1.tmps i),S1.size,S1.defers.mono E2⟩ (some A) (fun e=>by rw[L.okB.2]at e;cases e) _ ?_;rintro e C c3 a3 w3⟨N2,T2,o,q,d,hC,rfl,hh⟩S3 E3;obtain⟨R,r3,q1,q2,Q,L3⟩:=S3.heap.blk b _ hC;have u:c3.ρ b g=some (.loc A 0):=E3.rho _ _ _ F;rw[show c3.ρ b g=some (.loc R 0)from q1]at u;cases u;have fin:∀(a:Option Code),a.isNone=e.isNormal->(stOf e).pend=a->(stOf e).state=(if a.isNone then .ready else .done)->∃v w',(Instr.endRound A a).run P w3=.ok v w'/\Rets P c w h' (.bool e.isNormal) (.returned v) w':=by intro a j1 j2 j3;obtain⟨c4,E4,H4,_⟩:=S3.heap.turnL (.loop {r3 with state:=if a.isNone then .ready else .done,pending:=a}) (x:=.loop g N2 T2 o q d (stOf e)) Y ⟨_,hC,rfl,fun k=>by simp⟩ q1 Q rfl (fun c' E' S V=>⟨A,_,S,V,World.putObj_heap_same (Qbc Q),by have L':=L3.mono (E'.ext S3.heap.disj);exact⟨L'.params,L'.size,L'.tmps,L'.okA,L'.okB,j3.symm,j2.symm⟩⟩);have E:=((E1.trans E2).trans E3).trans E4;exact⟨_,_,run_endRound a Q,_,(c4.rb (c.base)),rfl,E.rebase,(Qct hh H4).rebase _,by simp[VRel,j1]⟩
 cases e with|normal=>exact fin none rfl rfl rfl|exit i=>exact fin (some (.exit i)) rfl rfl rfl|ret=>exact fin (some .ret) rfl rfl rfl
def leftQ(Q:SX->St->Prop)(B:St):LSt->Prop|.ready=>Q .normal B|.busy=>False|.done e=>e.isNormal=false/\Q e B
theorem W.rfunc{body}{f}{first cap}{as2}(las lbody)(hla:las.slim=K)(hlb:lbody.slim=body)(hg:ev A.T g=.fn f first cap)(hb:A.h.get b=none)(hl:b<lim)(hs:HSpec P f (first++[.yld b 0]++cap) (A.h.set b (.loop 0 N A.T X las lbody .ready)) v Z)(O:Z.get b=some (.loop 0 N2 T2 ps2 as2 G st))(hQ:leftQ Q ⟨A.T,Z.set b (.dead 0)⟩ st):W P N (.rfunc g X N K body) Q A:=by
 intro code R c a w S ro hro Q' q;cases code<;>simp only[okCode,Zar,Zab,beq_iff_eq,Zbq]at R;rename_i g' ps' T F;obtain⟨⟨⟨⟨⟨⟨⟨k1,k2⟩,_⟩,_⟩,k3⟩,k4⟩,k5⟩,k6⟩:=R;have:=hro rfl;subst this;have s:=Qat S.tmps k1;rw[hg]at s;simp only[VRel]at s;obtain⟨x',y',hgv,hx,hy⟩:=s;refine wpIn_rangeFunc fun fn _=>?_;obtain⟨E0,H0⟩:=S.heap.grow (w':=w.alloc (.deferred (some []))) rfl rfl rfl (by simp) (fun k l=>Go.RowKit.Below.heap_alloc w _ k l);obtain⟨rec,o⟩:∃rec:Loop,rec={state:=.ready,pending:=none,fn,tmps:=a.tmps,params:=ps',assign:=T,body:=F,defers:=w.heap.size}:=⟨_,rfl⟩;have V:(w.alloc (.deferred (some []))).heap.size=w.heap.size+1:=by simp
 obtain⟨E1,H1⟩:=H0.put (w':=(w.alloc (.deferred (some []))).alloc (.loop rec)) (b:=b) (cb:=w.heap.size+1) (base:=0) (x:=.loop 0 N A.T X las lbody .ready) hl (fun y hy=>H0.fresh b hb y) (.inl (H0.fresh b hb _)) (.inl V.symm) rfl rfl rfl (by simp) (by simp) (fun k l _=>Go.RowKit.Below.heap_alloc _ _ k l) (fun C e fr hc=>by simp_all) (fun E=>⟨w.heap.size+1,rec,by show(if b=b/\0=0 then _ else _)=_;simp_all,.inr rfl,by have:=World.alloc_heap_new (w.alloc (.deferred (some []))) (.loop rec);simp_all,by subst o;exact⟨k2,S.size,fun i=>Zce (E0.trans E|>.ext S.heap.disj) _ _ (S.tmps i),by rw[hla];exact⟨k5,k3⟩,by rw[hlb];exact⟨k6,k4⟩,rfl,rfl⟩⟩);generalize u:c.with b (Blk.loop 0 N A.T X las lbody .ready).gen (.loc (w.heap.size+1) 0) (some (w.heap.size+1))=n at E1 H1;have hρ1:n.ρ b 0=some (.loc (w.heap.size+1) 0):=by rw[<-u];show(if b=b/\0=0 then _ else _)=_;simp_all
 have hO1:∀k,n.O k->c.O k\/k=w.heap.size+1:=by
  intro k l;rw[<-u]at l;rcases l with l|l;·exact .inl l
  simp_all
 have hF1:∀k,n.F k->c.F k:=by intro k l;rw[<-u]at l;exact l
 generalize hW1:(w.alloc (.deferred (some []))).alloc (.loop rec)=W1 at E1 H1;have I:W1.heap[w.heap.size]?=some (.deferred (some [])):=by grind[Go.RowKit.Below.heap_alloc,World.alloc_heap_new]
 have E01:=E0.trans E1;have p:VRels n W1 (first++[.yld b 0]++cap) (x'++#[Value.func (.yield (w.heap.size+1)) #[] #[]]++y').toList:=by
  have e1:=Zcf (E01.ext S.heap.disj) _ _ hx;have e2:=Zcf (E01.ext S.heap.disj) _ _ hy;have e3:VRels n W1 [.yld b 0] [.func (.yield (w.heap.size+1)) #[] #[]]:=by simp only[VRels,VRel];simp_all
  grind[QbB]
 refine⟨w.heap.size+1,[{target:=.collected w.heap.size,args:=#[]}],W1,{target:=.fn (.func f) y',args:=x'++#[.func (.yield (w.heap.size+1)) #[] #[]]},W1,f,x'++#[.func (.yield (w.heap.size+1)) #[] #[]]++y',W1,?_,?_,fun _ _=>trivial,?_,fun h=>by simp[FW,Fence.wide]at h,?_⟩;·rw[<-hW1,o];exact run_enterLoop_outer _ _ _ _ _
 ·simp_all[resolve,Deferred.ofValue,Act.eval]
 ·simp only[invoke];exact Qgl hs.1 _
 refine callsFW ((hs.2 n W1 _ H1 p).mono ?_);rintro e w2⟨cv,c2,rfl,E2,H2,V2⟩;obtain⟨cb,r,p1,p2,p3,L⟩:=H2.blk b _ O;have hρ2:c2.ρ b 0=some (.loc (w.heap.size+1) 0):=E2.rho _ _ _ hρ1;rw[show c2.ρ b 0=some (.loc cb 0)from p1]at hρ2;cases hρ2;have B:r.state≠.busy:=by rw[L.state];cases st<;>simp[LSt.state,leftQ]at hQ⊢
 obtain⟨U,E3,H3,_⟩:=H2.turnL (.loop {r with state:=.exhausted}) (x:=.dead 0) hl ⟨_,O,rfl,fun k=>by simp⟩ p1 p3 rfl (fun c' _ _ _=>trivial);have J:=run_endLoop (P:=P) p3 B;generalize w2.putObj (w.heap.size+1) (.loop {r with state:=.exhausted})=W3 at E3 H3 J;refine⟨r.pending,W3,J,?_⟩;have E:=(E01.trans E2).trans E3;have H:=S.defers.low;have hD:w.heap.size<W1.heap.size:=Qbc I;have t:¬n.O w.heap.size:=fun h=>by
  rcases hO1 _ h with h|h;·have:=S.heap.inO _ h;omega
  omega
 have M:Marks U W3 ({target:=.collected w.heap.size,args:=#[]}::a.defers):=by
  have z:¬n.F w.heap.size:=fun h=>by have:=S.heap.inF _ (hF1 _ h);omega
  have step:=(E2.trans E3);have m1:Marks n W1 ({target:=.collected w.heap.size,args:=#[]}::a.defers):=by
   refine⟨⟨w.heap.size,rfl,by rw[E01.base];exact H,t,z,I,fun d' hd' e=>?_⟩,S.defers.mono E01⟩;have key:∀{Y:List Deferred},Marks c w Y->∀d∈Y,∀D,d.target=.collected D->D<w.heap.size:=by intro Y;induction Y with|nil=>intro _ d hd;cases hd|cons x xs ih=>
    rintro⟨⟨D0,x1,x2,x3,x4,x5,x6⟩,hr⟩d hd D e;rcases Zax.1 hd with rfl|hd;·grind
    grind
   have:=key S.defers d' hd' _ e;omega
  exact m1.mono step
 have S3:SRel N U ⟨A.T,Z.set b (.dead 0)⟩ {a with defers:={target:=.collected w.heap.size,args:=#[]}::a.defers} W3:=⟨H3,fun i=>Zce (E.ext S.heap.disj) _ _ (S.tmps i),S.size,M⟩;have m:=L.pend;cases st with|ready=>rw[show r.pending=none from m];exact q .normal _ U _ _ hQ S3 E|busy=>exact hQ.elim|done e=>rw[show r.pending=some e.toCode from m];obtain⟨he,hq⟩:=hQ;cases e with|normal=>cases he|exit i=>exact wpIn_exit (q (.exit i) _ U _ _ hq S3 E)|ret=>exact wpIn_ret (q .ret _ U _ _ hq S3 E)
end Go.AM
