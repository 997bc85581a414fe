/- Lemmas on the way to ExplainEventsCardSaid. Conditions: none of ours. -/
import Derived.Laws.Strings
import Derived.Laws.StructEq
import Derived.Test.YtgfnbkngfedlkaaGreatDoorAmW1
set_option linter.unusedSectionVars false
set_option maxHeartbeats 32000000
set_option maxRecDepth 100000
set_option linter.unusedVariables false
set_option linter.unusedSimpArgs false
namespace Go.AM
variable{P:Program}{ok:Okc}{c:Ctx ok}{w:World}{h:Heap}
def Pure(P:Program)(c:Ctx ok)(w:World)(s:Sem Value)(v:AV):Prop:=∃a,s.run P w=.ok a w/\VRel c w v a
theorem Pure.sound{s:Sem Value}{v:AV}(H:HRel c h w)(p:Pure P c w s v):Sound P c w s v h:=let⟨_,h1,a⟩:=p;.here H h1 a
theorem Qdk{α:Type}[BEq α][LawfulBEq α][DecidableEq α](a b:α):(a==b)=decide (a=b):=by grind
theorem QsW{α:Type}[BEq α][LawfulBEq α][DecidableEq α](a b:α):(a !=b)=!decide (a=b):=by grind
theorem QpN{op:BinOp}{t:TypeId}{x y v:AV}{h cy:Value}(f:VRel c w x h)(g:VRel c w y cy)(hm:aBin op x y=some v):Pure P c w (binOp op t h cy) v:=by
 unfold aBin at hm;split at hm
 ·rename_i k a m b;simp only[VRel]at f g;subst f;subst g;split at hm
  ·split at hm;·cases hm
   rename_i d;cases hm;exact⟨_,by simp[binOp,Op.shift,d];rfl,by simp[VRel,wr_eq]⟩
  ·split at hm;·cases hm
   rename_i d;cases hm;exact⟨_,by simp[binOp,Op.shift,d];rfl,by simp[VRel]⟩
  split at hm;·rename_i l;subst l;split at hm<;>first
   | (by_cases d:b=0;·rw[if_pos d]at hm;cases hm
      ·rw[if_neg d]at hm;cases hm;refine⟨?_,?_,?_⟩;rotate_left;·simp[binOp,Op.intDiv,d];rfl
       grind[VRel,wr_eq])
   | (cases hm;refine⟨.bool (a==b),?_,?_⟩;·simp[binOp,Op.intCmp];done
      ·grind[VRel])
   | (cases hm;refine⟨.bool (a !=b),?_,?_⟩;·simp[binOp,Op.intCmp];done
      ·grind[VRel])
   | (cases hm;refine⟨?_,?_,?_⟩;rotate_left;·simp[binOp,Op.intCmp];rfl
      ·simp[VRel];done)
   | (cases hm;refine⟨?_,?_,?_⟩;rotate_left;·simp[binOp,Op.intArith];rfl
      ·simp[VRel,wr_eq];done)
   | (cases hm;refine⟨?_,?_,?_⟩;rotate_left;·simp[binOp,Op.intBits];rfl
      ·simp[VRel,wr_eq];done)|cases hm
  cases hm
 ·rename_i a b;simp only[VRel]at f g;subst f;subst g;split at hm
  ·split at hm
   ·rename_i o;cases hm;have i:¬(9223372036854775807<(a.length:Int)+(b.length:Int)):=by omega
    exact⟨.string ⟨(a++b).toArray⟩,by simp[binOp,Op.stringOp,ByteArray.size,i];rfl,by simp[VRel]⟩
   cases hm
  all_goals first|(cases hm;exact⟨_,by simp[binOp,Op.stringOp];rfl,by simp[VRel,Qdk,QsW]⟩)|cases hm
 cases hm
theorem QrP{op:UnOp}{x v:AV}{b:Value}(a:VRel c w x b)(hm:aUn op x=some v):Pure P c w (Op.unary op b) v:=by
 unfold aUn at hm;split at hm;·simp only[VRel]at a;subst a;cases hm;exact⟨_,by simp[Op.unary,Op.intArith];rfl,by simp[VRel,wr_eq]⟩
 ·simp only[VRel]at a;subst a;cases hm;rename_i k n;refine⟨_,by simp[Op.unary,Op.intBits];rfl,?_⟩;simp only[VRel,wr_eq];cases k<;>rfl
 ·simp only[VRel]at a;subst a;cases hm;exact⟨_,by simp[Op.unary];rfl,by simp[VRel]⟩
 cases hm
def flatF(P:Program)(rec:TypeId->Option (List LK)):List Field->Nat->Option (List LK)|[],_=>some []|f::fs,off=>if f.name= "_"\/f.offset≠off then none else match rec f.type with|some ks=>if P.cellsOf f.type=ks.length then(match flatF P rec fs (off+ks.length)with|some r=>some (ks++r)|none=>none)else none|none=>none
def flatK(P:Program):Nat->TypeId->Option (List LK)|0,_=>none|d+1,t=>match P.underlying t with
 |some .bool=>some [.b]|some (.int _)=>some [.i]|some .string=>some [.s]|some (.struct fs)=>if P.stoodInHeld t then none else flatF P (flatK P d) fs.toList 0|some (.array n e)=>match flatK P d e with|some ks=>if P.cellsOf e=ks.length then some (List.replicate n ks).flatten else none|none=>none
 |_=>none
def rowB(P:Program)(t:TypeId):Bool:=match P.underlying t with|some (.struct _)|some (.array _ _)=>true|_=>false
def asVal(row:Bool)(vs:List Value):Value:=if row then .agg vs.toArray else vs.headD undef
theorem QcF:∀{ks:List LK}{xs ys:List AV}{b:Bool},eqCells ks xs ys=some b->xs.length=ks.length/\ys.length=ks.length
 |[],[],[],_,_=>by simp|[],x::xs,ys,_,c=>by simp[eqCells]at c|[],[],y::ys,_,c=>by simp[eqCells]at c|k::ks,[],ys,_,c=>by simp[eqCells]at c|k::ks,x::xs,[],_,c=>by simp[eqCells]at c|k::ks,x::xs,y::ys,b,c=>by
  simp only[eqCells]at c;split at c;·rename_i a f h1 d;have:=QcF d;simp[this]
  cases c
theorem Qci:∀{ks ks':List LK}{xs ys:List AV}{b:Bool},eqCells (ks++ks') xs ys=some b->∃d b2,eqCells ks (xs.take ks.length) (ys.take ks.length)=some d/\eqCells ks' (xs.drop ks.length) (ys.drop ks.length)=some b2/\b=(d&&b2)
 |[],ks',xs,ys,b,c=>⟨true,b,by simp[eqCells],by simpa using c,by simp⟩|k::ks,ks',[],ys,b,c=>by simp[eqCells]at c|k::ks,ks',x::xs,[],b,c=>by simp[eqCells]at c|k::ks,ks',x::xs,y::ys,b,c=>by
  simp only[Za0,eqCells]at c;split at c;·rename_i a g h1 f;obtain⟨d,b2,k1,k2,k3⟩:=Qci f;simp_all[Bool.and_assoc,eqCells]
  cases c
theorem Qdl{t:TypeId}{cs:Array Value}{off n:Nat}{i:TypeInfo}(w:World){d:TypeDesc}(b:P.underlying t=some d)(hi:P.info? t=some i)(f:i.size=n)(c:rowB P t=false->n=1)(g:off+n<=cs.size):(part t cs off).run P w=.ok (asVal (rowB P t) ((cs.toList.drop off).take n)) w:=by
 subst f;unfold part isAgg;have key:rowB P t=false->cs[off]?=some (((cs.toList.drop off).take i.size).headD undef):=by grind[List.take_one,Zb7]
 have agg:.agg (cs.extract off (off+i.size))=(Value.agg ((cs.toList.drop off).take i.size).toArray):=by congr 1;grind
 cases d<;>first
  | (have a:rowB P t=true:=by simp[rowB,b]
     simp only[Sem.run_bind,run_underlying b,Result.andThen_ok,Sem.run_pure,if_true,QaI hi,a,asVal];rw[agg])
  | (have a:rowB P t=false:=by simp[rowB,b]
     simp only[Sem.run_bind,run_underlying b,Result.andThen_ok,Sem.run_pure,Zao,if_false,key a,a,asVal])
theorem Qbk{t:TypeId}{d:TypeDesc}(a:P.underlying t=some d):∃i,P.info? t=some i:=by unfold Program.underlying at a;grind
theorem Qb8{d:Nat}{t:TypeId}{ks:List LK}(a:flatK P d t=some ks)(b:rowB P t=false):ks.length=1:=by cases d with|zero=>simp[flatK]at a|succ d=>unfold flatK at a;unfold rowB at b;split at a<;>first|(simp_all;done)|(cases a;rfl)|(rename_i c;simp[c]at b)
theorem QbX{d:Nat}{t:TypeId}{ks:List LK}(a:flatK P d t=some ks):∃u,P.underlying t=some u:=by cases d with|zero=>simp[flatK]at a|succ d=>unfold flatK at a;cases b:P.underlying t with|none=>simp[b]at a|some u=>exact⟨u,rfl⟩
def EqRun(P:Program)(c:Ctx ok)(w:World)(d:Nat):Prop:=∀(t:TypeId)(ks:List LK),flatK P d t=some ks->∀(xs a:List AV)(us f:List Value)(b:Bool),VRels c w xs us->VRels c w a f->eqCells ks xs a=some b->∀D,d<=D->(Op.equalIn D t (asVal (rowB P t) us) (asVal (rowB P t) f)).run P w=.ok b w
theorem Qgj{d:Nat}(E:EqRun P c w d):∀(fs:List Field)(off:Nat)(ks:List LK),flatF P (flatK P d) fs off=some ks->∀(xs ys:List AV)(us vs:Array Value)(b:Bool),VRels c w xs (us.toList.drop off)->VRels c w ys (vs.toList.drop off)->eqCells ks xs ys=some b->off+ks.length<=us.size->off+ks.length<=vs.size->∀D,d<=D->(Op.eqFields D us vs fs).run P w=.ok b w
 |[],off,ks,a,xs,ys,us,vs,b,o,p,A,_,_,D,t=>by simp only[flatF,Zab]at a;subst a;cases xs<;>cases ys<;>simp[eqCells]at A;simp_all[Op.eqFields]|f::fs,off,ks,a,xs,ys,us,vs,b,o,p,A,M,L,D,t=>by
  simp only[flatF]at a;split at a;·cases a
  rename_i K;have v:f.name≠ "_":=fun e=>K (.inl e);have x:f.offset=off:=by omega
  split at a
  ·rename_i k1 g;split at a
   ·rename_i hc;split at a
    ·rename_i r J;cases a;simp only[Zaf]at M L;obtain⟨G,b2,H,I,rfl⟩:=Qci A;obtain⟨u,h⟩:=QbX g;obtain⟨i,hi⟩:=Qbk h;have l:i.size=k1.length:=by simp_all[Program.cellsOf]
     have y:=QaB o;have z:=QaB p;simp at y z;have B:=Qdl (P:=P) (cs:=us) (off:=off) w h hi l (Qb8 g) (by omega);have s:=Qdl (P:=P) (cs:=vs) (off:=off) w h hi l (Qb8 g) (by omega);have k:=QaD (QaP o) 0 k1.length (by omega);have m:=QaD (QaP p) 0 k1.length (by omega);simp only[Zbm]at k m;have h1:=E f.type k1 g _ _ _ _ G k m H D t;have C:VRels c w (xs.drop k1.length) (us.toList.drop (off+k1.length)):=by have:=QaD (QaP o) k1.length (xs.length-k1.length) (by omega);grind[Za1,ZaW]
     have q:VRels c w (ys.drop k1.length) (vs.toList.drop (off+k1.length)):=by have:=QaD (QaP p) k1.length (ys.length-k1.length) (by omega);grind[Za1,ZaW]
     have N:=Qgj E fs (off+k1.length) r J _ _ us vs b2 C q I (by omega) (by omega) D t;simp only[Op.eqFields,ne_eq,v,not_false_eq_true,if_true,Sem.run_bind,x,B,s,Result.andThen_ok,h1];cases G<;>simp[N]
    cases a
   cases a
  cases a
def eqElems(D:Nat)(e:TypeId)(n:Nat)(xs ys:Array Value):List Nat->Sem Bool|[]=>pure true|i::is=>do let a<-part e xs (i*n)let b<-part e ys (i*n)let r<-Op.equalIn D e a b if(!r)=true then pure false else eqElems D e n xs ys is
theorem Qhr(D:Nat)(t e:TypeId)(len n:Nat)(xs ys:Array Value)(w:World)(h:P.underlying t=some (.array len e))(f:∀w,(sizeOf e).run P w=.ok n w):(Op.equalIn (D+1) t (.agg xs) (.agg ys)).run P w=(eqElems D e n xs ys (List.range' 0 len)).run P w:=by simp only[Op.equalIn,Sem.run_bind,run_underlying h,Result.andThen_ok,f,Std.Legacy.Range.forIn_eq_forIn_range',Std.Legacy.Range.size,Nat.sub_zero,ZbS,Nat.div_one];generalize List.range' 0 len=l;induction l generalizing w with|nil=>simp[eqElems]|cons i l m=>simp only[List.forIn_cons,eqElems,Sem.run_bind,Sem.run_ite];generalize(part e xs (i*n)).run P w=g;cases g with
 |ok a w1=>simp only[Result.andThen_ok];generalize(part e ys (i*n)).run P w1=d;cases d with
  |ok b w2=>simp only[Result.andThen_ok];generalize(Op.equalIn D e a b).run P w2=c;cases c with
   |ok r k=>
    cases r;·simp_all
    simp_all|halt x k=>simp[Result.andThen]
  |halt x w2=>simp[Result.andThen]
 |halt x w1=>simp[Result.andThen]
theorem Qhs{d:Nat}(B:EqRun P c w d){e:TypeId}{ks:List LK}(k:flatK P d e=some ks)(hc:P.cellsOf e=ks.length):∀(m s:Nat)(xs ys:List AV)(us vs:Array Value)(b:Bool),VRels c w xs (us.toList.drop (s*ks.length))->VRels c w ys (vs.toList.drop (s*ks.length))->eqCells (List.replicate m ks).flatten xs ys=some b->(s+m)*ks.length<=us.size->(s+m)*ks.length<=vs.size->∀D,d<=D->(eqElems D e ks.length us vs (List.range' s m)).run P w=.ok b w
 |0,s,xs,ys,us,vs,b,o,p,l,_,_,D,r=>by cases xs<;>cases ys<;>simp[eqCells]at l;simp_all[eqElems]|m+1,s,xs,ys,us,vs,b,o,p,l,I,H,D,r=>by
  rw[Zbr,ZbK]at l;obtain⟨A,b2,C,G,rfl⟩:=Qci l;obtain⟨u,a⟩:=QbX k;obtain⟨i,hi⟩:=Qbk a;have f:i.size=ks.length:=by simp_all[Program.cellsOf]
  have v:=QaB o;have y:=QaB p;simp at v y;have K:(s+(m+1))*ks.length=s*ks.length+ks.length+m*ks.length:=by grind
  have J:(s+1)*ks.length=s*ks.length+ks.length:=Zbo _ _;have t:=Qdl (P:=P) (cs:=us) (off:=s*ks.length) w a hi f (Qb8 k) (by omega);have x:=Qdl (P:=P) (cs:=vs) (off:=s*ks.length) w a hi f (Qb8 k) (by omega);have h:=QaD (QaP o) 0 ks.length (by omega);have g:=QaD (QaP p) 0 ks.length (by omega);simp only[Zbm]at h g;have h1:=B e ks k _ _ _ _ A h g C D r;have z:VRels c w (xs.drop ks.length) (us.toList.drop ((s+1)*ks.length)):=by have:=QaD (QaP o) ks.length (xs.length-ks.length) (by omega);grind[Za1,ZaW]
  have q:VRels c w (ys.drop ks.length) (vs.toList.drop ((s+1)*ks.length)):=by have:=QaD (QaP p) ks.length (ys.length-ks.length) (by omega);grind[Za1,ZaW]
  have E:=Qhs B k hc m (s+1) _ _ us vs b2 z q G (by grind) (by grind) D r;simp only[Zce,eqElems,Sem.run_bind,t,x,Result.andThen_ok,h1];cases A<;>simp[E]
theorem eqRun:∀d,EqRun P c w d
 |0=>fun t ks g=>by simp[flatK]at g|d+1=>by
  intro t ks g xs q us B b p m f D L;obtain⟨D',rfl⟩:∃D',D=D'+1:=⟨D-1,by omega⟩;have I:=QaB p;have J:=QaB m;obtain⟨K,G⟩:=QcF f;unfold flatK at g;split at g
  ·rename_i h;cases g;have l:rowB P t=false:=by simp[rowB,h]
   match xs,q,f with|[x],[y],f=>simp only[eqCells]at f;split at f<;>cases f;rename_i a C h1 r;cases r;cases x<;>cases y<;>simp only[eqCell,reduceCtorEq]at h1;cases h1;simp only[VRels,VRel]at p m;obtain⟨_,_,rfl,rfl,rfl⟩:=p;obtain⟨_,_,rfl,rfl,rfl⟩:=m;simp[l,asVal,Op.equalIn,run_underlying h,Qdk]
  ·rename_i k h;cases g;have l:rowB P t=false:=by simp[rowB,h]
   match xs,q,f with
   |[x],[y],f=>
    simp only[eqCells]at f;split at f<;>cases f;rename_i a C h1 r;cases r;cases x<;>cases y<;>simp only[eqCell,reduceCtorEq]at h1;split at h1;·rename_i A;cases h1;subst A;simp only[VRels,VRel]at p m;obtain⟨_,_,rfl,rfl,rfl⟩:=p;obtain⟨_,_,rfl,rfl,rfl⟩:=m;simp[l,asVal,Op.equalIn,run_underlying h];rw[Qdk]
    ·cases h1
  ·rename_i h;cases g;have l:rowB P t=false:=by simp[rowB,h]
   match xs,q,f with|[x],[y],f=>simp only[eqCells]at f;split at f<;>cases f;rename_i a C h1 r;cases r;cases x<;>cases y<;>simp only[eqCell,reduceCtorEq]at h1;cases h1;simp only[VRels,VRel]at p m;obtain⟨_,_,rfl,rfl,rfl⟩:=p;obtain⟨_,_,rfl,rfl,rfl⟩:=m;simp[l,asVal,Op.equalIn,run_underlying h,beq_toListBytes,Qdk]
  ·rename_i fs h;split at g;·cases g
   rename_i v;have l:rowB P t=true:=by simp[rowB,h]
   have hf:P.fieldsOf t=fs:=by simp[Program.fieldsOf,h]
   simp only[l,asVal,if_true];rw[run_equalIn_struct w D' t _ _ (by simp_all) (by simpa using v),hf];exact Qgj (eqRun d) fs.toList 0 ks g xs q us.toArray B.toArray b (by simpa using p) (by simpa using m) f (by simp;omega) (by simp;omega) D' (by omega)
  ·rename_i n e h;split at g
   ·rename_i o s;split at g
    ·rename_i hc;cases g;have l:rowB P t=true:=by simp[rowB,h]
     obtain⟨u,z⟩:=QbX s;obtain⟨i,hi⟩:=Qbk z;have E:i.size=o.length:=by simp_all[Program.cellsOf]
     simp only[l,asVal,if_true];rw[Qhr D' t e n o.length _ _ w h (fun w=>by simp_all[QaI])];have H:(List.replicate n o).flatten.length=n*o.length:=by simp
     exact Qhs (eqRun d) s hc n 0 xs q us.toArray B.toArray b (by simpa using p) (by simpa using m) f (by simp;omega) (by simp;omega) D' (by omega)
    cases g
   cases g
  cases g
def kindT(P:Program)(t:TypeId):Nat:=match P.underlying t with|some (.pointer _)=>1|some (.slice _)=>2|some (.map _ _)=>3|some (.func _ _ _)=>4|some (.interface _)=>5|_=>0
def eqT(P:Program)(t:TypeId):EqK->Bool
 |.flat row ks=>match row with|true=>rowB P t&&!P.eqGuardType P.depth t&&(match flatK P 40 t with|some a=>ks.length==a.length&&(ks.zip a).all (fun p=>match p with|(.b,.b)|(.i,.i)|(.s,.s)=>true|_=>false)|none=>false)|false=>match P.underlying t with|some .bool=>true|_=>false
 |.nil kind=>kindT P t==kind
theorem lk_eq:∀{ks ks':List LK},(ks.length==ks'.length&&(ks.zip ks').all (fun p=>match p with|(.b,.b)|(.i,.i)|(.s,.s)=>true|_=>false))=true->ks=ks'|[],[],_=>rfl|[],_::_,a=>by simp at a|_::_,[],a=>by simp at a|k::ks,c::ks',a=>by simp only[ZaF,List.zip_cons_cons,Zb9,Zaa,beq_iff_eq]at a;have b:=lk_eq (ks:=ks) (ks':=ks') (by simp_all);grind
theorem Que(b:Bool):(b !=false)=b:=by cases b<;>rfl
theorem Quf(b:Bool):(b !=true)=!b:=by cases b<;>rfl
theorem QpO{neg:Bool}{op:BinOp}{t:TypeId}{x y:Value}{b:Bool}(a:op=if neg then .neq else .eql)(h1:binOp .eql t x y=(do pure (.bool (<-Op.equal t x y))))(g:binOp .neq t x y=(do pure (.bool (!(<-Op.equal t x y)))))(f:∀d,(Op.equalIn (d+1) t x y).run P w=.ok b w):(binOp op t x y).run P w=.ok (.bool (b !=neg)) w:=by
 have c:(Op.equal t x y).run P w=.ok b w:=f 9999;subst a;cases neg;·simp_all
 simp_all
theorem Qug{t:TypeId}{x y:AV}{h cy:Value}{b:Bool}{g:Nat}(h1:isNil x=some (b,g))(q:isNil y=some (true,g))(p:VRel c w x h)(B:VRel c w y cy)(z:kindT P t=g):(∀d,(Op.equalIn (d+1) t h cy).run P w=.ok b w)/\binOp .eql t h cy=(do pure (.bool (<-Op.equal t h cy)))/\binOp .neq t h cy=(do pure (.bool (!(<-Op.equal t h cy))))/\∀{op:BinOp}{ox:Operand}{cv:Value},(eqGuard op t ox (.const cv) h cy).run P w=.ok () w:=by
 unfold kindT at z;have A:(cy=.pointer none/\g=1)\/(cy=.slice none 0 0/\g=2)\/(cy=.map none/\g=3)\/(cy=.nilFunc/\g=4)\/(cy=.nilIface/\g=5):=by
  unfold isNil at q;split at q<;>try simp only[Zab,Zaj,reduceCtorEq,Zao,false_and,true_and]at q
  all_goals first|(subst q;simp only[VRel]at B;subst B;simp;done)|(split at q<;>simp at q;done)|(exfalso;simp at q;done)
 have s:(b=true/\h=.pointer none/\g=1)\/(b=false/\g=1/\∃a,h=.pointer (some a))\/(b=true/\h=.slice none 0 0/\g=2)\/(b=false/\g=2/\∃a n m,h=.slice (some a) n m)\/(b=true/\h=.map none/\g=3)\/(b=false/\g=3/\∃a,h=.map (some a))\/(b=true/\h=.nilFunc/\g=4)\/(b=false/\g=4/\∃f u v,h=.func f u v)\/(b=true/\h=.nilIface/\g=5)\/(b=false/\g=5/\∃u v,h=.iface u v):=by
  unfold isNil at h1;split at h1<;>try simp only[Zab,Zaj,reduceCtorEq]at h1
  all_goals try(split at h1)
  all_goals try(simp only[Zab,Zaj,reduceCtorEq]at h1)
  all_goals try(cases h1;done)
  all_goals obtain⟨rfl,rfl⟩:=h1;simp only[VRel]at p
  ·subst p;simp
  ·grind
  ·grind
  ·subst p;simp
  ·grind
  ·grind
  ·grind
  ·subst p;simp
  ·grind
  ·grind
  ·subst p;simp
  ·grind
  ·grind
  ·subst p;simp
  ·grind
  ·grind
  obtain⟨⟨I,C,G,h1|⟨_,l,k,rfl⟩,_⟩|⟨E,_,_,_,rfl,H⟩,p⟩:=p;·simp_all
  ·simp
  rcases p with⟨hp,rfl,rfl,h1⟩|⟨I,base,o,cap,C,K,G,hp,h1,J⟩;·cases h1;omega
  cases h1;simp
 rcases A with⟨rfl,rfl⟩|⟨rfl,rfl⟩|⟨rfl,rfl⟩|⟨rfl,rfl⟩|⟨rfl,rfl⟩<;>simp only[Nat.reduceEqDiff,and_false,false_and,or_false,false_or,and_true,true_and,reduceCtorEq]at s<;>(split at z<;>first|(simp at z;done)|skip)<;>rename_i i<;>rcases s with⟨rfl,rfl⟩|⟨rfl,r⟩;·exact⟨fun d=>by simp[Op.equalIn,run_underlying i],rfl,rfl,fun{op ox cv}=>by cases op<;>rfl⟩
 ·obtain⟨_,rfl⟩:=r;exact⟨fun d=>by simp[Op.equalIn,run_underlying i],rfl,rfl,fun{op ox cv}=>by cases op<;>rfl⟩
 ·exact⟨fun d=>by simp[Op.equalIn,run_underlying i],rfl,rfl,fun{op ox cv}=>by cases op<;>rfl⟩
 ·obtain⟨_,_,_,rfl⟩:=r;exact⟨fun d=>by simp[Op.equalIn,run_underlying i],rfl,rfl,fun{op ox cv}=>by cases op<;>rfl⟩
 ·exact⟨fun d=>by simp[Op.equalIn,run_underlying i],rfl,rfl,fun{op ox cv}=>by cases op<;>rfl⟩
 ·obtain⟨_,rfl⟩:=r;exact⟨fun d=>by simp[Op.equalIn,run_underlying i],rfl,rfl,fun{op ox cv}=>by cases op<;>rfl⟩
 ·exact⟨fun d=>by simp[Op.equalIn,run_underlying i],rfl,rfl,fun{op ox cv}=>by cases op<;>rfl⟩
 ·obtain⟨_,_,_,rfl⟩:=r;exact⟨fun d=>by simp[Op.equalIn,run_underlying i],rfl,rfl,fun{op ox cv}=>by cases op<;>rfl⟩
 ·exact⟨fun d=>by simp[Op.equalIn,run_underlying i],rfl,rfl,fun{op ox cv}=>by cases op<;>cases ox<;>rfl⟩
 obtain⟨_,_,rfl⟩:=r;exact⟨fun d=>by simp[Op.equalIn,run_underlying i],rfl,rfl,fun{op ox cv}=>by cases op<;>rfl⟩
theorem QlE{k:EqK}{op:BinOp}{neg:Bool}{t:TypeId}{ox oy:Operand}{x y v:AV}{m cy:Value}(f:op=if neg then .neq else .eql)(h:VRel c w x m)(g:VRel c w y cy)(i:eqT P t k=true)(hc:(∀kind,k=.nil kind->∃v,oy=.const v))(hm:aEq k neg x y=some v):Pure P c w (do eqGuard op t ox oy m cy;binOp op t m cy) v:=by unfold aEq at hm;cases k with
 |flat row ks=>cases row with
  |true=>
   cases x<;>try(simp at hm;done)
   cases y<;>try(simp at hm;done)
   rename_i xs q;simp only at hm;split at hm
   ·rename_i b u;cases hm;simp only[VRel]at h g;obtain⟨us,rfl,h⟩:=h;obtain⟨C,rfl,g⟩:=g;simp only[eqT,Zaa,Zbx]at i;obtain⟨⟨B,p⟩,l⟩:=i;split at l
    ·rename_i E o;have:=lk_eq l;subst this;have h1:=eqRun (P:=P) (c:=c) (w:=w) 40 t ks o xs q us.toList C.toList b h g u 10000 (by omega);simp only[B,asVal,if_true,Array.toArray_toList]at h1;subst f;cases neg;·exact⟨_,by simp[run_eqGuard_agg,p,run_eql_struct,h1];rfl,by simp[VRel,Que]⟩
     exact⟨_,by simp[run_eqGuard_agg,p,run_neq_struct,h1];rfl,by simp[VRel,Quf]⟩
    simp at l
   cases hm|false=>
   cases x<;>try(simp at hm;done)
   cases y<;>try(simp at hm;done)
   rename_i a b;simp only[Zab]at hm;subst hm;simp only[VRel]at h g;subst h;subst g;simp only[eqT]at i;split at i
   ·rename_i G;have:=QpO (P:=P) (w:=w) (t:=t) (x:=.bool a) (y:=.bool b) (b:=(a==b)) f rfl rfl (fun d=>run_equalIn_bool' w d t a b G);refine⟨.bool ((a==b)!=neg),?_,?_⟩;·simp_all[eqGuard]
    grind[VRel]
   cases i
 |nil kind=>
  obtain⟨I,rfl⟩:=hc kind rfl;simp only at hm;split at hm
  ·rename_i b k1 k2 h1 H;split at hm;·rename_i l;cases hm;simp only[eqT,beq_iff_eq]at i;obtain⟨A,z,s,r⟩:=Qug (P:=P) (w:=w) (t:=t) (by rw[l.1]at h1;exact h1) (by simp_all) h g i;refine⟨.bool (b !=neg),?_,by simp[VRel]⟩;rw[Sem.run_bind,r];exact QpO f z s A
   cases hm
  cases hm
end Go.AM
namespace Go.AM
variable{P:Program}{ok:Okc}{c:Ctx ok}{w:World}{h:Heap}
def ORel(c:Ctx ok)(w:World):Option AV->Option Value->Prop|none,none=>True|some x,some v=>VRel c w x v|_,_=>False
theorem QbH{k:IntKind}{i:Int}{y:Nat}{code:BoundsCode}(a:0<=i)(h1:i<=y):(Instr.sliceBound (.int k i) y code).run P w=.ok i.toNat w:=by simp[Instr.sliceBound,asIntOf,a,h1]
theorem QdE{l:Option AV}{a:Option Value}{lw:Int}(b:ORel c w l a)(d:Int)(el:bnd d l=some lw):a=none/\lw=d\/∃k,a=some (.int k lw):=by cases l with
 |none=>cases a with|none=>cases el;exact .inl ⟨rfl,rfl⟩|some v=>simp[ORel]at b
 |some x=>cases x<;>simp only[bnd,reduceCtorEq,Zab]at el;cases a with|none=>simp[ORel]at b|some v=>simp only[ORel,VRel]at b;subst el;exact .inr ⟨_,by rw[b]⟩
theorem QbR{isSlice:Bool}{len cap:Nat}{l h:Option AV}{g ch:Option Value}{lw a:Int}(k:ORel c w l g)(b:ORel c w h ch)(el:bnd 0 l=some lw)(o:bnd len h=some a)(m:0<=lw)(h1:lw<=a)(i:a<=cap):(Instr.sliceBounds isSlice len cap g ch none).run P w=.ok (lw.toNat,a.toNat,cap) w:=by
 have f:=QdE k 0 el;have d:=QdE b len o;rcases f with⟨rfl,rfl⟩|⟨k1,rfl⟩<;>rcases d with⟨rfl,rfl⟩|⟨k2,rfl⟩;·simp[Instr.sliceBounds]
 ·simp_all[Instr.sliceBounds,QbH]
 ·simp_all[QbH,Instr.sliceBounds]
 have p:((a.toNat:Nat):Int)=a:=by omega
 have:=QbH (P:=P) (w:=w) (k:=k1) (y:=a.toNat) (code:=.sliceB) m (by omega);simp[Instr.sliceBounds,QbH (P:=P) (w:=w) (by omega:0<=a) i,this]
def sliceT(P:Program)(t:TypeId)(sz:Option Nat):Bool:=match P.underlying t,sz with|some (.slice e),some n=>(match P.info? e with|some i=>i.size==n|none=>false)|some .string,none=>true|_,_=>false
theorem QcK{t:TypeId}{sz:Option Nat}{x v:AV}{l hi mx:Option AV}{cx:Value}{cl ch cm:Option Value}(q:VRel c w x cx)(L:ORel c w l cl)(K:ORel c w hi ch)(V:ORel c w mx cm)(ht:sliceT P t sz=true)(Z:∀b g off len s,x=.sl b g off len s->sz=some s)(M:∀cs len s,x=.fsl cs len s->sz=some s)(hst:(∃s,x=.str s)->sz=none)(T:(∃s,x=.str s)\/sz≠none)(hm:aSlice x l hi mx=some v):Pure P c w (Instr.sliceAt t cx cl ch cm) v:=by
 unfold aSlice at hm;simp only at hm;split at hm;·cases hm
 rename_i lw el;have h:sz≠none->∃e i n,P.underlying t=some (.slice e)/\P.info? e=some i/\sz=some n/\i.size=n:=by intro hne;unfold sliceT at ht;grind
 cases mx with
 |some m=>cases m<;>simp only[reduceCtorEq]at hm;rename_i km r;cases cm with|none=>simp[ORel]at V|some cmv=>simp only[ORel,VRel]at V;subst V;cases hi with|none=>simp at hm|some hv=>cases hv<;>simp only[reduceCtorEq]at hm;rename_i kh f;cases ch with|none=>simp[ORel]at K|some chv=>
  simp only[ORel,VRel]at K;subst K;split at hm
  ·rename_i d;obtain⟨rfl,rfl,rfl⟩:=d;have U:∀len cap,(Instr.sliceBounds true len cap cl (some (.int kh 0)) (some (.int km 0))).run P w=.ok (0,0,0) w:=by
    intro len cap;have b1:=QbH (P:=P) (w:=w) (k:=km) (i:=0) (y:=cap) (code:=.slice3Acap) (by omega) (by omega);have b2:=QbH (P:=P) (w:=w) (k:=kh) (i:=0) (y:=0) (code:=.slice3B) (by omega) (by omega);rcases QdE L 0 el with⟨rfl,_⟩|⟨k1,rfl⟩;·simp[Instr.sliceBounds,b1,b2]
    simp_all[QbH,Instr.sliceBounds]
   cases x<;>simp only[reduceCtorEq,Zab]at hm;all_goals subst hm;obtain⟨e,i,n,S,z,J,k⟩:=h (T.resolve_left (by simp));simp only[VRel]at q
   ·subst q;exact⟨.slice none 0 0,by simp_all[Instr.sliceAt,Instr.slice,run_underlying,QaI],by simp[VRel]⟩
   ·rcases q with⟨hp,rfl,rfl,rfl⟩|⟨p,base,o,cap,C,I,E,hp,rfl,G,A,y⟩;·exact⟨.slice none 0 0,by simp_all[Instr.sliceAt,Instr.slice,run_underlying,QaI],by simp[VRel]⟩
    exact⟨.slice (some ⟨p,o,none⟩) 0 0,by simp_all[Instr.sliceAt,Instr.slice,run_underlying,QaI],by simp[VRel]⟩
   ·rcases q with⟨⟨a0,rfl⟩,rfl,rfl⟩|⟨p,off,cap,C,I,E,rfl,G,hlen,X,A,u⟩;·exact⟨.slice a0 0 0,by simp_all[Instr.sliceAt,Instr.slice,run_underlying,QaI],by simp[VRel]⟩
    exact⟨.slice (some ⟨p,off,none⟩) 0 0,by simp_all[Instr.sliceAt,Instr.slice,run_underlying,QaI],by simp[VRel]⟩
   obtain⟨a,rfl⟩:=q;exact⟨.slice a 0 0,by simp_all[Instr.sliceAt,Instr.slice,run_underlying,QaI],by simp[VRel]⟩
  rename_i hne0;have U:∀(len cap:Nat),0<=lw->lw<=f->f<=r->r<=cap->(Instr.sliceBounds true len cap cl (some (.int kh f)) (some (.int km r))).run P w=.ok (lw.toNat,f.toNat,r.toNat) w:=by
   intro len cap q1 q2 q3 q4;have b1:=QbH (P:=P) (w:=w) (k:=km) (i:=r) (y:=cap) (code:=.slice3Acap) (by omega) (by omega);have b2:=QbH (P:=P) (w:=w) (k:=kh) (i:=f) (y:=r.toNat) (code:=.slice3B) (by omega) (by omega);rcases QdE L 0 el with⟨rfl,e0⟩|⟨k1,rfl⟩;·simp_all[Instr.sliceBounds]
   have b3:=QbH (P:=P) (w:=w) (k:=k1) (i:=lw) (y:=f.toNat) (code:=.slice3C) (by omega) (by omega);simp_all[Instr.sliceBounds]
  cases x<;>simp only[reduceCtorEq]at hm;case sl b g off len s=>
   split at hm
   ·rename_i d;obtain⟨H,h1,Q,h3⟩:=d;cases hm;obtain⟨e,i,n,S,z,J,k⟩:=h (by simp_all);have:=Z _ _ _ _ _ rfl;rw[J]at this;cases this;subst k;simp only[VRel]at q;rcases q with⟨hp,rfl,rfl,rfl⟩|⟨p,base,o,cap,C,I,E,hp,rfl,G,A,y⟩;·omega
    have N:=U len cap H h1 Q (by omega);refine⟨.slice (if r.toNat=lw.toNat then some ⟨p,o,none⟩else some (Addr.add ⟨p,o,none⟩ (lw.toNat*i.size))) (f.toNat-lw.toNat) (r.toNat-lw.toNat),?_,?_⟩;·simp_all[Instr.sliceAt,Instr.slice,run_underlying,QaI]
    simp only[VRel];refine .inr ?_;by_cases hc:r.toNat=lw.toNat;·rw[if_pos hc];grind
    rw[if_neg hc,QbL];have R:cap≠0:=by omega
    obtain⟨rfl,hbd⟩:=y.resolve_left R;refine⟨p,base,_,r.toNat-lw.toNat,C,I,E,hp,rfl,by omega,A,.inr ⟨by omega,?_⟩⟩;have q1:lw.toNat*i.size+(r.toNat-lw.toNat)*i.size=r.toNat*i.size:=by rw[<-ZbV];congr 1;omega
    have q2:r.toNat*i.size<=cap*i.size:=Zba _ (by omega);omega
   ·cases hm
  case fsl cs len s=>
   split at hm
   ·rename_i d;obtain⟨H,h1,Q,h3⟩:=d;cases hm;obtain⟨e,i,n,S,z,J,k⟩:=h (by simp_all);have:=M _ _ _ rfl;rw[J]at this;cases this;subst k;simp only[VRel]at q;rcases q with⟨⟨a0,rfl⟩,rfl,rfl⟩|⟨p,off,cap,C,I,E,rfl,G,hlen,X,A,u⟩;·omega
    have N:=U len cap H h1 Q (by omega);have a1:lw.toNat*i.size+(f.toNat-lw.toNat)*i.size=f.toNat*i.size:=by rw[<-ZbV];congr 1;omega
    have a2:f.toNat*i.size<=len*i.size:=Zba _ (by omega);refine⟨.slice (if r.toNat=lw.toNat then some ⟨p,off,none⟩else some (Addr.add ⟨p,off,none⟩ (lw.toNat*i.size))) (f.toNat-lw.toNat) (r.toNat-lw.toNat),?_,?_⟩;·simp_all[Instr.sliceAt,Instr.slice,run_underlying,QaI]
    simp only[VRel];refine .inr ?_;by_cases hc:r.toNat=lw.toNat
    ·rw[if_pos hc];have Y:f.toNat-lw.toNat=0:=by omega
     exact⟨p,off,r.toNat-lw.toNat,C,I,E,rfl,by omega,by simp[Y],X,A,by simp[Y,VPre]⟩
    rw[if_neg hc,QbL];refine⟨p,_,r.toNat-lw.toNat,C,I,E,rfl,by omega,by simp;omega,X,A,?_⟩;have:=Qb7 ((f.toNat-lw.toNat)*i.size) (Qba (lw.toNat*i.size) u);simp_all
   ·cases hm
 |none=>
  have hcm:cm=none:=by grind[ORel]
  subst hcm;simp only at hm;cases x<;>simp only at hm<;>try(cases hm;done)
  case sl b g off len s=>
   obtain⟨e,i,n,S,z,J,k⟩:=h (by simp_all);have:=Z _ _ _ _ _ rfl;rw[J]at this;cases this;subst k;split at hm;·cases hm
   ·rename_i f B;split at hm
    ·rename_i d;obtain⟨H,h1,Q,_⟩:=d;cases hm;simp only[VRel]at q;rcases q with⟨hp,rfl,rfl,rfl⟩|⟨p,base,o,cap,C,I,E,hp,rfl,G,A,y⟩
     ·have N:=QbR (P:=P) (w:=w) (isSlice:=true) (cap:=0) L K el B H h1 (by omega);have e1:lw=0:=by omega
      have e2:f=0:=by omega
      subst e1;subst e2;refine⟨.slice none 0 0,?_,by simp_all[VRel]⟩;simp_all[Instr.sliceAt,Instr.slice,run_underlying,QaI]
     have N:=QbR (P:=P) (w:=w) (isSlice:=true) (cap:=cap) L K el B H h1 (by omega);refine⟨.slice (if cap=lw.toNat then some ⟨p,o,none⟩else some (Addr.add ⟨p,o,none⟩ (lw.toNat*i.size))) (f.toNat-lw.toNat) (cap-lw.toNat),?_,?_⟩;·simp_all[Instr.sliceAt,Instr.slice,run_underlying,QaI]
     simp only[VRel];refine .inr ?_;by_cases hc:cap=lw.toNat;·rw[if_pos hc];grind
     rw[if_neg hc,QbL];have R:cap≠0:=by omega
     obtain⟨rfl,hbd⟩:=y.resolve_left R;refine⟨p,base,_,cap-lw.toNat,C,I,E,hp,rfl,by omega,A,.inr ⟨by omega,?_⟩⟩;have:cap*i.size=lw.toNat*i.size+(cap-lw.toNat)*i.size:=by rw[<-ZbV];congr 1;omega
     omega
    cases hm
  case fsl cs len s=>
   obtain⟨e,i,n,S,z,J,k⟩:=h (by simp_all);have:=M _ _ _ rfl;rw[J]at this;cases this;subst k;split at hm;·cases hm
   ·rename_i f B;split at hm
    ·rename_i d;obtain⟨H,h1,Q⟩:=d;cases hm;simp only[VRel]at q;rcases q with⟨⟨a0,rfl⟩,rfl,rfl⟩|⟨p,off,cap,C,I,E,rfl,G,hlen,X,A,u⟩
     ·have N:=QbR (P:=P) (w:=w) (isSlice:=true) (cap:=0) L K el B H h1 (by omega);have e1:lw=0:=by omega
      have e2:f=0:=by omega
      subst e1;subst e2;refine⟨.slice a0 0 0,?_,by simp_all[VRel]⟩;simp_all[Instr.sliceAt,Instr.slice,run_underlying,QaI]
     have N:=QbR (P:=P) (w:=w) (isSlice:=true) (cap:=cap) L K el B H h1 (by omega);have a1:lw.toNat*i.size+(f.toNat-lw.toNat)*i.size=f.toNat*i.size:=by rw[<-ZbV];congr 1;omega
     have a2:f.toNat*i.size<=len*i.size:=Zba _ (by omega);refine⟨.slice (if cap=lw.toNat then some ⟨p,off,none⟩else some (Addr.add ⟨p,off,none⟩ (lw.toNat*i.size))) (f.toNat-lw.toNat) (cap-lw.toNat),?_,?_⟩;·simp_all[Instr.sliceAt,Instr.slice,run_underlying,QaI]
     simp only[VRel];refine .inr ?_;by_cases hc:cap=lw.toNat
     ·rw[if_pos hc];have Y:f.toNat-lw.toNat=0:=by omega
      exact⟨p,off,cap-lw.toNat,C,I,E,rfl,by omega,by simp[Y],X,A,by simp[Y,VPre]⟩
     rw[if_neg hc,QbL];refine⟨p,_,cap-lw.toNat,C,I,E,rfl,by omega,by simp;omega,X,A,?_⟩;have:=Qb7 ((f.toNat-lw.toNat)*i.size) (Qba (lw.toNat*i.size) u);simp_all
    cases hm
  case nilsl=>
   simp only[VRel]at q;subst q;obtain⟨e,i,n,S,z,J,k⟩:=h (T.resolve_left (by simp));split at hm;·cases hm
   ·rename_i f B;split at hm;·rename_i d;obtain⟨rfl,rfl⟩:=d;cases hm;have N:=QbR (P:=P) (w:=w) (isSlice:=true) (len:=0) (cap:=0) L K el B (by omega) (by omega) (by omega);refine⟨.slice none 0 0,?_,by simp[VRel]⟩;simp_all[Instr.sliceAt,Instr.slice,run_underlying,QaI]
    cases hm
  case esl=>
   simp only[VRel]at q;obtain⟨a,rfl⟩:=q;obtain⟨e,i,n,S,z,J,k⟩:=h (T.resolve_left (by simp));split at hm;·cases hm
   ·rename_i f B;split at hm;·rename_i d;obtain⟨rfl,rfl⟩:=d;cases hm;have N:=QbR (P:=P) (w:=w) (isSlice:=true) (len:=0) (cap:=0) L K el B (by omega) (by omega) (by omega);refine⟨.slice a 0 0,?_,by simp[VRel]⟩;simp_all[Instr.sliceAt,Instr.slice,run_underlying,QaI]
    cases hm
  case str s=>
   simp only[VRel]at q;subst q;have S:P.underlying t=some .string:=by unfold sliceT at ht;grind
   split at hm;·cases hm
   ·rename_i f B;split at hm
    ·rename_i d;obtain⟨H,h1,Q⟩:=d;cases hm;have hsize:(ByteArray.mk s.toArray).size=s.length:=by simp[ByteArray.size]
     have N:=QbR (P:=P) (w:=w) (isSlice:=false) (len:=s.length) (cap:=s.length) L K el B H h1 Q;refine⟨.string ((ByteArray.mk s.toArray).extract lw.toNat f.toNat),?_,?_⟩;·simp_all[Instr.sliceAt,Instr.slice,run_underlying]
     simp_all[VRel,ByteArray.extract,ByteArray.copySlice]
    cases hm
def fieldT(P:Program)(s:TypeId)(field off:Nat)(n:Option Nat):Bool:=match P.underlying s with|some (.struct fs)=>(match fs[field]? with|some f=>f.offset==off&&rowT P f.type n|none=>false)|_=>false
theorem Qnx{s:TypeId}{field off:Nat}{n:Option Nat}{x v:AV}{d:Value}(b:VRel c w x d)(a:fieldT P s field off n=true)(hm:aField n off x=some v):Pure P c w (Instr.field s d field) v:=by
 unfold aField at hm;cases x<;>simp only[reduceCtorEq]at hm;rename_i cs;simp only[VRel]at b;obtain⟨k,rfl,b⟩:=b;unfold fieldT at a;split at a
 ·rename_i fs p;split at a;·rename_i f hf;simp only[Zaa,beq_iff_eq]at a;obtain⟨rfl,h⟩:=a;have hlen:=QaB b;simp at hlen;cases n with|none=>simp only at hm;obtain⟨i,h1,g⟩:=Qcr f.offset b hm;rw[ZaR]at h1;exact⟨i,by simp_all[Instr.field,run_underlying,part,QcQ,asAgg],g⟩|some n=>
   simp only at hm;split at hm;·rename_i o;cases hm;obtain⟨m,l⟩:=QcR h w;refine⟨.agg (k.extract f.offset (f.offset+n)),by simp_all[Instr.field,run_underlying,part,asAgg],?_⟩;simp only[VRel];refine⟨_,rfl,?_⟩;simp_all[QaD,QaP]
   cases hm
  cases a
 cases a
theorem QlF{t:TypeId}{sz:Nat}{x v:AV}{l hi:Option AV}{r:Value}{E ch:Option Value}(d:VRel c w x r)(S:ORel c w l E)(J:ORel c w hi ch)(M:sliceT P t (some sz)=true)(hm:aSliceK sz x l hi=some v):Pure P c w (Instr.sliceAt t r E ch none) v:=by
 obtain⟨e,i,X,R,B⟩:∃e i,P.underlying t=some (.slice e)/\P.info? e=some i/\i.size=sz:=by unfold sliceT at M;grind
 subst B;have core:∀{b g off len m:Nat}{lw f:Int},VRel c w (.sl b g off len i.size) r->(∀a k,r=.slice a len k->m<=k)->bnd 0 l=some lw->bnd len hi=some f->0<=lw->lw<=f->f<=m->lw<m->Pure P c w (Instr.sliceAt t r E ch none) (.typed 0 (m-lw.toNat+1) (.sl b g (off+lw.toNat*i.size) (f.toNat-lw.toNat) i.size)):=by
  intro b g off len m lw f d H el u p h1 z y;simp only[VRel]at d;rcases d with⟨hp,rfl,rfl,rfl⟩|⟨G,base,o,cap,C,I,N,hp,rfl,K,L,q⟩;·have :=H _ _ rfl;omega
  have T:=H _ _ rfl;have V:=QbR (P:=P) (w:=w) (isSlice:=true) (cap:=cap) S J el u p h1 (by omega);refine⟨.slice (if cap=lw.toNat then some ⟨G,o,none⟩else some (Addr.add ⟨G,o,none⟩ (lw.toNat*i.size))) (f.toNat-lw.toNat) (cap-lw.toNat),?_,?_⟩;·simp_all[Instr.sliceAt,Instr.slice,run_underlying,QaI]
  have hc:cap≠lw.toNat:=by omega
  rw[if_neg hc,QbL];simp only[VRel];obtain⟨rfl,Q⟩:=q.resolve_left (by omega);refine⟨.inr ⟨by omega,_,_,_,rfl,by omega⟩,.inr ⟨G,base,_,cap-lw.toNat,C,I,N,hp,rfl,by omega,L,.inr ⟨by omega,?_⟩⟩⟩;have:cap*i.size=lw.toNat*i.size+(cap-lw.toNat)*i.size:=by rw[<-ZbV];congr 1;omega
  omega
 unfold aSliceK at hm;split at hm
 ·rename_i b g off len s;split at hm
  ·rename_i lw f el u;split at hm
   ·rename_i hc;obtain⟨rfl,p,h1,z,y⟩:=hc;cases hm;refine core d (fun a k e=>?_) el u p h1 z y;subst e;simp only[VRel]at d;rcases d with⟨_,_,_,e⟩|⟨_,_,_,_,_,_,_,_,e,h,_⟩;·cases e;omega
    cases e;exact h
   cases hm
  cases hm
 ·rename_i U m b g off len s;split at hm
  ·rename_i lw f el u;split at hm;·rename_i hc;obtain⟨rfl,p,h1,z,y⟩:=hc;cases hm;simp only[VRel]at d;obtain⟨A,d⟩:=d;refine core (by simpa only[VRel]using d) (fun a k e=>?_) el u p h1 z y;subst e;exact A.room
   cases hm
  cases hm
 cases hm
def faddrT(P:Program)(s:TypeId)(field off:Nat):Bool:=match P.underlying s with|some (.struct fs)=>(match fs[field]? with|some f=>f.offset==off&&(match P.info? f.type with|some i=>i.size !=0|none=>false)|none=>false)|_=>false
theorem Qny{s:TypeId}{field off:Nat}{x v:AV}{k:Value}(a:VRel c w x k)(b:faddrT P s field off=true)(hm:aFAddr off x=some v):Pure P c w (Instr.fieldAt s k field) v:=by
 unfold faddrT at b;split at b
 ·rename_i fs p;split at b
  ·rename_i f hf;simp only[Zaa,beq_iff_eq]at b;obtain⟨rfl,m⟩:=b;split at m
   ·rename_i i hi;have g:∀w,(sizeOf f.type).run P w=.ok i.size w:=QaI hi;have d:i.size≠0:=by simpa using m
    have l:∃y,VRel c w y k/\aFAddr f.offset y=some v/\∀t n z,y≠.typed t n z:=by cases x with|typed t n y=>simp only[VRel]at a;cases y<;>simp only[aFAddr,reduceCtorEq]at hm;exact⟨_,a.2,hm,fun _ _ _=>by simp⟩|_=>exact⟨_,a,hm,fun _ _ _=>by simp⟩
    clear a hm;obtain⟨x,a,hm,r⟩:=l;cases x<;>simp only[aFAddr,reduceCtorEq,Zab]at hm<;>try(subst hm;simp only[VRel]at a)
    rotate_right;·simp_all
    ·obtain⟨q,base,hp,rfl⟩:=a;exact⟨_,by simp[Instr.fieldAt,run_underlying p,hf,Instr.sureAddr,fieldPlace,g,d];rfl,by simp_all[VRel,QbL,Nat.add_assoc]⟩
    obtain⟨q,o,C,e,u,rfl,A,B,h⟩:=a;refine⟨_,by simp[Instr.fieldAt,run_underlying p,hf,Instr.sureAddr,fieldPlace,g,d];rfl,?_⟩;simp only[VRel,QbL];refine⟨q,_,C,e,u,rfl,A,B,?_⟩;have:=Qba f.offset h;simp_all
   cases m
  cases b
 cases b
def iaddrT(P:Program)(t:TypeId)(arr:Option Nat)(sz:Nat):Bool:=match P.underlying t,arr with|some (.array n e),some m=>n==m&&(match P.info? e with|some i=>i.size==sz|none=>false)|some (.slice e),none=>(match P.info? e with|some i=>i.size==sz|none=>false)|_,_=>false
theorem Qnz{t:TypeId}{arr:Option Nat}{sz:Nat}{x i v:AV}{I ci:Value}(h:VRel c w x I)(hi:VRel c w i ci)(a:iaddrT P t arr sz=true)(hm:aIAddr arr sz x i=some v):Pure P c w (Instr.indexAt t I ci) v:=by
 unfold aIAddr at hm;cases i<;>simp only[reduceCtorEq]at hm;rename_i k i;simp only[VRel]at hi;subst hi;unfold iaddrT at a;split at a
 ·rename_i n e m r;simp only[Zaa,beq_iff_eq]at a;obtain⟨rfl,a⟩:=a;split at a
  ·rename_i p l;have f:=QaI l w;have H:p.size=sz:=by simpa using a
   subst H;cases x<;>simp only[reduceCtorEq]at hm
   ·split at hm;·rename_i hc;cases hm;simp only[VRel]at h;obtain⟨u,base,hp,rfl⟩:=h;refine⟨_,by simp[Instr.indexAt,asIntOf,run_underlying r,Instr.sureAddr,hc,f];rfl,?_⟩;simp_all[VRel,QbL,Nat.add_assoc]
    cases hm
   split at hm;·rename_i hc;cases hm;simp only[VRel]at h;obtain⟨u,o,C,y,A,rfl,B,z,d⟩:=h;refine⟨_,by simp[Instr.indexAt,asIntOf,run_underlying r,Instr.sureAddr,hc,f];rfl,?_⟩;simp only[VRel,QbL];refine⟨u,_,C,y,A,rfl,B,z,?_⟩;have:=Qba (i.toNat*p.size) d;simp_all
   cases hm
  cases a
 ·rename_i e r;split at a
  ·rename_i p l;have f:=QaI l w;have H:p.size=sz:=by simpa using a
   subst H;cases x<;>simp only[reduceCtorEq]at hm
   ·split at hm
    ·rename_i b g off len s hc;obtain⟨E,h1,rfl⟩:=hc;cases hm;simp only[VRel]at h;rcases h with⟨hp,rfl,_⟩|⟨u,base,o,cap,C,y,A,hp,rfl,G,z,q⟩;·omega
     obtain⟨rfl,_⟩:=q.resolve_left (by omega);refine⟨_,by simp[Instr.indexAt,asIntOf,run_underlying r,E,h1,f];rfl,?_⟩;simp_all[VRel,QbL,Nat.add_assoc]
    cases hm
   split at hm
   ·rename_i cs len s hc;obtain⟨E,h1,rfl⟩:=hc;cases hm;simp only[VRel]at h;rcases h with⟨⟨J,rfl⟩,rfl,rfl⟩|⟨u,off,cap,C,y,A,rfl,G,hlen,B,z,d⟩;·omega
    refine⟨_,by simp[Instr.indexAt,asIntOf,run_underlying r,E,h1,f];rfl,?_⟩;simp only[VRel,QbL];refine⟨u,_,C,y,A,rfl,B,z,?_⟩;have:=Qba (i.toNat*p.size) d;simp_all
   cases hm
  cases a
 cases a
def indexT(P:Program)(t:TypeId)(arr:Option (Nat×Nat×Bool)):Bool:=match P.underlying t,arr with|some (.array n e),some (m,sz,row)=>n==m&&rowT P e (if row then some sz else none)&&(match P.info? e with|some i=>i.size==sz|none=>false)|some .string,none=>true|_,_=>false
theorem QnA{t:TypeId}{arr:Option (Nat×Nat×Bool)}{x i v:AV}{o ci:Value}(d:VRel c w x o)(hi:VRel c w i ci)(a:indexT P t arr=true)(hm:aIndex arr x i=some v):Pure P c w (Instr.index t o ci) v:=by
 unfold aIndex at hm;cases i<;>simp only[reduceCtorEq]at hm;rename_i k i;simp only[VRel]at hi;subst hi;unfold indexT at a;split at a
 ·rename_i n e m sz row A;simp only[Zaa,beq_iff_eq]at a;obtain⟨⟨rfl,l⟩,a⟩:=a;split at a
  ·rename_i f h;have z:=QaI h w;have q:f.size=sz:=by simpa using a
   subst q;cases x<;>simp only[reduceCtorEq]at hm;rename_i cs;simp only[VRel]at d;obtain⟨u,rfl,d⟩:=d;split at hm;·rename_i hc;cases row with
    |true=>
     simp only[if_true]at hm l;split at hm;·rename_i C;cases hm;obtain⟨E,B⟩:=QcR l w;refine⟨.agg (u.extract (i.toNat*f.size) (i.toNat*f.size+f.size)),by simp_all[Instr.index,asIntOf,run_underlying,part],?_⟩;simp only[VRel];refine⟨_,rfl,?_⟩;simp_all[QaD,QaP]
     cases hm|false=>simp only[Zao,if_false]at hm l;obtain⟨y,h1,r⟩:=Qcr _ d hm;rw[ZaR]at h1;exact⟨y,by simp_all[Instr.index,asIntOf,run_underlying,part,QcQ],r⟩
   cases hm
  cases a
 ·rename_i A;cases x<;>simp only[reduceCtorEq]at hm;rename_i s;simp only[VRel]at d;subst d;split at hm
  ·rename_i G;split at hm
   ·rename_i b p;cases hm;refine⟨.int .u8 b.toNat,?_,by simp[VRel]⟩;have:(ByteArray.mk s.toArray)[i.toNat]?=some b:=by
     have g:i.toNat<s.length:=by grind
     rw[getElem?_pos (ByteArray.mk s.toArray) i.toNat (by simp_all[ByteArray.size])];rw[Zal g]at p;cases p;rfl
    simp_all[Instr.index,asIntOf,run_underlying]
   cases hm
  cases hm
 cases a
def lenT(P:Program)(t:TypeId)(k:Nat):Bool:=match P.underlying t with|some .string=>k==0|some (.slice _)=>k==1|some (.map _ _)=>k==2|_=>false
def lenKind:AV->Nat|.str _=>0|.sl ..|.fsl ..|.nilsl|.esl|.nsl=>1|.typed _ _ (.sl ..)=>1|.nilmap|.map ..|.fmap ..=>2|_=>3
theorem QbI:∀{xs:List (AV×AV)}{es:List MapEntry}{clock:Nat},MRel c w xs es clock->xs.length=es.length|[],es,_,a=>by simp_all[MRel]|(k,x)::r,es,clock,a=>by simp only[MRel]at a;obtain⟨e,b,rfl,_,_,_,_,d⟩:=a;simp[QbI d]
theorem QpP{t ty:TypeId}{x v:AV}{cx:Value}{h':Heap}(H:HRel c h w)(hx:VRel c w x cx)(ht:lenT P t (lenKind x)=true)(hm:(aLen x).run h=some (v,h')):Sound P c w (Builtin.len_ #[t] ty #[cx]) v h':=by
 have t0:lenT P t 0=true->P.underlying t=some .string:=by grind[lenT]
 have t1:lenT P t 1=true->∃e,P.underlying t=some (.slice e):=by unfold lenT;grind
 have t2:lenT P t 2=true->∃k e,P.underlying t=some (.map k e):=by unfold lenT;grind
 cases x<;>simp only[aLen]at hm<;>try(cases hm;done)
 case str s=>
  simp only[HM.run,Zab,Zaj]at hm;obtain⟨rfl,rfl⟩:=hm;simp only[VRel]at hx;subst hx;have hu:=t0 ht;have hs:(ByteArray.mk s.toArray).size=s.length:=by simp[ByteArray.size]
  exact .here H (cv:=goInt s.length) (by simp[Builtin.len_,run_underlying hu,hs]) (by simp[VRel,goInt])
 case sl b g off len sz=>
  simp only[HM.run,Zab,Zaj]at hm;obtain⟨rfl,rfl⟩:=hm;obtain⟨e,hu⟩:=t1 ht;simp only[VRel]at hx;rcases hx with⟨hp,rfl,rfl,rfl⟩|⟨cb,base,o,cap,C,e',fr,hp,rfl,hlc,hC,hcap⟩;·exact .here H (cv:=goInt 0) (by simp[Builtin.len_,run_underlying hu]) (by simp[VRel,goInt])
  ·exact .here H (cv:=goInt len) (by simp[Builtin.len_,run_underlying hu]) (by simp[VRel,goInt])
 case typed tt nn y=>
  cases y<;>simp only[aLen]at hm<;>try(cases hm;done)
  rename_i b g off len sz;simp only[HM.run,Zab,Zaj]at hm;obtain⟨rfl,rfl⟩:=hm;obtain⟨e,hu⟩:=t1 ht;simp only[VRel]at hx;rcases hx.2 with⟨hp,rfl,rfl,rfl⟩|⟨cb,base,o,cap,C,e',fr,hp,rfl,hlc,hC,hcap⟩;·exact .here H (cv:=goInt 0) (by simp[Builtin.len_,run_underlying hu]) (by simp[VRel,goInt])
  ·exact .here H (cv:=goInt len) (by simp[Builtin.len_,run_underlying hu]) (by simp[VRel,goInt])
 case fsl cs len sz=>
  simp only[HM.run,Zab,Zaj]at hm;obtain⟨rfl,rfl⟩:=hm;obtain⟨e,hu⟩:=t1 ht;simp only[VRel]at hx;rcases hx with⟨⟨a0,rfl⟩,rfl,rfl⟩|⟨cb,off,cap,C,e',fr,rfl,hlc,hlen,hF,hC,hpre⟩;·exact .here H (cv:=goInt 0) (by simp[Builtin.len_,run_underlying hu]) (by simp[VRel,goInt])
  ·exact .here H (cv:=goInt len) (by simp[Builtin.len_,run_underlying hu]) (by simp[VRel,goInt])
 case nilsl=>simp only[HM.run,Zab,Zaj]at hm;obtain⟨rfl,rfl⟩:=hm;obtain⟨e,hu⟩:=t1 ht;simp only[VRel]at hx;subst hx;exact .here H (cv:=goInt 0) (by simp[Builtin.len_,run_underlying hu]) (by simp[VRel,goInt])
 case esl=>simp only[HM.run,Zab,Zaj]at hm;obtain⟨rfl,rfl⟩:=hm;obtain⟨e,hu⟩:=t1 ht;simp only[VRel]at hx;obtain⟨a,rfl⟩:=hx;exact .here H (cv:=goInt 0) (by simp[Builtin.len_,run_underlying hu]) (by simp[VRel,goInt])
 case nsl=>simp only[HM.run,Zab,Zaj]at hm;obtain⟨rfl,rfl⟩:=hm;obtain⟨e,hu⟩:=t1 ht;simp only[VRel]at hx;obtain⟨a,k,rfl⟩:=hx;exact .here H (cv:=goInt 0) (by simp[Builtin.len_,run_underlying hu]) (by simp[VRel,goInt])
 case nilmap=>simp only[HM.run,Zab,Zaj]at hm;obtain⟨rfl,rfl⟩:=hm;obtain⟨k,e,hu⟩:=t2 ht;simp only[VRel]at hx;subst hx;exact .here H (cv:=goInt 0) (by simp[Builtin.len_,run_underlying hu]) (by simp[VRel,goInt])
 case fmap ks vs=>
  simp only[HM.run,Zab,Zaj]at hm;obtain⟨rfl,rfl⟩:=hm;obtain⟨k,e',hu⟩:=t2 ht;simp only[VRel]at hx;obtain⟨mb,es,clock,rfl,hF,hC,hcl,hst,h6,h7⟩:=hx;have hl:ks.length=es.size:=by have:=QaB h6;simp_all
  have hg:(getObj mb).run P w=.ok (.map es clock) w:=by simp[getObj,Sem.run,hC]
  exact .here H (cv:=goInt es.size) (by simp[Builtin.len_,run_underlying hu,hg]) (by simp[VRel,goInt];omega)
 case map b g=>
  simp only[HM.run]at hm;split at hm;·rename_i g' es hb;cases e:Nat.beq g' g with|false=>rw[e]at hm;simp[HM.run]at hm|true=>
   rw[e]at hm;have:g'=g:=by simpa using e
   subst this;simp only[cond_true,HM.run,Zab,Zaj]at hm;obtain⟨rfl,rfl⟩:=hm;obtain⟨k,e',hu⟩:=t2 ht;simp only[VRel]at hx;obtain⟨cb,hp,rfl⟩:=hx;obtain⟨cb',es',clock,h1,hO,hC,hR,_⟩:=H.blk b _ hb;rw[hp]at h1;cases h1;have hl:=QbI hR;have hg:(getObj cb).run P w=.ok (.map es' clock) w:=by simp[getObj,Sem.run,hC]
   exact .here H (cv:=goInt es'.size) (by simp[Builtin.len_,run_underlying hu,hg]) (by simp_all[VRel,goInt])
  grind[HM.run]
theorem Qlu{i:Nat}{x v:AV}{b:Value}(a:VRel c w x b)(hm:aExtract i x=some v):Pure P c w (Instr.extract b i) v:=by unfold aExtract at hm;cases x<;>simp only[reduceCtorEq]at hm;simp only[VRel]at a;obtain⟨g,rfl,a⟩:=a;obtain⟨f,h1,d⟩:=Qcr i a hm;rw[ZaR]at h1;exact⟨f,by simp[Instr.extract,h1],d⟩
def aConv(k:IntKind)(x:AV):Option AV:=match x with|.int _ n=>some (.int k (wr k n))|_=>none
def convT(P:Program)(src dst:TypeId)(k:IntKind):Bool:=match P.underlying src,P.underlying dst with|some _,some (.int a)=>k==a|_,_=>false
theorem Qo6{src dst:TypeId}{k:IntKind}{x v:AV}{b:Value}(f:VRel c w x b)(a:convT P src dst k=true)(hm:aConv k x=some v):Pure P c w (convert src dst b) v:=by
 unfold aConv at hm;cases x<;>simp only[reduceCtorEq,Zab]at hm;subst hm;simp only[VRel]at f;subst f;unfold convT at a;split at a
 ·rename_i d h i g;have:k=h:=by simpa using a
  subst this;exact⟨_,by simp[convert,run_underlying i,run_underlying g,Conv.intToInt];rfl,by simp[VRel,wr_eq]⟩
 cases a
def aConvS(x:AV):Option AV:=match x with|.str s=>some (.str s)|.int _ n=>if 0<=n/\n<128 then some (.str [UInt8.ofNat n.toNat])else none|_=>none
def convST(P:Program)(src dst:TypeId):Bool:=match P.underlying src,P.underlying dst with|some _,some .string=>true|_,_=>false
theorem QnB{src dst:TypeId}{x v:AV}{h:Value}(b:VRel c w x h)(a:convST P src dst=true)(hm:aConvS x=some v):Pure P c w (convert src dst h) v:=by
 unfold aConvS at hm;cases x<;>simp only[reduceCtorEq,Zab]at hm
 ·rename_i k n;split at hm
  ·rename_i i;cases hm;simp only[VRel]at b;subst b;unfold convST at a;split at a
   ·rename_i d g f;have he:Utf8.encode n=⟨#[UInt8.ofNat n.toNat]⟩:=by grind[Utf8.valid,Utf8.encode]
    exact⟨_,by simp[convert,run_underlying g,run_underlying f,Conv.intToString,he];rfl,by simp[VRel]⟩
   cases a
  cases hm
 subst hm;simp only[VRel]at b;subst b;unfold convST at a;split at a;·rename_i d g f;exact⟨_,by simp[convert,run_underlying g,run_underlying f];rfl,by simp[VRel]⟩
 cases a
def aMax(mn:Bool)(xs:List AV):Option AV:=match xs with|[.int k a,.int _ b]=>some (.int k (if mn then(if b<a then b else a)else(if a<b then b else a)))|_=>none
theorem Qj7{mn:Bool}{ats:Array TypeId}{ty:TypeId}{xs:List AV}{v:AV}{d:Array Value}(g:VRels c w xs d.toList)(hm:aMax mn xs=some v):Pure P c w (if mn then Builtin.min_ ats ty d else Builtin.max_ ats ty d) v:=by
 unfold aMax at hm;split at hm
 ·rename_i k a h b;cases hm;simp only[VRels,VRel]at g;obtain⟨_,_,f,rfl,_,_,rfl,rfl,rfl⟩:=g;refine⟨_,?_,by simp only[VRel];exact rfl⟩;cases mn;·simp[Builtin.max_,f,Builtin.max2]
  simp[Builtin.min_,f,Builtin.min2]
 cases hm
def aCopy(sz:Nat)(x y:AV):HM AV:=match x with|.sl b g off len s=>if s=sz then aSrc sz y fun a n=>.cells b g fun cs=>if off+min n len*sz<=cs.length/\a.all AV.one=true/\sz≠0 then .put b (.cells g (putR cs off (a.take (min n len*sz)))) (.ret (.int .i64 ((min n len:Nat):Int)))else .fail else .fail|.nilsl=>aSrc sz y fun _ _=>.ret (.int .i64 0)|.esl=>aSrc sz y fun _ _=>.ret (.int .i64 0)|_=>.fail
theorem QsX{ys:List AV}{us:List Value}(i:VRels c w ys us)(g:ys.all AV.one=true):∀u∈us,u.oneCell'=true:=by
 intro u m;obtain⟨j,k,rfl⟩:=Zcb.1 m;have l:=QaB i;obtain⟨p,d,b⟩:=Qcr j i (Zal (by omega:j<ys.length));rw[Zal k]at d;cases d;have h1:(ys[j]).one=true:=by simp_all
 have o:=Qc3 (x:=ys[j]) b (by cases f:ys[j]<;>simp_all[AV.one,AV.cells]);have:(us[j]).cells=#[us[j]]\/∃a,us[j]=.agg a:=by cases us[j]<;>simp[Value.cells]
 rcases this with h|⟨a,h⟩;·simp_all
 rw[h]at b;exfalso;cases f:ys[j]<;>rw[f]at b h1<;>simp[AV.one]at h1<;>simp[VRel]at b;rcases b.1 with⟨_,_,_,k1,_⟩|⟨_,_,_,_,k1,_⟩<;>simp_all
theorem Qo7{t t2 ty e:TypeId}{sz:Nat}{x y v:AV}{cx cy:Value}{ti:TypeInfo}{h':Heap}(H:HRel c h w)(hx:VRel c w x cx)(hy:VRel c w y cy)(hu:P.underlying t=some (.slice e))(hi:P.info? e=some ti)(hsz:ti.size=sz)(hm:(aCopy sz x y).run h=some (v,h')):Sound P c w (Builtin.copy_ #[t,t2] ty #[cx,cy]) v h':=by
 subst hsz;have hs:=QaI (P:=P) hi;have nilcase:∀(a:Option Addr)(hm:(aSrc ti.size y fun _ _=>.ret (.int .i64 0)).run h=some (v,h')),Sound P c w (Builtin.copy_ #[t,t2] ty #[.slice a 0 0,cy]) v h':=by intro a hm;replace hm:=QcS (P:=P) H hy hm;obtain⟨ys,n,us,S,hm⟩:=hm;simp only[HM.run,Zab,Zaj]at hm;obtain⟨rfl,rfl⟩:=hm;have hf:=S.firstm w 0 (Zah _) rfl;simp at hf;refine .here H (cv:=goInt 0) ?_ (by simp[VRel,goInt]);cases a<;>simp[Builtin.copy_,run_underlying hu,S.lenOf,hs,hf,storeCells]
 cases x<;>simp only[aCopy]at hm<;>try(cases hm;done)
 case nilsl=>simp_all[VRel]
 case esl=>simp only[VRel]at hx;grind
 case sl b g off len s=>
  split at hm
  ·rename_i e1;subst e1;replace hm:=QcS (P:=P) H hy hm;obtain⟨ys,n,us,S,hm⟩:=hm;obtain⟨cs,hb,hm⟩:=Qa6 hm;split at hm
   ·rename_i hcond;obtain⟨hl,hone,hne⟩:=hcond;obtain⟨hlim,hm⟩:=QaU hm;simp only[HM.run,Zab,Zaj]at hm;obtain⟨rfl,rfl⟩:=hm;have hul:=QaB S.rels;have hyl:=S.len;have hmin:min n len*ti.size<=n*ti.size:=Zba _ (Nat.min_le_left _ _);have hf:=S.firstm w (min n len) (Nat.min_le_left _ _) rfl;have hvr:VRels c w (ys.take (min n len*ti.size)) (us.take (min n len*ti.size)):=by have:=QaD (QaP S.rels) 0 (min n len*ti.size) (by omega);simp_all
    simp only[VRel]at hx;rcases hx with⟨hp,rfl,rfl,rfl⟩|⟨cb,base,o,cap,C,e',fr,hp,rfl,hlc,hC,hcap⟩
    ·have hcs:cs=[]:=by
      rcases H.blk b _ hb with⟨_,h2⟩|⟨_,_,_,_,_,h1,_⟩;·exact h2
      simp_all
     subst hcs;obtain⟨E,H'⟩:=H.putNil (b:=b) (g:=g) hlim (fun y hy=>H.later b _ hb y hy) (.inr hp);have e0:putR [] 0 (List.take (min n 0*ti.size) ys)=[]:=by simp[putR]
     rw[e0];refine⟨goInt 0,_,w,?_,E,H',by simp[VRel,goInt]⟩;simp at hf;simp[Builtin.copy_,run_underlying hu,S.lenOf,hs,hf]
    ·by_cases h0:min n len=0
     ·have e0:putR cs off (List.take (min n len*ti.size) ys)=cs:=by simp[putR,h0]
      rw[e0];have hst:=Qdi (P:=P) H hb hlim hp (vs:=[]) (us:=[]) (off:=0) (by simp) (by simp[VRels]) (by simp);obtain⟨c',w',hr,E,H'⟩:=hst;have e1:putR cs 0 []=cs:=by simp[putR]
      rw[e1]at H';simp only[storeCells,Sem.run_pure]at hr;cases hr;refine⟨goInt 0,c',w,?_,E,H',by simp[VRel,goInt,h0]⟩;simp only[h0,Nat.zero_mul,List.take_zero]at hf;simp[Builtin.copy_,run_underlying hu,S.lenOf,hs];rw[show n.min len=0 from h0,hf];simp[storeCells]
     ·obtain⟨rfl,hbd⟩:=hcap.resolve_left (by omega);obtain⟨c',w',hr,E,H'⟩:=Qdi (P:=P) H hb hlim hp (vs:=ys.take (min n len*ti.size)) (us:=us.take (min n len*ti.size)) (off:=off) (by simp;omega) hvr (fun u hu=>QsX S.rels hone u (ZaQ hu));refine⟨goInt (min n len:Nat),c',w',?_,E,H',by simp[VRel,goInt]⟩;simp[Builtin.copy_,run_underlying hu,S.lenOf,hs];simp_all
   grind[HM.run]
  grind[HM.run]
end Go.AM
namespace Go.AM
variable{P:Program}{ok:Okc}{c:Ctx ok}{w:World}{h:Heap}
def keyEq(row:Bool)(ks:List LK)(k a:AV):Option Bool:=match row with
 |true=>match k,a with|.agg xs,.agg b=>eqCells ks xs b|_,_=>none
 |false=>eqCells ks [k] [a]
def aFind(row:Bool)(ks:List LK)(k:AV):List (AV×AV)->Nat->Option (Option (Nat×AV))|[],_=>some none|(a,v)::r,i=>match keyEq row ks k a with|some true=>some (some (i,v))|some false=>aFind row ks k r (i+1)|none=>none
def HM.entries{α:Type}(b g:Nat)(k:List (AV×AV)->HM α):HM α:=.look b fun x=>match x with|some (.map a es)=>bif Nat.beq a g then k es else .fail|_=>.fail
def keyOK(row:Bool)(ks:List LK)(k:AV):Bool:=match keyEq row ks k k with|some _=>true|none=>false
def aLookup(row:Bool)(ks:List LK)(zero:AV)(ok:Bool)(x k:AV):HM AV:=if keyOK row ks k then match x with
 |.nilmap=>.ret (if ok then .tup [zero,.bool false]else zero)|.map b g=>.entries b g fun es=>match aFind row ks k es 0 with|some (some (_,v))=>.ret (if ok then .tup [v,.bool true]else v)|some none=>.ret (if ok then .tup [zero,.bool false]else zero)|none=>.fail
 |.fmap a c=>match aFind row ks k (a.zip c) 0 with|some (some (_,v))=>.ret (if ok then .tup [v,.bool true]else v)|some none=>.ret (if ok then .tup [zero,.bool false]else zero)|none=>.fail
 |_=>.fail else .fail
def aMapUpd(row:Bool)(ks:List LK)(x k v:AV):HM AV:=if keyOK row ks k then match x with
 |.map b g=>.entries b g fun es=>match aFind row ks k es 0 with|some (some (i,_))=>.put b (.map g (es.set i (k,v))) (.ret .any)|some none=>.put b (.map g (es++[(k,v)])) (.ret .any)|none=>.fail
 |_=>.fail else .fail
def aMakeMap(s:Site)(i:Nat):HM AV:=.new s i (fun g=>.map g []) fun b g=>.ret (.map b g)
theorem Qgk{row:Bool}{ks:List LK}{k f:AV}{g d:Value}{b:Bool}(h:keyEq row ks k f=some b)(i:VRel c w k g)(a:VRel c w f d):∃xs ys us vs,g=asVal row us/\d=asVal row vs/\VRels c w xs us/\VRels c w ys vs/\eqCells ks xs ys=some b:=by cases row with|true=>cases k<;>cases f<;>simp only[keyEq,reduceCtorEq]at h;simp only[VRel]at i a;obtain⟨us,rfl,h1⟩:=i;obtain⟨vs,rfl,l⟩:=a;exact⟨_,_,us.toList,vs.toList,by simp[asVal],by simp[asVal],h1,l,h⟩|false=>exact⟨[k],[f],[g],[d],by simp[asVal],by simp[asVal],by simp[VRels,i],by simp[VRels,a],h⟩
theorem QlG{ks:List LK}{xs ys:List AV}{b:Bool}(d:eqCells ks xs ys=some b):(∃c,eqCells ks xs xs=some c)/\∃c,eqCells ks ys ys=some c:=by induction ks generalizing xs ys b with|nil=>cases xs<;>cases ys<;>simp[eqCells]at d⊢|cons k ks h=>
 cases xs<;>cases ys<;>simp only[eqCells,reduceCtorEq]at d⊢;rename_i x xs y ys;split at d
 ·rename_i a c h1 g;obtain⟨⟨m,i⟩,⟨b2,l⟩⟩:=h g;rw[i,l];have:(∃f,eqCell k x x=some f)/\∃f,eqCell k y y=some f:=by cases k<;>cases x<;>cases y<;>simp[eqCell]at h1⊢
  grind
 cases d
theorem Qgl:∀{ks:List LK}{xs ys:List AV}{us vs:List Value},eqCells ks xs ys=some true->VRels c w xs us->VRels c w ys vs->us=vs/\∀u∈us,(∃k n,u=.int k n)\/(∃b,u=.bool b)\/∃s,u=.string s
 |[],xs,ys,us,vs,d,f,g=>by cases xs<;>cases ys<;>simp[eqCells]at d;simp only[VRels]at f g;simp_all|k::ks,xs,ys,us,vs,d,f,g=>by
  cases xs<;>cases ys<;>simp only[eqCells,reduceCtorEq]at d;rename_i x xs y ys;split at d
  ·rename_i a b h1 t;have h:a=true/\b=true:=by simp_all
   obtain⟨rfl,rfl⟩:=h;simp only[VRels]at f g;obtain⟨u,r,rfl,o,l⟩:=f;obtain⟨v,q,rfl,m,i⟩:=g;obtain⟨rfl,p⟩:=Qgl t l i;have:u=v/\((∃k n,u=.int k n)\/(∃b,u=.bool b)\/∃s,u=.string s):=by
    cases k<;>cases x<;>cases y<;>simp only[eqCell,reduceCtorEq,Zab]at h1<;>simp only[VRel]at o m<;>subst o<;>subst m;·simp_all
    ·simp_all
    simp_all
   grind
  cases d
def CkRun(P:Program)(c:Ctx ok)(w:World)(d:Nat):Prop:=∀(t:TypeId)(ks:List LK),flatK P d t=some ks->∀(xs:List AV)(us:List Value)(b:Bool),VRels c w xs us->eqCells ks xs xs=some b->∀e D,d<=D->(Instr.checkKey e D t (asVal (rowB P t) us)).run P w=.ok () w
def ckFields(D:Nat)(e:Bool)(us:Array Value):List Field->Sem Unit|[]=>pure ()|f::fs=>if f.name≠ "_"then do let a<-part f.type us f.offset;Instr.checkKey e D f.type a;ckFields D e us fs else ckFields D e us fs
def ckElems(D:Nat)(e:Bool)(t:TypeId)(n:Nat)(us:Array Value):List Nat->Sem Unit|[]=>pure ()|i::is=>do let a<-part t us (i*n)Instr.checkKey e D t a;ckElems D e t n us is
theorem Qlv(D:Nat)(e:Bool)(t:TypeId)(us:Array Value)(fs:Array Field)(w:World)(c:P.underlying t=some (.struct fs)):(Instr.checkKey e (D+1) t (.agg us)).run P w=(ckFields D e us fs.toList).run P w:=by simp only[Instr.checkKey,Sem.run_bind,run_underlying c,Result.andThen_ok];rw[<-Array.forIn_toList];generalize fs.toList=l;clear c;induction l generalizing w with|nil=>simp[ckFields]|cons f l d=>
 simp only[List.forIn_cons,ckFields,Sem.run_bind,Sem.run_ite];split;·generalize(part f.type us f.offset).run P w=g;cases g with
  |ok a w1=>simp only[Result.andThen_ok];generalize(Instr.checkKey e D f.type a).run P w1=h;cases h with|ok b w2=>simp only[Result.andThen_ok,Sem.run_pure];exact d w2|halt x w2=>simp[Result.andThen]
  |halt x w1=>simp[Result.andThen]
 simp_all
theorem QlH(D:Nat)(e:Bool)(t el:TypeId)(len n:Nat)(us:Array Value)(w:World)(h:P.underlying t=some (.array len el))(c:∀w,(sizeOf el).run P w=.ok n w):(Instr.checkKey e (D+1) t (.agg us)).run P w=(ckElems D e el n us (List.range' 0 len)).run P w:=by simp only[Instr.checkKey,Sem.run_bind,run_underlying h,Result.andThen_ok,c,Std.Legacy.Range.forIn_eq_forIn_range',Std.Legacy.Range.size,Nat.sub_zero,ZbS,Nat.div_one];generalize List.range' 0 len=l;induction l generalizing w with|nil=>simp[ckElems]|cons i l d=>simp only[List.forIn_cons,ckElems,Sem.run_bind,c,Result.andThen_ok];generalize(part el us (i*n)).run P w=g;cases g with
 |ok a w1=>simp only[Result.andThen_ok];generalize(Instr.checkKey e D el a).run P w1=f;cases f with|ok b w2=>simp only[Result.andThen_ok,Sem.run_pure];exact d w2|halt x w2=>simp[Result.andThen]
 |halt x w1=>simp[Result.andThen]
theorem Qgm{d:Nat}(t:CkRun P c w d):∀(fs:List Field)(off:Nat)(ks:List LK),flatF P (flatK P d) fs off=some ks->∀(xs:List AV)(us:Array Value)(b:Bool),VRels c w xs (us.toList.drop off)->eqCells ks xs xs=some b->off+ks.length<=us.size->∀e D,d<=D->(ckFields D e us fs).run P w=.ok () w
 |[],off,ks,a,xs,us,b,l,s,_,e,D,m=>by simp[ckFields]|f::fs,off,ks,a,xs,us,b,l,s,G,e,D,m=>by
  simp only[flatF]at a;split at a;·cases a
  rename_i z;have C:f.name≠ "_":=fun e=>z (.inl e);have E:f.offset=off:=by omega
  split at a
  ·rename_i k1 g;split at a
   ·rename_i hc;split at a
    ·rename_i r A;cases a;simp only[Zaf]at G;obtain⟨v,b2,y,B,rfl⟩:=Qci s;obtain⟨u,k⟩:=QbX g;obtain⟨i,hi⟩:=Qbk k;have p:i.size=k1.length:=by simp_all[Program.cellsOf]
     have q:=QaB l;simp at q;have x:=Qdl (P:=P) (cs:=us) (off:=off) w k hi p (Qb8 g) (by omega);have h:=QaD (QaP l) 0 k1.length (by omega);simp only[Zbm]at h;have h1:=t f.type k1 g _ _ v h y e D m;have o:VRels c w (xs.drop k1.length) (us.toList.drop (off+k1.length)):=by have:=QaD (QaP l) k1.length (xs.length-k1.length) (by omega);grind[Za1,ZaW]
     have H:=Qgm t fs (off+k1.length) r A _ us b2 o B (by omega) e D m;simp_all[ckFields]
    cases a
   cases a
  cases a
theorem Qht{d:Nat}(r:CkRun P c w d){el:TypeId}{ks:List LK}(h:flatK P d el=some ks)(hc:P.cellsOf el=ks.length):∀(m s:Nat)(xs:List AV)(us:Array Value)(b:Bool),VRels c w xs (us.toList.drop (s*ks.length))->eqCells (List.replicate m ks).flatten xs xs=some b->(s+m)*ks.length<=us.size->∀e D,d<=D->(ckElems D e el ks.length us (List.range' s m)).run P w=.ok () w
 |0,s,xs,us,b,g,o,_,e,D,k=>by simp[ckElems]|m+1,s,xs,us,b,g,o,B,e,D,k=>by
  rw[Zbr,ZbK]at o;obtain⟨t,b2,v,x,rfl⟩:=Qci o;obtain⟨u,f⟩:=QbX h;obtain⟨i,hi⟩:=Qbk f;have p:i.size=ks.length:=by simp_all[Program.cellsOf]
  have q:=QaB g;simp at q;have z:(s+(m+1))*ks.length=s*ks.length+ks.length+m*ks.length:=by grind
  have A:(s+1)*ks.length=s*ks.length+ks.length:=Zbo _ _;have y:=Qdl (P:=P) (cs:=us) (off:=s*ks.length) w f hi p (Qb8 h) (by omega);have a:=QaD (QaP g) 0 ks.length (by omega);simp only[Zbm]at a;have h1:=r el ks h _ _ t a v e D k;have l:VRels c w (xs.drop ks.length) (us.toList.drop ((s+1)*ks.length)):=by have:=QaD (QaP g) ks.length (xs.length-ks.length) (by omega);grind[Za1,ZaW]
  have C:=Qht r h hc m (s+1) _ us b2 l x (by grind) e D k;simp_all[Zce,ckElems]
theorem ckRun:∀d,CkRun P c w d
 |0=>fun t ks a=>by simp[flatK]at a|d+1=>by
  intro t ks a xs us b l m e D v;obtain⟨D',rfl⟩:∃D',D=D'+1:=⟨D-1,by omega⟩;have s:=QaB l;obtain⟨p,_⟩:=QcF m;unfold flatK at a;split at a;·simp_all[Instr.checkKey,run_underlying]
  ·simp_all[Instr.checkKey,run_underlying]
  ·simp_all[Instr.checkKey,run_underlying]
  ·rename_i fs h;split at a;·cases a
   have o:rowB P t=true:=by simp[rowB,h]
   simp only[o,asVal,if_true];rw[Qlv D' e t _ fs w h];exact Qgm (ckRun d) fs.toList 0 ks a xs us.toArray b (by simpa using l) m (by simp;omega) e D' (by omega)
  ·rename_i n el h;split at a
   ·rename_i f g;split at a
    ·rename_i hc;cases a;have o:rowB P t=true:=by simp[rowB,h]
     obtain⟨u,k⟩:=QbX g;obtain⟨i,hi⟩:=Qbk k;have r:i.size=f.length:=by simp_all[Program.cellsOf]
     simp only[o,asVal,if_true];rw[QlH D' e t el n f.length _ w h (fun w=>by simp_all[QaI])];have q:(List.replicate n f).flatten.length=n*f.length:=by simp
     exact Qht (ckRun d) g hc n 0 xs us.toArray b (by simpa using l) m (by simp;omega) e D' (by omega)
    cases a
   cases a
  cases a
def FoundRel(c:Ctx ok)(w:World):Option (Nat×AV)->Option (Nat×Value)->Prop|none,none=>True|some (a,x),some (b,d)=>a=b/\VRel c w x d|_,_=>False
theorem Qj8{d:TypeId}{row:Bool}{ks:List LK}(i:flatK P 40 d=some ks)(m:rowB P d=row){k g:AV}{f a:Value}{b:Bool}(he:keyEq row ks k g=some b)(h1:VRel c w k f)(o:VRel c w g a):(Op.equal d f a).run P w=.ok b w:=by obtain⟨xs,r,us,q,rfl,rfl,h,l,p⟩:=Qgk he h1 o;have:=eqRun (P:=P) (c:=c) (w:=w) 40 d ks i _ _ _ _ b h l p 10000 (by omega);rw[m]at this;exact this
theorem Qfb{m:TypeId}{row:Bool}{ks:List LK}(h:flatK P 40 m=some ks)(g:rowB P m=row){k:AV}{o:Value}(a:VRel c w k o):∀(es:List (AV×AV))(ms:List MapEntry)(clock i:Nat)(r:Option (Nat×AV)),MRel c w es ms clock->aFind row ks k es i=some r->∃b,(Instr.findAsking m o ms i).run P w=.ok b w/\FoundRel c w r b
 |[],ms,clock,i,r,hm,hf=>by simp only[MRel]at hm;subst hm;simp only[aFind,Zab]at hf;subst hf;exact⟨none,by simp[Instr.findAsking],trivial⟩|(s,x)::es,ms,clock,i,r,hm,hf=>by
  simp only[MRel]at hm;obtain⟨e,d,rfl,h1,p,t,u,q⟩:=hm;simp only[aFind]at hf;split at hf;·rename_i f;cases hf;exact⟨some (i,e.val),by simp[Instr.findAsking,Qj8 h g f a h1],rfl,p⟩
  ·rename_i f;obtain⟨b,l,hrel⟩:=Qfb h g a es d clock (i+1) r q hf;exact⟨b,by simp[Instr.findAsking,Qj8 h g f a h1,l],hrel⟩
  cases hf
theorem QiI{d:TypeDesc}{x y:AV}{u v:Value}{k:LK}{b:Bool}(h:(match k with|.b=>d=.bool|.i=>∃a,d=.int a|.s=>d=.string))(he:eqCell k x y=some b)(g:VRel c w x u)(f:VRel c w y v):Instr.sameNow d u v=some b:=by
 cases k<;>cases x<;>cases y<;>simp only[eqCell,reduceCtorEq,Zab]at he<;>simp only[VRel]at g f<;>subst g<;>subst f<;>simp only at h;·simp_all[Instr.sameNow,Qdk]
 ·obtain⟨a,rfl⟩:=h;simp_all[Instr.sameNow,Qdk]
 simp_all[Instr.sameNow,beq_toListBytes,Qdk]
theorem Qhu{d:TypeDesc}{lk:LK}(q:(match lk with|.b=>d=.bool|.i=>∃m,d=.int m|.s=>d=.string)){k:AV}{h:Value}(a:VRel c w k h):∀(es:List (AV×AV))(ms:List MapEntry)(clock i:Nat)(r:Option (Nat×AV)),MRel c w es ms clock->aFind false [lk] k es i=some r->∃g,Instr.findNow d h ms i=some g/\FoundRel c w r g
 |[],ms,clock,i,r,hm,hf=>by simp only[MRel]at hm;subst hm;simp only[aFind,Zab]at hf;subst hf;exact⟨none,by simp[Instr.findNow],trivial⟩|(l,x)::es,ms,clock,i,r,hm,hf=>by
  simp only[MRel]at hm;obtain⟨e,f,rfl,h1,t,v,u,p⟩:=hm;simp only[aFind,keyEq]at hf;have one:∀b,eqCells [lk] [k] [l]=some b->eqCell lk k l=some b:=by grind[eqCells]
  split at hf;·rename_i s;cases hf;exact⟨some (i,e.val),by grind[Instr.findNow,QiI],rfl,t⟩
  ·rename_i s;obtain⟨g,o,hrel⟩:=Qhu q a es f clock (i+1) r p hf;grind[Instr.findNow,QiI]
  cases hf
structure MapT(P:Program)(t:TypeId)(row:Bool)(ks:List LK)(kt et:TypeId):Prop where
 hu:P.underlying t=some (.map kt et)hk:flatK P 40 kt=some ks
 hr:rowB P kt=row
theorem Qbx{t i x:TypeId}{row:Bool}{ks:List LK}(T:MapT P t row ks i x){k:AV}{d:Value}(b:VRel c w k d){es:List (AV×AV)}{ms:List MapEntry}{clock:Nat}{r:Option (Nat×AV)}(hm:MRel c w es ms clock)(hf:aFind row ks k es 0=some r):∃l,(Instr.findKey i d ms).run P w=.ok l w/\FoundRel c w r l:=by
 obtain⟨u,o⟩:=QbX T.hk;have h:(Instr.findKey i d ms).run P w=(match Instr.findNow u d ms 0 with|some r=>.ok r w|none=>(Instr.findAsking i d ms).run P w):=by simp only[Instr.findKey,Sem.run_bind,run_underlying o,Result.andThen_ok];cases Instr.findNow u d ms 0<;>rfl
 rw[h];cases row with|true=>
  have g:Instr.findNow u d ms 0=none\/(ms=[]/\Instr.findNow u d ms 0=some none):=by cases ms with|nil=>exact .inr ⟨rfl,rfl⟩|cons e ms=>left;have f:=T.hr;unfold rowB at f;rw[o]at f;cases u<;>simp at f<;>simp[Instr.findNow,Instr.sameNow]
  rcases g with g|⟨rfl,g⟩;·rw[g];exact Qfb T.hk T.hr b es ms clock 0 r hm hf
  rw[g];have:es=[]:=by cases es with|nil=>rfl|cons a es=>obtain⟨z,y⟩:=a;simp[MRel]at hm
  subst this;simp only[aFind,Zab]at hf;subst hf;exact⟨none,rfl,trivial⟩|false=>
  have m:∃lk,ks=[lk]/\(match lk with|.b=>u=.bool|.i=>∃p,u=.int p|.s=>u=.string):=by have v:=T.hk;have f:=T.hr;unfold rowB at f;rw[o]at f;unfold flatK at v;grind
  obtain⟨lk,rfl,q⟩:=m;obtain⟨l,h1,s⟩:=Qhu q b es ms clock 0 r hm hf;rw[h1];exact⟨l,rfl,s⟩
theorem Qep{t f l:TypeId}{row:Bool}{ks:List LK}(T:MapT P t row ks f l){k:AV}{h:Value}(a:VRel c w k h)(d:keyOK row ks k=true)(e:Bool):(Instr.checkKey e 10000 f h).run P w=.ok () w:=by
 unfold keyOK at d;split at d;·rename_i b p;obtain⟨xs,u,us,q,h1,r,o,s,i⟩:=Qgk p a a;obtain⟨⟨m,g⟩,_⟩:=QlG i;have:=ckRun (P:=P) (c:=c) (w:=w) 40 f ks T.hk xs us m o g e 10000 (by omega);rw[T.hr,<-h1]at this;exact this
 cases d
theorem Qcl{α:Type}{b g:Nat}{k:List (AV×AV)->HM α}{r:α×Heap}(hm:(HM.entries b g k).run h=some r):∃es,h.get b=some (.map g es)/\(k es).run h=some r:=by
 simp only[HM.entries,HM.run]at hm;split at hm;·rename_i a es c;cases e:Nat.beq a g with|false=>rw[e]at hm;simp[HM.run]at hm|true=>
  rw[e]at hm;have:a=g:=by simpa using e
  subst this;exact⟨es,c,hm⟩
 grind[HM.run]
theorem HRel.atMap(H:HRel c h w){b g:Nat}{es:List (AV×AV)}(d:h.get b=some (.map g es)){cb base:Nat}(hp:c.ρ b g=some (.loc cb base)):∃ms clock,c.O cb/\w.heap[cb]?=some (.map ms clock)/\MRel c w es ms.toList clock/\clock=es.length:=by obtain⟨f,a,clock,h1,l,k,i⟩:=H.blk b _ d;rw[hp]at h1;cases h1;exact⟨a,clock,l,k,i⟩
theorem QbG{cb:Nat}{ms:Array MapEntry}{clock:Nat}(a:w.heap[cb]?=some (.map ms clock)):(getObj cb).run P w=.ok (.map ms clock) w:=by simp[getObj,Sem.run,a]
theorem QnW:∀{ks vs:List AV}{es:List MapEntry}{clock:Nat},MStamp es clock->VRels c w ks (es.map (·.key))->VRels c w vs (es.map (·.val))->MRel c w (ks.zip vs) es clock|[],vs,es,clock,_,h1,_=>by simp_all[MRel,VRels]|k::ks,[],es,clock,_,h1,a=>by simp_all[VRels]|k::ks,v::vs,es,clock,b,h1,a=>by cases es with|nil=>simp[VRels]at h1|cons e es=>simp only[VRels,ZaJ]at h1 a;obtain⟨x,xs,h,h1,d⟩:=h1;obtain⟨y,l,i,a,f⟩:=a;cases h;cases i;simp only[MStamp]at b;have g:=QnW b.2.2 d f;rw[List.zip_cons_cons];refine⟨e,es,rfl,h1,a,b.1,?_,g⟩;have:=QbI g;rw[this];exact b.2.1
theorem Qjz:∀{l:List (AV×AV)}{es:List MapEntry}{clock:Nat},MRel c w l es clock->MStamp es clock/\VRels c w (l.map (·.1)) (es.map (·.key))/\VRels c w (l.map (·.2)) (es.map (·.val))
 |[],es,clock,h=>by simp_all[MRel,MStamp,VRels]|(k,x)::r,es,clock,h=>by
  have hlen:=QbI h;simp only[MRel]at h;obtain⟨e,f,rfl,h1,o,b,i,a⟩:=h;obtain⟨d,g,m⟩:=Qjz a;have p:=QbI a;refine⟨⟨b,by omega,d⟩,?_,?_⟩;·simp only[ZaJ,VRels];grind
  simp only[ZaJ,VRels];grind
theorem QlI{t kt et:TypeId}{row:Bool}{ks:List LK}{zero x k v:AV}{ok:Bool}{cx ck zv:Value}{ti:TypeInfo}{h':Heap}(H:HRel c h w)(T:MapT P t row ks kt et)(hx:VRel c w x cx)(hkey:VRel c w k ck)(hi:P.info? et=some ti)(hz:ti.zero=some zv)(hc:cOK zero zv=true)(hm:(aLookup row ks zero ok x k).run h=some (v,h')):Sound P c w (Instr.lookup t cx ck ok) v h':=by
 unfold aLookup at hm;split at hm
 ·rename_i hok;have hck:=fun e=>Qep (P:=P) T hkey hok e;have hzr:VRel c w zero zv:=Qec _ _ hc;cases x<;>simp only at hm<;>try(cases hm;done)
  case nilmap=>
   simp only[HM.run,Zab,Zaj]at hm;obtain⟨rfl,rfl⟩:=hm;simp only[VRel]at hx;subst hx;obtain⟨r',h1,h2⟩:=Qbx (P:=P) (w:=w) T hkey (es:=[]) (ms:=[]) (clock:=0) (r:=none) (by simp[MRel]) rfl;have:r'=none:=by grind[FoundRel]
   subst this;refine .here H (cv:=if ok then .tuple #[zv,.bool false]else zv) ?_ ?_;·simp[Instr.lookup,run_underlying T.hu,hck,h1,zeroValue,typeInfo,hi,hz]
   grind[VRel,VRels]
  case map b g=>
   obtain⟨es,hb,hm⟩:=Qcl hm;simp only[VRel]at hx;obtain⟨cb,hp,rfl⟩:=hx;obtain⟨ms,clock,hO,hC,hR,hcl⟩:=H.atMap hb hp;split at hm;·rename_i i x hf;simp only[HM.run,Zab,Zaj]at hm;obtain⟨rfl,rfl⟩:=hm;obtain⟨r',h1,h2⟩:=Qbx (P:=P) (w:=w) T hkey hR hf;cases r' with|none=>simp[FoundRel]at h2|some r'=>
    obtain⟨i',xv⟩:=r';simp only[FoundRel]at h2;refine .here H (cv:=if ok then .tuple #[xv,.bool true]else xv) ?_ ?_;·simp[Instr.lookup,run_underlying T.hu,QbG hC,hck,h1]
    ·grind[VRel,VRels]
   ·rename_i hf;simp only[HM.run,Zab,Zaj]at hm;obtain⟨rfl,rfl⟩:=hm;obtain⟨r',h1,h2⟩:=Qbx (P:=P) (w:=w) T hkey hR hf;have:r'=none:=by grind[FoundRel]
    subst this;refine .here H (cv:=if ok then .tuple #[zv,.bool false]else zv) ?_ ?_;·simp[Instr.lookup,run_underlying T.hu,QbG hC,hck,h1,zeroValue,typeInfo,hi,hz]
    grind[VRel,VRels]
   grind[HM.run]
  case fmap ks' vs'=>
   simp only[VRel]at hx;obtain⟨mb,ms,clock,rfl,hF,hC,hcl,hst,h6,h7⟩:=hx;have hR:=QnW hst h6 h7;split at hm;·rename_i i x hf;simp only[HM.run,Zab,Zaj]at hm;obtain⟨rfl,rfl⟩:=hm;obtain⟨r',h1,h2⟩:=Qbx (P:=P) (w:=w) T hkey hR hf;cases r' with|none=>simp[FoundRel]at h2|some r'=>
    obtain⟨i',xv⟩:=r';simp only[FoundRel]at h2;refine .here H (cv:=if ok then .tuple #[xv,.bool true]else xv) ?_ ?_;·simp[Instr.lookup,run_underlying T.hu,QbG hC,hck,h1]
    ·grind[VRel,VRels]
   ·rename_i hf;simp only[HM.run,Zab,Zaj]at hm;obtain⟨rfl,rfl⟩:=hm;obtain⟨r',h1,h2⟩:=Qbx (P:=P) (w:=w) T hkey hR hf;have:r'=none:=by grind[FoundRel]
    subst this;refine .here H (cv:=if ok then .tuple #[zv,.bool false]else zv) ?_ ?_;·simp[Instr.lookup,run_underlying T.hu,QbG hC,hck,h1,zeroValue,typeInfo,hi,hz]
    grind[VRel,VRels]
   grind[HM.run]
 grind[HM.run]
theorem Qeq:∀{es:List (AV×AV)}{ms:List MapEntry}{clock:Nat}(i:Nat){p:AV×AV},MRel c w es ms clock->es[i]?=some p->∃e,ms[i]?=some e/\VRel c w p.1 e.key/\VRel c w p.2 e.val|[],ms,clock,i,p,_,hi=>by simp at hi|(k,x)::es,ms,clock,i,p,hm,hi=>by simp only[MRel]at hm;obtain⟨e,a,rfl,h1,d,g,f,b⟩:=hm;cases i with|zero=>simp at hi;subst hi;exact⟨e,by simp,h1,d⟩|succ i=>simp at hi;simpa using Qeq i b hi
theorem Qh9{row:Bool}{ks:List LK}{k:AV}:∀{es:List (AV×AV)}{i j:Nat}{v:AV},aFind row ks k es i=some (some (j,v))->i<=j/\∃a,es[j-i]?=some (a,v)/\keyEq row ks k a=some true
 |[],i,j,v,hf=>by simp[aFind]at hf|(a,x)::es,i,j,v,hf=>by
  simp only[aFind]at hf;split at hf;·simp_all
  ·obtain⟨h1,k2,b,c⟩:=Qh9 hf;grind
  cases hf
theorem QiJ{row:Bool}{ks:List LK}{k q:AV}{l f:Value}(x:keyEq row ks k q=some true)(h1:VRel c w k l)(y:VRel c w q f)(g:row=true\/∃lk,ks=[lk]):l=f/\Instr.sameBits 10000 l l=true:=by
 obtain⟨xs,B,us,A,rfl,rfl,o,z,v⟩:=Qgk x h1 y;obtain⟨rfl,a⟩:=Qgl v o z;refine⟨rfl,?_⟩;have r:∀n u,((∃k n,u=.int k n)\/(∃b,u=.bool b)\/∃s,u=.string s)->Instr.sameBits n u u=true:=by
  intro n u d;rcases d with⟨k,m,rfl⟩|⟨b,rfl⟩|⟨s,rfl⟩;·simp[Instr.sameBits]
  ·simp[Instr.sameBits]
  simp_all[Instr.sameBits,beq_toListBytes]
 cases row with|true=>simp only[asVal,if_true];show Instr.sameBits (9999+1) _ _=true;simp only[Instr.sameBits,Zaa,beq_self_eq_true,true_and,ZaH];intro p hp;obtain⟨i,hi,rfl⟩:=Zcb.1 hp;simp at hi;simp only[List.getElem_zip];exact r _ _ (a _ (by simp))|false=>
  rcases g with h|⟨lk,rfl⟩;·cases h
  have t:=(QcF v).1;have d:=QaB o;match us,a,d with|[u],a,_=>simp only[asVal,Zao,if_false,List.headD_cons];exact r _ _ (a u (by simp))|[],_,d=>simp only[ZaF,Za5]at d t;omega|_::_::_,_,d=>simp only[ZaF,Za5]at d t;omega
theorem QlJ{k v:AV}{d cv:Value}(g:VRel c w k d)(f:VRel c w v cv):∀{es:List (AV×AV)}{ms:List MapEntry}{clock:Nat}(i:Nat),MRel c w es ms clock->MRel c w (es.set i (k,v)) (ms.modify i fun e=>{e with key:=d,val:=cv}) clock|[],ms,clock,i,hm=>by simp_all[MRel]|(o,x)::es,ms,clock,i,hm=>by simp only[MRel]at hm;obtain⟨e,l,rfl,h1,m,h,a,b⟩:=hm;cases i with|zero=>simp only[Zb5,List.modify_zero_cons,MRel];exact⟨_,_,rfl,g,f,h,a,b⟩|succ i=>simp only[List.set_cons_succ,List.modify_succ_cons,MRel];exact⟨_,_,rfl,h1,m,h,by simpa using a,QlJ g f i b⟩
theorem Qgn{k v:AV}{a cv:Value}(h:VRel c w k a)(f:VRel c w v cv):∀{es:List (AV×AV)}{ms:List MapEntry}{clock:Nat},MRel c w es ms clock->MRel c w (es++[(k,v)]) (ms++[{key:=a,val:=cv,born:=clock}]) (clock+1)|[],ms,clock,hm=>by simp only[MRel]at hm;subst hm;simp only[ZaX,MRel];grind|(i,x)::es,ms,clock,hm=>by simp only[MRel]at hm;obtain⟨e,d,rfl,h1,g,l,m,b⟩:=hm;simp only[Za0,MRel];exact⟨_,_,rfl,h1,g,by omega,by simp;omega,Qgn h f b⟩
theorem HRel.setMap(H:HRel c h w){b g:Nat}{es es':List (AV×AV)}(a:b<lim)(d:h.get b=some (.map g es)){cb:Nat}(hp:c.ρ b g=some (.loc cb 0)){ms':Array MapEntry}{clock':Nat}(hm:∀c' w',Evo c w c' w'->MRelT c' w' es' ms'.toList clock'):∃c',Evo c w c' (upd w cb (.map ms' clock'))/\HRel c' (h.set b (.map g es')) (upd w cb (.map ms' clock')):=by obtain⟨ms,clock,s,m,r,p⟩:=H.atMap d hp;have f:=QaY m;have:=H.put (b:=b) (cb:=cb) (base:=0) (x:=.map g es') (w':=upd w cb (.map ms' clock')) a (fun y o=>H.later b _ d y o) (.inr hp) (.inr ⟨g,0,⟨_,d,rfl,fun k=>by simp⟩,hp⟩) rfl rfl rfl (by simp[upd]) (by simp_all[upd]) (fun k _ i=>Qgi i) (fun C2 q l t=>by simp_all) (fun E=>⟨cb,ms',clock',QaX,.inr rfl,Qdg f,hm _ _ E⟩);grind
theorem Qc4{cb:Nat}{ms ms':Array MapEntry}{clock clock':Nat}(a:w.heap[cb]?=some (.map ms clock)):(setObj cb (.map ms' clock')).run P w=.ok () (upd w cb (.map ms' clock')):=by simp[setObj,Sem.run,a,upd]
theorem Qgo{t Y U:TypeId}{row:Bool}{ks:List LK}{x k v r:AV}{R l cv:Value}{h':Heap}(H:HRel c h w)(T:MapT P t row ks Y U)(Q:VRel c w x R)(a:VRel c w k l)(S:VRel c w v cv)(hm:(aMapUpd row ks x k v).run h=some (r,h')):SoundU P c w (Instr.mapUpdate t R l cv) h':=by
 unfold aMapUpd at hm;split at hm
 ·rename_i K;have q:=fun e=>Qep (P:=P) T a K e;cases x<;>simp only at hm<;>try(cases hm;done)
  case map b g=>
   obtain⟨es,B,hm⟩:=Qcl hm;simp only[VRel]at Q;obtain⟨cb,hp,rfl⟩:=Q;obtain⟨ms,clock,hO,A,p,m⟩:=H.atMap B hp;split at hm;·rename_i i xo hf;obtain⟨d,hm⟩:=QaU hm;simp only[HM.run,Zab,Zaj]at hm;obtain⟨_,rfl⟩:=hm;obtain⟨y,h1,z⟩:=Qbx (P:=P) (w:=w) T a p hf;cases y with|none=>simp[FoundRel]at z|some y=>
    obtain⟨i',Z⟩:=y;simp only[FoundRel]at z;obtain⟨rfl,_⟩:=z;obtain⟨_,k',u,C⟩:=Qh9 hf;simp only[Nat.sub_zero]at u;obtain⟨e,he,M,_⟩:=Qeq i p u;have s:row=true\/∃lk,ks=[lk]:=by cases J:row with|true=>exact .inl rfl|false=>have I:=T.hk;have N:=T.hr;rw[J]at N;have X:=Qb8 I N;match ks,X with|[lk],_=>exact .inr ⟨lk,rfl⟩
    obtain⟨L,G⟩:=QiJ C a M s;have f:(Instr.keyThatStays e.key l).run P w=.ok l w:=by simp_all[Instr.keyThatStays]
    rw[ZaR]at he;obtain⟨o,E,H'⟩:=H.setMap d B hp (es':=es.set i (k,v)) (ms':=ms.modify i fun e=>{e with key:=l,val:=cv}) (clock':=clock) (fun o V E=>by have:=QlJ (Zcl (E.ext H.disj) _ _ a) (Zcl (E.ext H.disj) _ _ S) i (MRel.mono (E.ext H.disj) _ _ _ p);exact⟨by simp_all,by simpa using m⟩);refine⟨o,_,?_,E,H'⟩;simp[Instr.mapUpdate,run_underlying T.hu,QbG A,q,h1,he,f,Qc4 A]
   ·rename_i hf;obtain⟨d,hm⟩:=QaU hm;simp only[HM.run,Zab,Zaj]at hm;obtain⟨_,rfl⟩:=hm;obtain⟨y,h1,z⟩:=Qbx (P:=P) (w:=w) T a p hf;have:y=none:=by grind[FoundRel]
    subst this;obtain⟨o,E,H'⟩:=H.setMap d B hp (es':=es++[(k,v)]) (ms':=ms.push {key:=l,val:=cv,born:=clock}) (clock':=clock+1) (fun o V E=>by have:=Qgn (Zcl (E.ext H.disj) _ _ a) (Zcl (E.ext H.disj) _ _ S) (MRel.mono (E.ext H.disj) _ _ _ p);exact⟨by simp_all,by simpa using m⟩);refine⟨o,_,?_,E,H'⟩;simp[Instr.mapUpdate,run_underlying T.hu,QbG A,q,h1,Qc4 A]
   grind[HM.run]
 grind[HM.run]
theorem Qlw{t:TypeId}{s:Site}{i:Nat}{v:AV}{h':Heap}{reserve:Option Value}(f:∀r,reserve=some r->(∃k n,r=.int k n)/\∃o m,P.underlying t=some (.map o m))(H:HRel c h w)(hm:(aMakeMap s i).run h=some (v,h')):Sound P c w (Instr.makeMap t reserve) v h':=by
 unfold aMakeMap at hm;obtain⟨b,g,d,A,hm⟩:=Qdj hm;simp only[HM.run,Zab,Zaj]at hm;obtain⟨rfl,rfl⟩:=hm;have a:∀y,g<=y->c.ρ b y=none:=by
  intro y q;rcases A with⟨h1,p⟩|⟨z,h1,p⟩;·exact H.fresh b h1 y
  exact H.later b z h1 y (by omega)
 have l:(w.alloc (.map #[] 0)).heap[w.heap.size]?=some (.map #[] 0):=by show(w.heap.push _)[w.heap.size]?=_;simp
 have:=H.put (b:=b) (cb:=w.heap.size) (base:=0) (x:=.map g []) (w':=w.alloc (.map #[] 0)) d (fun y q=>a y (Nat.le_of_lt q)) (.inl (a g (ZaM _))) (.inl rfl) rfl rfl rfl (by simp) (by simp) (fun k B _=>Go.RowKit.Below.heap_alloc w _ k B) (fun C2 C u p=>by simp_all) (fun E=>⟨w.heap.size,#[],0,QaX,.inr rfl,l,by simp[MRel],rfl⟩);refine⟨.map (some w.heap.size),_,_,?_,this.1,this.2,?_⟩;·cases reserve with|none=>simp[Instr.makeMap]|some r=>obtain⟨⟨k,n,rfl⟩,o,m,x⟩:=f r rfl;simp[Instr.makeMap,run_underlying x,asInt,asIntOf]
 simp only[VRel];exact⟨_,QaX,rfl⟩
end Go.AM
