/- A part of the proof of SynthesisCellsCardSaid: lemmas on the way (AmE, AmF, AmG). Conditions: none of ours. -/
import Derived.Laws.Strings
import Derived.Laws.StructEq
import Derived.Test.YtmoanlnleppcpaaGreatDoorAmY1
set_option linter.unusedSectionVars false
set_option maxHeartbeats 32000000
set_option maxRecDepth 100000
set_option linter.unusedVariables false
set_option linter.unusedSimpArgs false
namespace Go.AM
variable{P:Program}{ok:Okc}{c:Ctx ok}{w:World}{h:Heap}
def Pure(P:Program)(c:Ctx ok)(w:World)(s:Sem Value)(v:AV):Prop:=∃a,s.run P w=.ok a w/\VRel c w v a
theorem Pure.sound{s:Sem Value}{v:AV}(H:HRel c h w)(p:Pure P c w s v):Sound P c w s v h:=let⟨_,h1,a⟩:=p;.here H h1 a
theorem Qc5{α:Type}[BEq α][LawfulBEq α][DecidableEq α](a b:α):(a==b)=decide (a=b):=by grind
theorem QrA{α:Type}[BEq α][LawfulBEq α][DecidableEq α](a b:α):(a !=b)=!decide (a=b):=by grind
theorem QoF{op:BinOp}{t:TypeId}{x y v:AV}{h cy:Value}(f:VRel c w x h)(g:VRel c w y cy)(hm:aBin op x y=some v):Pure P c w (binOp op t h cy) v:=by
 unfold aBin at hm;split at hm
 ·rename_i k a l b;simp only[VRel]at f g;subst f;subst g;split at hm
  ·split at hm;·cases hm
   rename_i d;cases hm;exact⟨_,by simp[binOp,Op.shift,d];rfl,by simp[VRel,wr_eq]⟩
  ·split at hm;·cases hm
   rename_i d;cases hm;exact⟨_,by simp[binOp,Op.shift,d];rfl,by simp[VRel]⟩
  split at hm;·rename_i j;subst j;split at hm<;>first
   | (by_cases d:b=0;·rw[if_pos d]at hm;cases hm
      ·rw[if_neg d]at hm;cases hm;refine⟨?_,?_,?_⟩;rotate_left;·simp[binOp,Op.intDiv,d];rfl
       grind[VRel,wr_eq])
   | (cases hm;refine⟨.bool (a==b),?_,?_⟩;·simp[binOp,Op.intCmp];done
      ·grind[VRel])
   | (cases hm;refine⟨.bool (a !=b),?_,?_⟩;·simp[binOp,Op.intCmp];done
      ·grind[VRel])
   | (cases hm;refine⟨?_,?_,?_⟩;rotate_left;·simp[binOp,Op.intCmp];rfl
      ·simp[VRel];done)
   | (cases hm;refine⟨?_,?_,?_⟩;rotate_left;·simp[binOp,Op.intArith];rfl
      ·simp[VRel,wr_eq];done)
   | (cases hm;refine⟨?_,?_,?_⟩;rotate_left;·simp[binOp,Op.intBits];rfl
      ·simp[VRel,wr_eq];done)|cases hm
  cases hm
 ·rename_i a b;simp only[VRel]at f g;subst f;subst g;split at hm
  ·split at hm
   ·rename_i m;cases hm;have i:¬(9223372036854775807<(a.length:Int)+(b.length:Int)):=by omega
    exact⟨.string ⟨(a++b).toArray⟩,by simp[binOp,Op.stringOp,ByteArray.size,i];rfl,by simp[VRel]⟩
   cases hm
  all_goals first|(cases hm;exact⟨_,by simp[binOp,Op.stringOp];rfl,by simp[VRel,Qc5,QrA]⟩)|cases hm
 cases hm
theorem QqC{op:UnOp}{x v:AV}{d:Value}(a:VRel c w x d)(hm:aUn op x=some v):Pure P c w (Op.unary op d) v:=by
 unfold aUn at hm;split at hm;·simp only[VRel]at a;subst a;cases hm;exact⟨_,by simp[Op.unary,Op.intArith];rfl,by simp[VRel,wr_eq]⟩
 ·simp only[VRel]at a;subst a;cases hm;rename_i k n;refine⟨_,by simp[Op.unary,Op.intBits];rfl,?_⟩;simp only[VRel,wr_eq];cases k<;>rfl
 ·simp only[VRel]at a;subst a;cases hm;exact⟨_,by simp[Op.unary];rfl,by simp[VRel]⟩
 cases hm
def flatF(P:Program)(rec:TypeId->Option (List LK)):List Field->Nat->Option (List LK)|[],_=>some []|f::fs,off=>if f.name= "_"\/f.offset≠off then none else match rec f.type with|some ks=>if P.cellsOf f.type=ks.length then(match flatF P rec fs (off+ks.length)with|some r=>some (ks++r)|none=>none)else none|none=>none
def flatK(P:Program):Nat->TypeId->Option (List LK)|0,_=>none|d+1,t=>match P.underlying t with
 |some .bool=>some [.b]|some (.int _)=>some [.i]|some .string=>some [.s]|some (.struct fs)=>if P.stoodInHeld t then none else flatF P (flatK P d) fs.toList 0|some (.array n e)=>match flatK P d e with|some ks=>if P.cellsOf e=ks.length then some (List.replicate n ks).flatten else none|none=>none
 |_=>none
def rowB(P:Program)(t:TypeId):Bool:=match P.underlying t with|some (.struct _)|some (.array _ _)=>true|_=>false
def asVal(row:Bool)(vs:List Value):Value:=if row then .agg vs.toArray else vs.headD undef
theorem Qct:∀{ks:List LK}{xs ys:List AV}{b:Bool},eqCells ks xs ys=some b->xs.length=ks.length/\ys.length=ks.length
 |[],[],[],_,_=>by simp|[],x::xs,ys,_,c=>by simp[eqCells]at c|[],[],y::ys,_,c=>by simp[eqCells]at c|k::ks,[],ys,_,c=>by simp[eqCells]at c|k::ks,x::xs,[],_,c=>by simp[eqCells]at c|k::ks,x::xs,y::ys,b,c=>by
  simp only[eqCells]at c;split at c;·rename_i a f h1 d;have:=Qct d;simp[this]
  cases c
theorem Qca:∀{ks ks':List LK}{xs ys:List AV}{b:Bool},eqCells (ks++ks') xs ys=some b->∃d b2,eqCells ks (xs.take ks.length) (ys.take ks.length)=some d/\eqCells ks' (xs.drop ks.length) (ys.drop ks.length)=some b2/\b=(d&&b2)
 |[],ks',xs,ys,b,c=>⟨true,b,by simp[eqCells],by simpa using c,by simp⟩|k::ks,ks',[],ys,b,c=>by simp[eqCells]at c|k::ks,ks',x::xs,[],b,c=>by simp[eqCells]at c|k::ks,ks',x::xs,y::ys,b,c=>by
  simp only[ZaC,eqCells]at c;split at c;·rename_i a i h1 f;obtain⟨d,b2,j,g,h⟩:=Qca f;simp_all[Bool.and_assoc,eqCells]
  cases c
theorem Qc6{t:TypeId}{cs:Array Value}{off n:Nat}{i:TypeInfo}(w:World){d:TypeDesc}(c:P.underlying t=some d)(hi:P.info? t=some i)(g:i.size=n)(f:rowB P t=false->n=1)(h:off+n<=cs.size):(part t cs off).run P w=.ok (asVal (rowB P t) ((cs.toList.drop off).take n)) w:=by
 subst g;unfold part isAgg;have key:rowB P t=false->cs[off]?=some (((cs.toList.drop off).take i.size).headD undef):=by grind[List.take_one,Zb5]
 have agg:.agg (cs.extract off (off+i.size))=(Value.agg ((cs.toList.drop off).take i.size).toArray):=by congr 1;grind
 cases d<;>first
  | (have a:rowB P t=true:=by simp[rowB,c]
     simp only[Sem.run_bind,run_underlying c,Result.andThen_ok,Sem.run_pure,if_true,QaK hi,a,asVal];rw[agg])
  | (have a:rowB P t=false:=by simp[rowB,c]
     simp only[Sem.run_bind,run_underlying c,Result.andThen_ok,Sem.run_pure,Zap,if_false,key a,a,asVal])
theorem Qbe{t:TypeId}{d:TypeDesc}(a:P.underlying t=some d):∃i,P.info? t=some i:=by unfold Program.underlying at a;grind
theorem QbX{d:Nat}{t:TypeId}{ks:List LK}(a:flatK P d t=some ks)(c:rowB P t=false):ks.length=1:=by cases d with|zero=>simp[flatK]at a|succ d=>unfold flatK at a;unfold rowB at c;split at a<;>first|(simp_all;done)|(cases a;rfl)|(rename_i f;simp[f]at c)
theorem QbQ{d:Nat}{t:TypeId}{ks:List LK}(a:flatK P d t=some ks):∃u,P.underlying t=some u:=by cases d with|zero=>simp[flatK]at a|succ d=>unfold flatK at a;cases c:P.underlying t with|none=>simp[c]at a|some u=>exact⟨u,rfl⟩
def EqRun(P:Program)(c:Ctx ok)(w:World)(d:Nat):Prop:=∀(t:TypeId)(ks:List LK),flatK P d t=some ks->∀(xs a:List AV)(us f:List Value)(b:Bool),VRels c w xs us->VRels c w a f->eqCells ks xs a=some b->∀D,d<=D->(Op.equalIn D t (asVal (rowB P t) us) (asVal (rowB P t) f)).run P w=.ok b w
theorem QfG{d:Nat}(E:EqRun P c w d):∀(fs:List Field)(off:Nat)(ks:List LK),flatF P (flatK P d) fs off=some ks->∀(xs ys:List AV)(us vs:Array Value)(b:Bool),VRels c w xs (us.toList.drop off)->VRels c w ys (vs.toList.drop off)->eqCells ks xs ys=some b->off+ks.length<=us.size->off+ks.length<=vs.size->∀D,d<=D->(Op.eqFields D us vs fs).run P w=.ok b w
 |[],off,ks,a,xs,ys,us,vs,b,o,n,y,_,_,D,s=>by simp only[flatF,Zaa]at a;subst a;cases xs<;>cases ys<;>simp[eqCells]at y;simp_all[Op.eqFields]|f::fs,off,ks,a,xs,ys,us,vs,b,o,n,y,K,I,D,s=>by
  simp only[flatF]at a;split at a;·cases a
  rename_i H;have t:f.name≠ "_":=fun e=>H (.inl e);have v:f.offset=off:=by omega
  split at a
  ·rename_i g h;split at a
   ·rename_i hc;split at a
    ·rename_i r F;cases a;simp only[Zae]at K I;obtain⟨C,b2,J,G,rfl⟩:=Qca y;obtain⟨u,j⟩:=QbQ h;obtain⟨i,hi⟩:=Qbe j;have l:i.size=g.length:=by simp_all[Program.cellsOf]
     have x:=QaC o;have z:=QaC n;simp at x z;have B:=Qc6 (P:=P) (cs:=us) (off:=off) w j hi l (QbX h) (by omega);have q:=Qc6 (P:=P) (cs:=vs) (off:=off) w j hi l (QbX h) (by omega);have m:=QaE (QaR o) 0 g.length (by omega);have k:=QaE (QaR n) 0 g.length (by omega);simp only[Za9]at m k;have h1:=E f.type g h _ _ _ _ C m k J D s;have A:VRels c w (xs.drop g.length) (us.toList.drop (off+g.length)):=by have:=QaE (QaR o) g.length (xs.length-g.length) (by omega);grind[ZaT,ZaU]
     have p:VRels c w (ys.drop g.length) (vs.toList.drop (off+g.length)):=by have:=QaE (QaR n) g.length (ys.length-g.length) (by omega);grind[ZaT,ZaU]
     have L:=QfG E fs (off+g.length) r F _ _ us vs b2 A p G (by omega) (by omega) D s;simp only[Op.eqFields,ne_eq,t,not_false_eq_true,if_true,Sem.run_bind,v,B,q,Result.andThen_ok,h1];cases C<;>simp[L]
    cases a
   cases a
  cases a
def eqElems(D:Nat)(e:TypeId)(n:Nat)(xs ys:Array Value):List Nat->Sem Bool|[]=>pure true|i::is=>do let a<-part e xs (i*n)let b<-part e ys (i*n)let r<-Op.equalIn D e a b if(!r)=true then pure false else eqElems D e n xs ys is
theorem QgD(D:Nat)(t e:TypeId)(len n:Nat)(xs ys:Array Value)(w:World)(h:P.underlying t=some (.array len e))(k:∀w,(sizeOf e).run P w=.ok n w):(Op.equalIn (D+1) t (.agg xs) (.agg ys)).run P w=(eqElems D e n xs ys (List.range' 0 len)).run P w:=by simp only[Op.equalIn,Sem.run_bind,run_underlying h,Result.andThen_ok,k,Std.Legacy.Range.forIn_eq_forIn_range',Std.Legacy.Range.size,Nat.sub_zero,ZbG,Nat.div_one];generalize List.range' 0 len=l;induction l generalizing w with|nil=>simp[eqElems]|cons i l o=>simp only[List.forIn_cons,eqElems,Sem.run_bind,Sem.run_ite];generalize(part e xs (i*n)).run P w=g;cases g with
 |ok a c=>simp only[Result.andThen_ok];generalize(part e ys (i*n)).run P c=f;cases f with
  |ok b d=>simp only[Result.andThen_ok];generalize(Op.equalIn D e a b).run P d=m;cases m with
   |ok r j=>
    cases r;·simp_all
    simp_all|halt x j=>simp[Result.andThen]
  |halt x d=>simp[Result.andThen]
 |halt x c=>simp[Result.andThen]
theorem QgE{d:Nat}(z:EqRun P c w d){e:TypeId}{ks:List LK}(j:flatK P d e=some ks)(hc:P.cellsOf e=ks.length):∀(m s:Nat)(xs ys:List AV)(us vs:Array Value)(b:Bool),VRels c w xs (us.toList.drop (s*ks.length))->VRels c w ys (vs.toList.drop (s*ks.length))->eqCells (List.replicate m ks).flatten xs ys=some b->(s+m)*ks.length<=us.size->(s+m)*ks.length<=vs.size->∀D,d<=D->(eqElems D e ks.length us vs (List.range' s m)).run P w=.ok b w
 |0,s,xs,ys,us,vs,b,l,n,k,_,_,D,p=>by cases xs<;>cases ys<;>simp[eqCells]at k;simp_all[eqElems]|m+1,s,xs,ys,us,vs,b,l,n,k,F,E,D,p=>by
  rw[ZaW,Zbs]at k;obtain⟨y,b2,A,C,rfl⟩:=Qca k;obtain⟨u,a⟩:=QbQ j;obtain⟨i,hi⟩:=Qbe a;have f:i.size=ks.length:=by simp_all[Program.cellsOf]
  have r:=QaC l;have v:=QaC n;simp at r v;have H:(s+(m+1))*ks.length=s*ks.length+ks.length+m*ks.length:=by grind
  have G:(s+1)*ks.length=s*ks.length+ks.length:=Zbc _ _;have q:=Qc6 (P:=P) (cs:=us) (off:=s*ks.length) w a hi f (QbX j) (by omega);have t:=Qc6 (P:=P) (cs:=vs) (off:=s*ks.length) w a hi f (QbX j) (by omega);have h:=QaE (QaR l) 0 ks.length (by omega);have g:=QaE (QaR n) 0 ks.length (by omega);simp only[Za9]at h g;have h1:=z e ks j _ _ _ _ y h g A D p;have x:VRels c w (xs.drop ks.length) (us.toList.drop ((s+1)*ks.length)):=by have:=QaE (QaR l) ks.length (xs.length-ks.length) (by omega);grind[ZaT,ZaU]
  have o:VRels c w (ys.drop ks.length) (vs.toList.drop ((s+1)*ks.length)):=by have:=QaE (QaR n) ks.length (ys.length-ks.length) (by omega);grind[ZaT,ZaU]
  have B:=QgE z j hc m (s+1) _ _ us vs b2 x o C (by grind) (by grind) D p;simp only[Zb2,eqElems,Sem.run_bind,q,t,Result.andThen_ok,h1];cases y<;>simp[B]
theorem eqRun:∀d,EqRun P c w d
 |0=>fun t ks g=>by simp[flatK]at g|d+1=>by
  intro t ks g xs p us A b o l f D J;obtain⟨D',rfl⟩:∃D',D=D'+1:=⟨D-1,by omega⟩;have G:=QaC o;have H:=QaC l;obtain⟨I,E⟩:=Qct f;unfold flatK at g;split at g
  ·rename_i h;cases g;have j:rowB P t=false:=by simp[rowB,h]
   match xs,p,f with|[x],[y],f=>simp only[eqCells]at f;split at f<;>cases f;rename_i a B h1 q;cases q;cases x<;>cases y<;>simp only[eqCell,reduceCtorEq]at h1;cases h1;simp only[VRels,VRel]at o l;obtain⟨_,_,rfl,rfl,rfl⟩:=o;obtain⟨_,_,rfl,rfl,rfl⟩:=l;simp[j,asVal,Op.equalIn,run_underlying h,Qc5]
  ·rename_i k h;cases g;have j:rowB P t=false:=by simp[rowB,h]
   match xs,p,f with
   |[x],[y],f=>
    simp only[eqCells]at f;split at f<;>cases f;rename_i a B h1 q;cases q;cases x<;>cases y<;>simp only[eqCell,reduceCtorEq]at h1;split at h1;·rename_i z;cases h1;subst z;simp only[VRels,VRel]at o l;obtain⟨_,_,rfl,rfl,rfl⟩:=o;obtain⟨_,_,rfl,rfl,rfl⟩:=l;simp[j,asVal,Op.equalIn,run_underlying h];rw[Qc5]
    ·cases h1
  ·rename_i h;cases g;have j:rowB P t=false:=by simp[rowB,h]
   match xs,p,f with|[x],[y],f=>simp only[eqCells]at f;split at f<;>cases f;rename_i a B h1 q;cases q;cases x<;>cases y<;>simp only[eqCell,reduceCtorEq]at h1;cases h1;simp only[VRels,VRel]at o l;obtain⟨_,_,rfl,rfl,rfl⟩:=o;obtain⟨_,_,rfl,rfl,rfl⟩:=l;simp[j,asVal,Op.equalIn,run_underlying h,beq_toListBytes,Qc5]
  ·rename_i fs h;split at g;·cases g
   rename_i s;have j:rowB P t=true:=by simp[rowB,h]
   have hf:P.fieldsOf t=fs:=by simp[Program.fieldsOf,h]
   simp only[j,asVal,if_true];rw[run_equalIn_struct w D' t _ _ (by simp_all) (by simpa using s),hf];exact QfG (eqRun d) fs.toList 0 ks g xs p us.toArray A.toArray b (by simpa using o) (by simpa using l) f (by simp;omega) (by simp;omega) D' (by omega)
  ·rename_i n e h;split at g
   ·rename_i m r;split at g
    ·rename_i hc;cases g;have j:rowB P t=true:=by simp[rowB,h]
     obtain⟨u,v⟩:=QbQ r;obtain⟨i,hi⟩:=Qbe v;have C:i.size=m.length:=by simp_all[Program.cellsOf]
     simp only[j,asVal,if_true];rw[QgD D' t e n m.length _ _ w h (fun w=>by simp_all[QaK])];have F:(List.replicate n m).flatten.length=n*m.length:=by simp
     exact QgE (eqRun d) r hc n 0 xs p us.toArray A.toArray b (by simpa using o) (by simpa using l) f (by simp;omega) (by simp;omega) D' (by omega)
    cases g
   cases g
  cases g
def kindT(P:Program)(t:TypeId):Nat:=match P.underlying t with|some (.pointer _)=>1|some (.slice _)=>2|some (.map _ _)=>3|some (.func _ _ _)=>4|some (.interface _)=>5|_=>0
def eqT(P:Program)(t:TypeId):EqK->Bool
 |.flat row ks=>match row with|true=>rowB P t&&!P.eqGuardType P.depth t&&(match flatK P 40 t with|some a=>ks.length==a.length&&(ks.zip a).all (fun p=>match p with|(.b,.b)|(.i,.i)|(.s,.s)=>true|_=>false)|none=>false)|false=>match P.underlying t with|some .bool=>true|_=>false
 |.nil kind=>kindT P t==kind
theorem lk_eq:∀{ks ks':List LK},(ks.length==ks'.length&&(ks.zip ks').all (fun p=>match p with|(.b,.b)|(.i,.i)|(.s,.s)=>true|_=>false))=true->ks=ks'|[],[],_=>rfl|[],_::_,a=>by simp at a|_::_,[],a=>by simp at a|k::ks,d::ks',a=>by simp only[ZaF,List.zip_cons_cons,ZbY,Zab,beq_iff_eq]at a;have c:=lk_eq (ks:=ks) (ks':=ks') (by simp_all);grind
theorem QsS(b:Bool):(b !=false)=b:=by cases b<;>rfl
theorem QsT(b:Bool):(b !=true)=!b:=by cases b<;>rfl
theorem QoG{neg:Bool}{op:BinOp}{t:TypeId}{x y:Value}{b:Bool}(a:op=if neg then .neq else .eql)(h1:binOp .eql t x y=(do pure (.bool (<-Op.equal t x y))))(g:binOp .neq t x y=(do pure (.bool (!(<-Op.equal t x y)))))(f:∀d,(Op.equalIn (d+1) t x y).run P w=.ok b w):(binOp op t x y).run P w=.ok (.bool (b !=neg)) w:=by
 have c:(Op.equal t x y).run P w=.ok b w:=f 9999;subst a;cases neg;·simp_all
 simp_all
theorem QsU{t:TypeId}{x y:AV}{h cy:Value}{b:Bool}{g:Nat}(h1:isNil x=some (b,g))(j:isNil y=some (true,g))(o:VRel c w x h)(z:VRel c w y cy)(s:kindT P t=g):(∀d,(Op.equalIn (d+1) t h cy).run P w=.ok b w)/\binOp .eql t h cy=(do pure (.bool (<-Op.equal t h cy)))/\binOp .neq t h cy=(do pure (.bool (!(<-Op.equal t h cy))))/\∀{op:BinOp}{ox:Operand}{cv:Value},(eqGuard op t ox (.const cv) h cy).run P w=.ok () w:=by
 unfold kindT at s;have r:(cy=.pointer none/\g=1)\/(cy=.slice none 0 0/\g=2)\/(cy=.map none/\g=3)\/(cy=.nilFunc/\g=4)\/(cy=.nilIface/\g=5):=by
  unfold isNil at j;split at j<;>try simp only[Zaa,Zaj,reduceCtorEq,Zap,false_and,true_and]at j
  all_goals first|(subst j;simp only[VRel]at z;subst z;simp;done)|(split at j<;>simp at j;done)|(exfalso;simp at j;done)
 have q:(b=true/\h=.pointer none/\g=1)\/(b=false/\g=1/\∃a,h=.pointer (some a))\/(b=true/\h=.slice none 0 0/\g=2)\/(b=false/\g=2/\∃a n m,h=.slice (some a) n m)\/(b=true/\h=.map none/\g=3)\/(b=false/\g=3/\∃a,h=.map (some a))\/(b=true/\h=.nilFunc/\g=4)\/(b=false/\g=4/\∃f u v,h=.func f u v)\/(b=true/\h=.nilIface/\g=5)\/(b=false/\g=5/\∃u v,h=.iface u v):=by
  unfold isNil at h1;split at h1<;>try simp only[Zaa,Zaj,reduceCtorEq]at h1
  all_goals try(split at h1)
  all_goals try(simp only[Zaa,Zaj,reduceCtorEq]at h1)
  all_goals try(cases h1;done)
  all_goals obtain⟨rfl,rfl⟩:=h1;simp only[VRel]at o
  ·subst o;simp
  ·grind
  ·grind
  ·subst o;simp
  ·grind
  ·grind
  ·grind
  ·subst o;simp
  ·grind
  ·grind
  ·subst o;simp
  ·grind
  ·grind
  ·subst o;simp
  ·grind
  ·grind
  obtain⟨⟨B,C,A,h1|⟨l,k,rfl⟩,_⟩,_⟩:=o;·simp_all
  simp
 rcases r with⟨rfl,rfl⟩|⟨rfl,rfl⟩|⟨rfl,rfl⟩|⟨rfl,rfl⟩|⟨rfl,rfl⟩<;>simp only[Nat.reduceEqDiff,and_false,false_and,or_false,false_or,and_true,true_and,reduceCtorEq]at q<;>(split at s<;>first|(simp at s;done)|skip)<;>rename_i i<;>rcases q with⟨rfl,rfl⟩|⟨rfl,p⟩;·exact⟨fun d=>by simp[Op.equalIn,run_underlying i],rfl,rfl,fun{op ox cv}=>by cases op<;>rfl⟩
 ·obtain⟨_,rfl⟩:=p;exact⟨fun d=>by simp[Op.equalIn,run_underlying i],rfl,rfl,fun{op ox cv}=>by cases op<;>rfl⟩
 ·exact⟨fun d=>by simp[Op.equalIn,run_underlying i],rfl,rfl,fun{op ox cv}=>by cases op<;>rfl⟩
 ·obtain⟨_,_,_,rfl⟩:=p;exact⟨fun d=>by simp[Op.equalIn,run_underlying i],rfl,rfl,fun{op ox cv}=>by cases op<;>rfl⟩
 ·exact⟨fun d=>by simp[Op.equalIn,run_underlying i],rfl,rfl,fun{op ox cv}=>by cases op<;>rfl⟩
 ·obtain⟨_,rfl⟩:=p;exact⟨fun d=>by simp[Op.equalIn,run_underlying i],rfl,rfl,fun{op ox cv}=>by cases op<;>rfl⟩
 ·exact⟨fun d=>by simp[Op.equalIn,run_underlying i],rfl,rfl,fun{op ox cv}=>by cases op<;>rfl⟩
 ·obtain⟨_,_,_,rfl⟩:=p;exact⟨fun d=>by simp[Op.equalIn,run_underlying i],rfl,rfl,fun{op ox cv}=>by cases op<;>rfl⟩
 ·exact⟨fun d=>by simp[Op.equalIn,run_underlying i],rfl,rfl,fun{op ox cv}=>by cases op<;>cases ox<;>rfl⟩
 obtain⟨_,_,rfl⟩:=p;exact⟨fun d=>by simp[Op.equalIn,run_underlying i],rfl,rfl,fun{op ox cv}=>by cases op<;>rfl⟩
theorem QkG{k:EqK}{op:BinOp}{neg:Bool}{t:TypeId}{ox oy:Operand}{x y v:AV}{l cy:Value}(f:op=if neg then .neq else .eql)(h:VRel c w x l)(g:VRel c w y cy)(i:eqT P t k=true)(hc:(∀kind,k=.nil kind->∃v,oy=.const v))(hm:aEq k neg x y=some v):Pure P c w (do eqGuard op t ox oy l cy;binOp op t l cy) v:=by unfold aEq at hm;cases k with
 |flat row ks=>cases row with
  |true=>
   cases x<;>try(simp at hm;done)
   cases y<;>try(simp at hm;done)
   rename_i xs o;simp only at hm;split at hm
   ·rename_i b r;cases hm;simp only[VRel]at h g;obtain⟨us,rfl,h⟩:=h;obtain⟨z,rfl,g⟩:=g;simp only[eqT,Zab,Zbo]at i;obtain⟨⟨q,n⟩,j⟩:=i;split at j
    ·rename_i C m;have:=lk_eq j;subst this;have h1:=eqRun (P:=P) (c:=c) (w:=w) 40 t ks m xs o us.toList z.toList b h g r 10000 (by omega);simp only[q,asVal,if_true,Array.toArray_toList]at h1;subst f;cases neg;·exact⟨_,by simp[run_eqGuard_agg,n,run_eql_struct,h1];rfl,by simp[VRel,QsS]⟩
     exact⟨_,by simp[run_eqGuard_agg,n,run_neq_struct,h1];rfl,by simp[VRel,QsT]⟩
    simp at j
   cases hm|false=>
   cases x<;>try(simp at hm;done)
   cases y<;>try(simp at hm;done)
   rename_i a b;simp only[Zaa]at hm;subst hm;simp only[VRel]at h g;subst h;subst g;simp only[eqT]at i;split at i
   ·rename_i B;have:=QoG (P:=P) (w:=w) (t:=t) (x:=.bool a) (y:=.bool b) (b:=(a==b)) f rfl rfl (fun d=>run_equalIn_bool' w d t a b B);refine⟨.bool ((a==b)!=neg),?_,?_⟩;·simp_all[eqGuard]
    grind[VRel]
   cases i
 |nil kind=>
  obtain⟨H,rfl⟩:=hc kind rfl;simp only at hm;split at hm
  ·rename_i b G F h1 E;split at hm;·rename_i j;cases hm;simp only[eqT,beq_iff_eq]at i;obtain⟨u,s,A,p⟩:=QsU (P:=P) (w:=w) (t:=t) (by rw[j.1]at h1;exact h1) (by simp_all) h g i;refine⟨.bool (b !=neg),?_,by simp[VRel]⟩;rw[Sem.run_bind,p];exact QoG f s A u
   cases hm
  cases hm
end Go.AM
namespace Go.AM
variable{P:Program}{ok:Okc}{c:Ctx ok}{w:World}{h:Heap}
def ORel(c:Ctx ok)(w:World):Option AV->Option Value->Prop|none,none=>True|some x,some v=>VRel c w x v|_,_=>False
theorem QbE{k:IntKind}{i:Int}{y:Nat}{code:BoundsCode}(a:0<=i)(h1:i<=y):(Instr.sliceBound (.int k i) y code).run P w=.ok i.toNat w:=by simp[Instr.sliceBound,asIntOf,a,h1]
theorem Qdm{l:Option AV}{a:Option Value}{lw:Int}(f:ORel c w l a)(d:Int)(el:bnd d l=some lw):a=none/\lw=d\/∃k,a=some (.int k lw):=by cases l with
 |none=>cases a with|none=>cases el;exact .inl ⟨rfl,rfl⟩|some v=>simp[ORel]at f
 |some x=>cases x<;>simp only[bnd,reduceCtorEq,Zaa]at el;cases a with|none=>simp[ORel]at f|some v=>simp only[ORel,VRel]at f;subst el;exact .inr ⟨_,by rw[f]⟩
theorem Qb4{isSlice:Bool}{len cap:Nat}{l h:Option AV}{i ch:Option Value}{lw a:Int}(m:ORel c w l i)(d:ORel c w h ch)(el:bnd 0 l=some lw)(k:bnd len h=some a)(n:0<=lw)(h1:lw<=a)(j:a<=cap):(Instr.sliceBounds isSlice len cap i ch none).run P w=.ok (lw.toNat,a.toNat,cap) w:=by
 have g:=Qdm m 0 el;have f:=Qdm d len k;rcases g with⟨rfl,rfl⟩|⟨o,rfl⟩<;>rcases f with⟨rfl,rfl⟩|⟨p,rfl⟩;·simp[Instr.sliceBounds]
 ·simp_all[Instr.sliceBounds,QbE]
 ·simp_all[QbE,Instr.sliceBounds]
 have q:((a.toNat:Nat):Int)=a:=by omega
 have:=QbE (P:=P) (w:=w) (k:=o) (y:=a.toNat) (code:=.sliceB) n (by omega);simp[Instr.sliceBounds,QbE (P:=P) (w:=w) (by omega:0<=a) j,this]
def sliceT(P:Program)(t:TypeId)(sz:Option Nat):Bool:=match P.underlying t,sz with|some (.slice e),some n=>(match P.info? e with|some i=>i.size==n|none=>false)|some .string,none=>true|_,_=>false
theorem Qcx{t:TypeId}{sz:Option Nat}{x v:AV}{l hi mx:Option AV}{cx:Value}{X ch Z:Option Value}(p:VRel c w x cx)(J:ORel c w l X)(I:ORel c w hi ch)(S:ORel c w mx Z)(ht:sliceT P t sz=true)(V:∀b g off len s,x=.sl b g off len s->sz=some s)(K:∀cs len s,x=.fsl cs len s->sz=some s)(hst:(∃s,x=.str s)->sz=none)(Q:(∃s,x=.str s)\/sz≠none)(hm:aSlice x l hi mx=some v):Pure P c w (Instr.sliceAt t cx X ch Z) v:=by
 unfold aSlice at hm;simp only at hm;split at hm;·cases hm
 rename_i lw el;have h:sz≠none->∃e i n,P.underlying t=some (.slice e)/\P.info? e=some i/\sz=some n/\i.size=n:=by intro hne;unfold sliceT at ht;grind
 cases mx with
 |some m=>cases m<;>simp only[reduceCtorEq]at hm;rename_i Y q;cases Z with|none=>simp[ORel]at S|some cmv=>simp only[ORel,VRel]at S;subst S;cases hi with|none=>simp at hm|some hv=>cases hv<;>simp only[reduceCtorEq]at hm;rename_i kh f;cases ch with|none=>simp[ORel]at I|some chv=>
  simp only[ORel,VRel]at I;subst I;split at hm
  ·rename_i d;obtain⟨rfl,rfl,rfl⟩:=d;have R:∀len cap,(Instr.sliceBounds true len cap X (some (.int kh 0)) (some (.int Y 0))).run P w=.ok (0,0,0) w:=by
    intro len cap;have b1:=QbE (P:=P) (w:=w) (k:=Y) (i:=0) (y:=cap) (code:=.slice3Acap) (by omega) (by omega);have b2:=QbE (P:=P) (w:=w) (k:=kh) (i:=0) (y:=0) (code:=.slice3B) (by omega) (by omega);rcases Qdm J 0 el with⟨rfl,_⟩|⟨k1,rfl⟩;·simp[Instr.sliceBounds,b1,b2]
    simp_all[QbE,Instr.sliceBounds]
   cases x<;>simp only[reduceCtorEq,Zaa]at hm;all_goals subst hm;obtain⟨e,i,n,O,y,H,j⟩:=h (Q.resolve_left (by simp));simp only[VRel]at p
   ·subst p;exact⟨.slice none 0 0,by simp_all[Instr.sliceAt,Instr.slice,run_underlying,QaK],by simp[VRel]⟩
   ·rcases p with⟨hp,rfl,rfl,rfl⟩|⟨k,base,o,cap,C,G,B,hp,rfl,E,z,u⟩;·exact⟨.slice none 0 0,by simp_all[Instr.sliceAt,Instr.slice,run_underlying,QaK],by simp[VRel]⟩
    exact⟨.slice (some ⟨k,o,none⟩) 0 0,by simp_all[Instr.sliceAt,Instr.slice,run_underlying,QaK],by simp[VRel]⟩
   ·rcases p with⟨⟨a0,rfl⟩,rfl,rfl⟩|⟨k,off,cap,C,G,B,rfl,E,hlen,T,z,r⟩;·exact⟨.slice a0 0 0,by simp_all[Instr.sliceAt,Instr.slice,run_underlying,QaK],by simp[VRel]⟩
    exact⟨.slice (some ⟨k,off,none⟩) 0 0,by simp_all[Instr.sliceAt,Instr.slice,run_underlying,QaK],by simp[VRel]⟩
   obtain⟨a,rfl⟩:=p;exact⟨.slice a 0 0,by simp_all[Instr.sliceAt,Instr.slice,run_underlying,QaK],by simp[VRel]⟩
  rename_i hne0;have R:∀(len cap:Nat),0<=lw->lw<=f->f<=q->q<=cap->(Instr.sliceBounds true len cap X (some (.int kh f)) (some (.int Y q))).run P w=.ok (lw.toNat,f.toNat,q.toNat) w:=by
   intro len cap q1 q2 q3 q4;have b1:=QbE (P:=P) (w:=w) (k:=Y) (i:=q) (y:=cap) (code:=.slice3Acap) (by omega) (by omega);have b2:=QbE (P:=P) (w:=w) (k:=kh) (i:=f) (y:=q.toNat) (code:=.slice3B) (by omega) (by omega);rcases Qdm J 0 el with⟨rfl,e0⟩|⟨k1,rfl⟩;·simp_all[Instr.sliceBounds]
   have b3:=QbE (P:=P) (w:=w) (k:=k1) (i:=lw) (y:=f.toNat) (code:=.slice3C) (by omega) (by omega);simp_all[Instr.sliceBounds]
  cases x<;>simp only[reduceCtorEq]at hm;case sl b g off len s=>
   split at hm
   ·rename_i d;obtain⟨F,h1,M,h3⟩:=d;cases hm;obtain⟨e,i,n,O,y,H,j⟩:=h (by simp_all);have:=V _ _ _ _ _ rfl;rw[H]at this;cases this;subst j;simp only[VRel]at p;rcases p with⟨hp,rfl,rfl,rfl⟩|⟨k,base,o,cap,C,G,B,hp,rfl,E,z,u⟩;·omega
    have L:=R len cap F h1 M (by omega);refine⟨.slice (if q.toNat=lw.toNat then some ⟨k,o,none⟩else some (Addr.add ⟨k,o,none⟩ (lw.toNat*i.size))) (f.toNat-lw.toNat) (q.toNat-lw.toNat),?_,?_⟩;·simp_all[Instr.sliceAt,Instr.slice,run_underlying,QaK]
    simp only[VRel];refine .inr ?_;by_cases hc:q.toNat=lw.toNat;·rw[if_pos hc];grind
    rw[if_neg hc,QbT];have N:cap≠0:=by omega
    obtain⟨rfl,hbd⟩:=u.resolve_left N;refine⟨k,base,_,q.toNat-lw.toNat,C,G,B,hp,rfl,by omega,z,.inr ⟨by omega,?_⟩⟩;have q1:lw.toNat*i.size+(q.toNat-lw.toNat)*i.size=q.toNat*i.size:=by rw[<-Zb0];congr 1;omega
    have q2:q.toNat*i.size<=cap*i.size:=Za1 _ (by omega);omega
   ·cases hm
  case fsl cs len s=>
   split at hm
   ·rename_i d;obtain⟨F,h1,M,h3⟩:=d;cases hm;obtain⟨e,i,n,O,y,H,j⟩:=h (by simp_all);have:=K _ _ _ rfl;rw[H]at this;cases this;subst j;simp only[VRel]at p;rcases p with⟨⟨a0,rfl⟩,rfl,rfl⟩|⟨k,off,cap,C,G,B,rfl,E,hlen,T,z,r⟩;·omega
    have L:=R len cap F h1 M (by omega);have a1:lw.toNat*i.size+(f.toNat-lw.toNat)*i.size=f.toNat*i.size:=by rw[<-Zb0];congr 1;omega
    have a2:f.toNat*i.size<=len*i.size:=Za1 _ (by omega);refine⟨.slice (if q.toNat=lw.toNat then some ⟨k,off,none⟩else some (Addr.add ⟨k,off,none⟩ (lw.toNat*i.size))) (f.toNat-lw.toNat) (q.toNat-lw.toNat),?_,?_⟩;·simp_all[Instr.sliceAt,Instr.slice,run_underlying,QaK]
    simp only[VRel];refine .inr ?_;by_cases hc:q.toNat=lw.toNat
    ·rw[if_pos hc];have U:f.toNat-lw.toNat=0:=by omega
     exact⟨k,off,q.toNat-lw.toNat,C,G,B,rfl,by omega,by simp[U],T,z,by simp[U,VPre]⟩
    rw[if_neg hc,QbT];refine⟨k,_,q.toNat-lw.toNat,C,G,B,rfl,by omega,by simp;omega,T,z,?_⟩;have:=QbW ((f.toNat-lw.toNat)*i.size) (Qa5 (lw.toNat*i.size) r);simp_all
   ·cases hm
 |none=>
  have hcm:Z=none:=by grind[ORel]
  subst hcm;simp only at hm;cases x<;>simp only at hm<;>try(cases hm;done)
  case sl b g off len s=>
   obtain⟨e,i,n,O,y,H,j⟩:=h (by simp_all);have:=V _ _ _ _ _ rfl;rw[H]at this;cases this;subst j;split at hm;·cases hm
   ·rename_i f A;split at hm
    ·rename_i d;obtain⟨F,h1,M,_⟩:=d;cases hm;simp only[VRel]at p;rcases p with⟨hp,rfl,rfl,rfl⟩|⟨k,base,o,cap,C,G,B,hp,rfl,E,z,u⟩
     ·have L:=Qb4 (P:=P) (w:=w) (isSlice:=true) (cap:=0) J I el A F h1 (by omega);have e1:lw=0:=by omega
      have e2:f=0:=by omega
      subst e1;subst e2;refine⟨.slice none 0 0,?_,by simp_all[VRel]⟩;simp_all[Instr.sliceAt,Instr.slice,run_underlying,QaK]
     have L:=Qb4 (P:=P) (w:=w) (isSlice:=true) (cap:=cap) J I el A F h1 (by omega);refine⟨.slice (if cap=lw.toNat then some ⟨k,o,none⟩else some (Addr.add ⟨k,o,none⟩ (lw.toNat*i.size))) (f.toNat-lw.toNat) (cap-lw.toNat),?_,?_⟩;·simp_all[Instr.sliceAt,Instr.slice,run_underlying,QaK]
     simp only[VRel];refine .inr ?_;by_cases hc:cap=lw.toNat;·rw[if_pos hc];grind
     rw[if_neg hc,QbT];have N:cap≠0:=by omega
     obtain⟨rfl,hbd⟩:=u.resolve_left N;refine⟨k,base,_,cap-lw.toNat,C,G,B,hp,rfl,by omega,z,.inr ⟨by omega,?_⟩⟩;have:cap*i.size=lw.toNat*i.size+(cap-lw.toNat)*i.size:=by rw[<-Zb0];congr 1;omega
     omega
    cases hm
  case fsl cs len s=>
   obtain⟨e,i,n,O,y,H,j⟩:=h (by simp_all);have:=K _ _ _ rfl;rw[H]at this;cases this;subst j;split at hm;·cases hm
   ·rename_i f A;split at hm
    ·rename_i d;obtain⟨F,h1,M⟩:=d;cases hm;simp only[VRel]at p;rcases p with⟨⟨a0,rfl⟩,rfl,rfl⟩|⟨k,off,cap,C,G,B,rfl,E,hlen,T,z,r⟩
     ·have L:=Qb4 (P:=P) (w:=w) (isSlice:=true) (cap:=0) J I el A F h1 (by omega);have e1:lw=0:=by omega
      have e2:f=0:=by omega
      subst e1;subst e2;refine⟨.slice a0 0 0,?_,by simp_all[VRel]⟩;simp_all[Instr.sliceAt,Instr.slice,run_underlying,QaK]
     have L:=Qb4 (P:=P) (w:=w) (isSlice:=true) (cap:=cap) J I el A F h1 (by omega);have a1:lw.toNat*i.size+(f.toNat-lw.toNat)*i.size=f.toNat*i.size:=by rw[<-Zb0];congr 1;omega
     have a2:f.toNat*i.size<=len*i.size:=Za1 _ (by omega);refine⟨.slice (if cap=lw.toNat then some ⟨k,off,none⟩else some (Addr.add ⟨k,off,none⟩ (lw.toNat*i.size))) (f.toNat-lw.toNat) (cap-lw.toNat),?_,?_⟩;·simp_all[Instr.sliceAt,Instr.slice,run_underlying,QaK]
     simp only[VRel];refine .inr ?_;by_cases hc:cap=lw.toNat
     ·rw[if_pos hc];have U:f.toNat-lw.toNat=0:=by omega
      exact⟨k,off,cap-lw.toNat,C,G,B,rfl,by omega,by simp[U],T,z,by simp[U,VPre]⟩
     rw[if_neg hc,QbT];refine⟨k,_,cap-lw.toNat,C,G,B,rfl,by omega,by simp;omega,T,z,?_⟩;have:=QbW ((f.toNat-lw.toNat)*i.size) (Qa5 (lw.toNat*i.size) r);simp_all
    cases hm
  case nilsl=>
   simp only[VRel]at p;subst p;obtain⟨e,i,n,O,y,H,j⟩:=h (Q.resolve_left (by simp));split at hm;·cases hm
   ·rename_i f A;split at hm;·rename_i d;obtain⟨rfl,rfl⟩:=d;cases hm;have L:=Qb4 (P:=P) (w:=w) (isSlice:=true) (len:=0) (cap:=0) J I el A (by omega) (by omega) (by omega);refine⟨.slice none 0 0,?_,by simp[VRel]⟩;simp_all[Instr.sliceAt,Instr.slice,run_underlying,QaK]
    cases hm
  case esl=>
   simp only[VRel]at p;obtain⟨a,rfl⟩:=p;obtain⟨e,i,n,O,y,H,j⟩:=h (Q.resolve_left (by simp));split at hm;·cases hm
   ·rename_i f A;split at hm;·rename_i d;obtain⟨rfl,rfl⟩:=d;cases hm;have L:=Qb4 (P:=P) (w:=w) (isSlice:=true) (len:=0) (cap:=0) J I el A (by omega) (by omega) (by omega);refine⟨.slice a 0 0,?_,by simp[VRel]⟩;simp_all[Instr.sliceAt,Instr.slice,run_underlying,QaK]
    cases hm
  case str s=>
   simp only[VRel]at p;subst p;have O:P.underlying t=some .string:=by unfold sliceT at ht;grind
   split at hm;·cases hm
   ·rename_i f A;split at hm
    ·rename_i d;obtain⟨F,h1,M⟩:=d;cases hm;have hsize:(ByteArray.mk s.toArray).size=s.length:=by simp[ByteArray.size]
     have L:=Qb4 (P:=P) (w:=w) (isSlice:=false) (len:=s.length) (cap:=s.length) J I el A F h1 M;refine⟨.string ((ByteArray.mk s.toArray).extract lw.toNat f.toNat),?_,?_⟩;·simp_all[Instr.sliceAt,Instr.slice,run_underlying]
     simp_all[VRel,ByteArray.extract,ByteArray.copySlice]
    cases hm
def fieldT(P:Program)(s:TypeId)(field off:Nat)(n:Option Nat):Bool:=match P.underlying s with|some (.struct fs)=>(match fs[field]? with|some f=>f.offset==off&&rowT P f.type n|none=>false)|_=>false
theorem Qmx{s:TypeId}{field off:Nat}{n:Option Nat}{x v:AV}{g:Value}(d:VRel c w x g)(a:fieldT P s field off n=true)(hm:aField n off x=some v):Pure P c w (Instr.field s g field) v:=by
 unfold aField at hm;cases x<;>simp only[reduceCtorEq]at hm;rename_i cs;simp only[VRel]at d;obtain⟨k,rfl,d⟩:=d;unfold fieldT at a;split at a
 ·rename_i fs p;split at a;·rename_i f hf;simp only[Zab,beq_iff_eq]at a;obtain⟨rfl,i⟩:=a;have hlen:=QaC d;simp at hlen;cases n with|none=>simp only at hm;obtain⟨j,h1,h⟩:=Qcg f.offset d hm;rw[ZaS]at h1;exact⟨j,by simp_all[Instr.field,run_underlying,part,QcF,asAgg],h⟩|some n=>
   simp only at hm;split at hm;·rename_i o;cases hm;obtain⟨m,l⟩:=QcG i w;refine⟨.agg (k.extract f.offset (f.offset+n)),by simp_all[Instr.field,run_underlying,part,asAgg],?_⟩;simp only[VRel];refine⟨_,rfl,?_⟩;simp_all[QaE,QaR]
   cases hm
  cases a
 cases a
def faddrT(P:Program)(s:TypeId)(field off:Nat):Bool:=match P.underlying s with|some (.struct fs)=>(match fs[field]? with|some f=>f.offset==off&&(match P.info? f.type with|some i=>i.size !=0|none=>false)|none=>false)|_=>false
theorem Qmy{s:TypeId}{field off:Nat}{x v:AV}{k:Value}(a:VRel c w x k)(d:faddrT P s field off=true)(hm:aFAddr off x=some v):Pure P c w (Instr.fieldAt s k field) v:=by
 unfold faddrT at d;split at d
 ·rename_i fs p;split at d
  ·rename_i f hf;simp only[Zab,beq_iff_eq]at d;obtain⟨rfl,m⟩:=d;split at m
   ·rename_i i hi;have h:∀w,(sizeOf f.type).run P w=.ok i.size w:=QaK hi;have g:i.size≠0:=by simpa using m
    have l:∃y,VRel c w y k/\aFAddr f.offset y=some v/\∀t n z,y≠.typed t n z:=by cases x with|typed t n y=>simp only[VRel]at a;cases y<;>simp only[aFAddr,reduceCtorEq]at hm;exact⟨_,a.2,hm,fun _ _ _=>by simp⟩|_=>exact⟨_,a,hm,fun _ _ _=>by simp⟩
    clear a hm;obtain⟨x,a,hm,r⟩:=l;cases x<;>simp only[aFAddr,reduceCtorEq,Zaa]at hm<;>try(subst hm;simp only[VRel]at a)
    rotate_right;·simp_all
    ·obtain⟨q,base,hp,rfl⟩:=a;exact⟨_,by simp[Instr.fieldAt,run_underlying p,hf,Instr.sureAddr,fieldPlace,h,g];rfl,by simp_all[VRel,QbT,Nat.add_assoc]⟩
    obtain⟨q,o,C,e,u,rfl,A,B,j⟩:=a;refine⟨_,by simp[Instr.fieldAt,run_underlying p,hf,Instr.sureAddr,fieldPlace,h,g];rfl,?_⟩;simp only[VRel,QbT];refine⟨q,_,C,e,u,rfl,A,B,?_⟩;have:=Qa5 f.offset j;simp_all
   cases m
  cases d
 cases d
def iaddrT(P:Program)(t:TypeId)(arr:Option Nat)(sz:Nat):Bool:=match P.underlying t,arr with|some (.array n e),some m=>n==m&&(match P.info? e with|some i=>i.size==sz|none=>false)|some (.slice e),none=>(match P.info? e with|some i=>i.size==sz|none=>false)|_,_=>false
theorem Qmz{t:TypeId}{arr:Option Nat}{sz:Nat}{x i v:AV}{G ci:Value}(h:VRel c w x G)(hi:VRel c w i ci)(a:iaddrT P t arr sz=true)(hm:aIAddr arr sz x i=some v):Pure P c w (Instr.indexAt t G ci) v:=by
 unfold aIAddr at hm;cases i<;>simp only[reduceCtorEq]at hm;rename_i k i;simp only[VRel]at hi;subst hi;unfold iaddrT at a;split at a
 ·rename_i n e m q;simp only[Zab,beq_iff_eq]at a;obtain⟨rfl,a⟩:=a;split at a
  ·rename_i l j;have f:=QaK j w;have F:l.size=sz:=by simpa using a
   subst F;cases x<;>simp only[reduceCtorEq]at hm
   ·split at hm;·rename_i hc;cases hm;simp only[VRel]at h;obtain⟨r,base,hp,rfl⟩:=h;refine⟨_,by simp[Instr.indexAt,asIntOf,run_underlying q,Instr.sureAddr,hc,f];rfl,?_⟩;simp_all[VRel,QbT,Nat.add_assoc]
    cases hm
   split at hm;·rename_i hc;cases hm;simp only[VRel]at h;obtain⟨r,o,C,u,z,rfl,A,y,d⟩:=h;refine⟨_,by simp[Instr.indexAt,asIntOf,run_underlying q,Instr.sureAddr,hc,f];rfl,?_⟩;simp only[VRel,QbT];refine⟨r,_,C,u,z,rfl,A,y,?_⟩;have:=Qa5 (i.toNat*l.size) d;simp_all
   cases hm
  cases a
 ·rename_i e q;split at a
  ·rename_i l j;have f:=QaK j w;have F:l.size=sz:=by simpa using a
   subst F;cases x<;>simp only[reduceCtorEq]at hm
   ·split at hm
    ·rename_i b g off len s hc;obtain⟨B,h1,rfl⟩:=hc;cases hm;simp only[VRel]at h;rcases h with⟨hp,rfl,_⟩|⟨r,base,o,cap,C,u,z,hp,rfl,E,y,p⟩;·omega
     obtain⟨rfl,_⟩:=p.resolve_left (by omega);refine⟨_,by simp[Instr.indexAt,asIntOf,run_underlying q,B,h1,f];rfl,?_⟩;simp_all[VRel,QbT,Nat.add_assoc]
    cases hm
   split at hm
   ·rename_i cs len s hc;obtain⟨B,h1,rfl⟩:=hc;cases hm;simp only[VRel]at h;rcases h with⟨⟨H,rfl⟩,rfl,rfl⟩|⟨r,off,cap,C,u,z,rfl,E,hlen,A,y,d⟩;·omega
    refine⟨_,by simp[Instr.indexAt,asIntOf,run_underlying q,B,h1,f];rfl,?_⟩;simp only[VRel,QbT];refine⟨r,_,C,u,z,rfl,A,y,?_⟩;have:=Qa5 (i.toNat*l.size) d;simp_all
   cases hm
  cases a
 cases a
def indexT(P:Program)(t:TypeId)(arr:Option (Nat×Nat×Bool)):Bool:=match P.underlying t,arr with|some (.array n e),some (m,sz,row)=>n==m&&rowT P e (if row then some sz else none)&&(match P.info? e with|some i=>i.size==sz|none=>false)|some .string,none=>true|_,_=>false
theorem QmA{t:TypeId}{arr:Option (Nat×Nat×Bool)}{x i v:AV}{l ci:Value}(d:VRel c w x l)(hi:VRel c w i ci)(a:indexT P t arr=true)(hm:aIndex arr x i=some v):Pure P c w (Instr.index t l ci) v:=by
 unfold aIndex at hm;cases i<;>simp only[reduceCtorEq]at hm;rename_i k i;simp only[VRel]at hi;subst hi;unfold indexT at a;split at a
 ·rename_i n e m sz row z;simp only[Zab,beq_iff_eq]at a;obtain⟨⟨rfl,j⟩,a⟩:=a;split at a
  ·rename_i f h;have y:=QaK h w;have p:f.size=sz:=by simpa using a
   subst p;cases x<;>simp only[reduceCtorEq]at hm;rename_i cs;simp only[VRel]at d;obtain⟨r,rfl,d⟩:=d;split at hm;·rename_i hc;cases row with
    |true=>
     simp only[if_true]at hm j;split at hm;·rename_i B;cases hm;obtain⟨C,A⟩:=QcG j w;refine⟨.agg (r.extract (i.toNat*f.size) (i.toNat*f.size+f.size)),by simp_all[Instr.index,asIntOf,run_underlying,part],?_⟩;simp only[VRel];refine⟨_,rfl,?_⟩;simp_all[QaE,QaR]
     cases hm|false=>simp only[Zap,if_false]at hm j;obtain⟨u,h1,q⟩:=Qcg _ d hm;rw[ZaS]at h1;exact⟨u,by simp_all[Instr.index,asIntOf,run_underlying,part,QcF],q⟩
   cases hm
  cases a
 ·rename_i z;cases x<;>simp only[reduceCtorEq]at hm;rename_i s;simp only[VRel]at d;subst d;split at hm
  ·rename_i E;split at hm
   ·rename_i b o;cases hm;refine⟨.int .u8 b.toNat,?_,by simp[VRel]⟩;have:(ByteArray.mk s.toArray)[i.toNat]?=some b:=by
     have g:i.toNat<s.length:=by grind
     rw[getElem?_pos (ByteArray.mk s.toArray) i.toNat (by simp_all[ByteArray.size])];rw[Zal g]at o;cases o;rfl
    simp_all[Instr.index,asIntOf,run_underlying]
   cases hm
  cases hm
 cases a
def lenT(P:Program)(t:TypeId)(k:Nat):Bool:=match P.underlying t with|some .string=>k==0|some (.slice _)=>k==1|some (.map _ _)=>k==2|_=>false
def lenKind:AV->Nat|.str _=>0|.sl ..|.fsl ..|.nilsl|.esl|.nsl=>1|.typed _ _ (.sl ..)=>1|.nilmap|.map ..|.fmap ..=>2|_=>3
theorem QbF:∀{xs:List (AV×AV)}{es:List MapEntry}{clock:Nat},MRel c w xs es clock->xs.length=es.length|[],es,_,a=>by simp_all[MRel]|(k,x)::r,es,clock,a=>by simp only[MRel]at a;obtain⟨e,d,rfl,_,_,_,_,f⟩:=a;simp[QbF f]
theorem QoH{t ty:TypeId}{x v:AV}{cx:Value}{h':Heap}(H:HRel c h w)(hx:VRel c w x cx)(ht:lenT P t (lenKind x)=true)(hm:(aLen x).run h=some (v,h')):Sound P c w (Builtin.len_ #[t] ty #[cx]) v h':=by
 have t0:lenT P t 0=true->P.underlying t=some .string:=by grind[lenT]
 have t1:lenT P t 1=true->∃e,P.underlying t=some (.slice e):=by unfold lenT;grind
 have t2:lenT P t 2=true->∃k e,P.underlying t=some (.map k e):=by unfold lenT;grind
 cases x<;>simp only[aLen]at hm<;>try(cases hm;done)
 case str s=>
  simp only[HM.run,Zaa,Zaj]at hm;obtain⟨rfl,rfl⟩:=hm;simp only[VRel]at hx;subst hx;have hu:=t0 ht;have hs:(ByteArray.mk s.toArray).size=s.length:=by simp[ByteArray.size]
  exact .here H (cv:=goInt s.length) (by simp[Builtin.len_,run_underlying hu,hs]) (by simp[VRel,goInt])
 case sl b g off len sz=>
  simp only[HM.run,Zaa,Zaj]at hm;obtain⟨rfl,rfl⟩:=hm;obtain⟨e,hu⟩:=t1 ht;simp only[VRel]at hx;rcases hx with⟨hp,rfl,rfl,rfl⟩|⟨cb,base,o,cap,C,e',fr,hp,rfl,hlc,hC,hcap⟩;·exact .here H (cv:=goInt 0) (by simp[Builtin.len_,run_underlying hu]) (by simp[VRel,goInt])
  ·exact .here H (cv:=goInt len) (by simp[Builtin.len_,run_underlying hu]) (by simp[VRel,goInt])
 case typed tt nn y=>
  cases y<;>simp only[aLen]at hm<;>try(cases hm;done)
  rename_i b g off len sz;simp only[HM.run,Zaa,Zaj]at hm;obtain⟨rfl,rfl⟩:=hm;obtain⟨e,hu⟩:=t1 ht;simp only[VRel]at hx;rcases hx.2 with⟨hp,rfl,rfl,rfl⟩|⟨cb,base,o,cap,C,e',fr,hp,rfl,hlc,hC,hcap⟩;·exact .here H (cv:=goInt 0) (by simp[Builtin.len_,run_underlying hu]) (by simp[VRel,goInt])
  ·exact .here H (cv:=goInt len) (by simp[Builtin.len_,run_underlying hu]) (by simp[VRel,goInt])
 case fsl cs len sz=>
  simp only[HM.run,Zaa,Zaj]at hm;obtain⟨rfl,rfl⟩:=hm;obtain⟨e,hu⟩:=t1 ht;simp only[VRel]at hx;rcases hx with⟨⟨a0,rfl⟩,rfl,rfl⟩|⟨cb,off,cap,C,e',fr,rfl,hlc,hlen,hF,hC,hpre⟩;·exact .here H (cv:=goInt 0) (by simp[Builtin.len_,run_underlying hu]) (by simp[VRel,goInt])
  ·exact .here H (cv:=goInt len) (by simp[Builtin.len_,run_underlying hu]) (by simp[VRel,goInt])
 case nilsl=>simp only[HM.run,Zaa,Zaj]at hm;obtain⟨rfl,rfl⟩:=hm;obtain⟨e,hu⟩:=t1 ht;simp only[VRel]at hx;subst hx;exact .here H (cv:=goInt 0) (by simp[Builtin.len_,run_underlying hu]) (by simp[VRel,goInt])
 case esl=>simp only[HM.run,Zaa,Zaj]at hm;obtain⟨rfl,rfl⟩:=hm;obtain⟨e,hu⟩:=t1 ht;simp only[VRel]at hx;obtain⟨a,rfl⟩:=hx;exact .here H (cv:=goInt 0) (by simp[Builtin.len_,run_underlying hu]) (by simp[VRel,goInt])
 case nsl=>simp only[HM.run,Zaa,Zaj]at hm;obtain⟨rfl,rfl⟩:=hm;obtain⟨e,hu⟩:=t1 ht;simp only[VRel]at hx;obtain⟨a,k,rfl⟩:=hx;exact .here H (cv:=goInt 0) (by simp[Builtin.len_,run_underlying hu]) (by simp[VRel,goInt])
 case nilmap=>simp only[HM.run,Zaa,Zaj]at hm;obtain⟨rfl,rfl⟩:=hm;obtain⟨k,e,hu⟩:=t2 ht;simp only[VRel]at hx;subst hx;exact .here H (cv:=goInt 0) (by simp[Builtin.len_,run_underlying hu]) (by simp[VRel,goInt])
 case fmap ks vs=>
  simp only[HM.run,Zaa,Zaj]at hm;obtain⟨rfl,rfl⟩:=hm;obtain⟨k,e',hu⟩:=t2 ht;simp only[VRel]at hx;obtain⟨mb,es,clock,rfl,hF,hC,hcl,hst,h6,h7⟩:=hx;have hl:ks.length=es.size:=by have:=QaC h6;simp_all
  have hg:(getObj mb).run P w=.ok (.map es clock) w:=by simp[getObj,Sem.run,hC]
  exact .here H (cv:=goInt es.size) (by simp[Builtin.len_,run_underlying hu,hg]) (by simp[VRel,goInt];omega)
 case map b g=>
  simp only[HM.run]at hm;split at hm;·rename_i g' es hb;cases e:Nat.beq g' g with|false=>rw[e]at hm;simp[HM.run]at hm|true=>
   rw[e]at hm;have:g'=g:=by simpa using e
   subst this;simp only[cond_true,HM.run,Zaa,Zaj]at hm;obtain⟨rfl,rfl⟩:=hm;obtain⟨k,e',hu⟩:=t2 ht;simp only[VRel]at hx;obtain⟨cb,hp,rfl⟩:=hx;obtain⟨cb',es',clock,h1,hO,hC,hR,_⟩:=H.blk b _ hb;rw[hp]at h1;cases h1;have hl:=QbF hR;have hg:(getObj cb).run P w=.ok (.map es' clock) w:=by simp[getObj,Sem.run,hC]
   exact .here H (cv:=goInt es'.size) (by simp[Builtin.len_,run_underlying hu,hg]) (by simp_all[VRel,goInt])
  grind[HM.run]
theorem Qkv{i:Nat}{x v:AV}{d:Value}(a:VRel c w x d)(hm:aExtract i x=some v):Pure P c w (Instr.extract d i) v:=by unfold aExtract at hm;cases x<;>simp only[reduceCtorEq]at hm;simp only[VRel]at a;obtain⟨h,rfl,a⟩:=a;obtain⟨g,h1,f⟩:=Qcg i a hm;rw[ZaS]at h1;exact⟨g,by simp[Instr.extract,h1],f⟩
def aConv(k:IntKind)(x:AV):Option AV:=match x with|.int _ n=>some (.int k (wr k n))|_=>none
def convT(P:Program)(src dst:TypeId)(k:IntKind):Bool:=match P.underlying src,P.underlying dst with|some _,some (.int a)=>k==a|_,_=>false
theorem QnZ{src dst:TypeId}{k:IntKind}{x v:AV}{f:Value}(g:VRel c w x f)(a:convT P src dst k=true)(hm:aConv k x=some v):Pure P c w (convert src dst f) v:=by
 unfold aConv at hm;cases x<;>simp only[reduceCtorEq,Zaa]at hm;subst hm;simp only[VRel]at g;subst g;unfold convT at a;split at a
 ·rename_i d i j h;have:k=i:=by simpa using a
  subst this;exact⟨_,by simp[convert,run_underlying j,run_underlying h,Conv.intToInt];rfl,by simp[VRel,wr_eq]⟩
 cases a
def aConvS(x:AV):Option AV:=match x with|.str s=>some (.str s)|.int _ n=>if 0<=n/\n<128 then some (.str [UInt8.ofNat n.toNat])else none|_=>none
def convST(P:Program)(src dst:TypeId):Bool:=match P.underlying src,P.underlying dst with|some _,some .string=>true|_,_=>false
theorem QmB{src dst:TypeId}{x v:AV}{i:Value}(f:VRel c w x i)(a:convST P src dst=true)(hm:aConvS x=some v):Pure P c w (convert src dst i) v:=by
 unfold aConvS at hm;cases x<;>simp only[reduceCtorEq,Zaa]at hm
 ·rename_i k n;split at hm
  ·rename_i j;cases hm;simp only[VRel]at f;subst f;unfold convST at a;split at a
   ·rename_i d h g;have he:Utf8.encode n=⟨#[UInt8.ofNat n.toNat]⟩:=by grind[Utf8.valid,Utf8.encode]
    exact⟨_,by simp[convert,run_underlying h,run_underlying g,Conv.intToString,he];rfl,by simp[VRel]⟩
   cases a
  cases hm
 subst hm;simp only[VRel]at f;subst f;unfold convST at a;split at a;·rename_i d h g;exact⟨_,by simp[convert,run_underlying h,run_underlying g];rfl,by simp[VRel]⟩
 cases a
def aMax(mn:Bool)(xs:List AV):Option AV:=match xs with|[.int k a,.int _ b]=>some (.int k (if mn then(if b<a then b else a)else(if a<b then b else a)))|_=>none
theorem Qje{mn:Bool}{ats:Array TypeId}{ty:TypeId}{xs:List AV}{v:AV}{d:Array Value}(g:VRels c w xs d.toList)(hm:aMax mn xs=some v):Pure P c w (if mn then Builtin.min_ ats ty d else Builtin.max_ ats ty d) v:=by
 unfold aMax at hm;split at hm
 ·rename_i k a h b;cases hm;simp only[VRels,VRel]at g;obtain⟨_,_,f,rfl,_,_,rfl,rfl,rfl⟩:=g;refine⟨_,?_,by simp only[VRel];exact rfl⟩;cases mn;·simp[Builtin.max_,f,Builtin.max2]
  simp[Builtin.min_,f,Builtin.min2]
 cases hm
def aCopy(sz:Nat)(x y:AV):HM AV:=match x with|.sl b g off len s=>if s=sz then aSrc sz y fun a n=>.cells b g fun cs=>if off+min n len*sz<=cs.length/\a.all AV.one=true/\sz≠0 then .put b (.cells g (putR cs off (a.take (min n len*sz)))) (.ret (.int .i64 ((min n len:Nat):Int)))else .fail else .fail|.nilsl=>aSrc sz y fun _ _=>.ret (.int .i64 0)|.esl=>aSrc sz y fun _ _=>.ret (.int .i64 0)|_=>.fail
theorem QrB{ys:List AV}{us:List Value}(k:VRels c w ys us)(h:ys.all AV.one=true):∀u∈us,u.oneCell'=true:=by
 intro u n;obtain⟨j,l,rfl⟩:=ZbZ.1 n;have m:=QaC k;obtain⟨p,f,d⟩:=Qcg j k (Zal (by omega:j<ys.length));rw[Zal l]at f;cases f;have h1:(ys[j]).one=true:=by simp_all
 have o:=QcT (x:=ys[j]) d (by cases g:ys[j]<;>simp_all[AV.one,AV.cells]);have:(us[j]).cells=#[us[j]]\/∃a,us[j]=.agg a:=by cases us[j]<;>simp[Value.cells]
 rcases this with i|⟨a,i⟩;·simp_all
 rw[i]at d;exfalso;cases g:ys[j]<;>rw[g]at d h1<;>simp[AV.one]at h1<;>simp[VRel]at d;obtain⟨⟨_,_,_,q,_⟩,_⟩:=d;simp_all
theorem Qn0{t t2 ty e:TypeId}{sz:Nat}{x y v:AV}{cx cy:Value}{ti:TypeInfo}{h':Heap}(H:HRel c h w)(hx:VRel c w x cx)(hy:VRel c w y cy)(hu:P.underlying t=some (.slice e))(hi:P.info? e=some ti)(hsz:ti.size=sz)(hm:(aCopy sz x y).run h=some (v,h')):Sound P c w (Builtin.copy_ #[t,t2] ty #[cx,cy]) v h':=by
 subst hsz;have hs:=QaK (P:=P) hi;have nilcase:∀(a:Option Addr)(hm:(aSrc ti.size y fun _ _=>.ret (.int .i64 0)).run h=some (v,h')),Sound P c w (Builtin.copy_ #[t,t2] ty #[.slice a 0 0,cy]) v h':=by intro a hm;replace hm:=QcH (P:=P) H hy hm;obtain⟨ys,n,us,S,hm⟩:=hm;simp only[HM.run,Zaa,Zaj]at hm;obtain⟨rfl,rfl⟩:=hm;have hf:=S.firstm w 0 (Zah _) rfl;simp at hf;refine .here H (cv:=goInt 0) ?_ (by simp[VRel,goInt]);cases a<;>simp[Builtin.copy_,run_underlying hu,S.lenOf,hs,hf,storeCells]
 cases x<;>simp only[aCopy]at hm<;>try(cases hm;done)
 case nilsl=>simp_all[VRel]
 case esl=>simp only[VRel]at hx;grind
 case sl b g off len s=>
  split at hm
  ·rename_i e1;subst e1;replace hm:=QcH (P:=P) H hy hm;obtain⟨ys,n,us,S,hm⟩:=hm;obtain⟨cs,hb,hm⟩:=Qba hm;split at hm
   ·rename_i hcond;obtain⟨hl,hone,hne⟩:=hcond;obtain⟨hlim,hm⟩:=QaY hm;simp only[HM.run,Zaa,Zaj]at hm;obtain⟨rfl,rfl⟩:=hm;have hul:=QaC S.rels;have hyl:=S.len;have hmin:min n len*ti.size<=n*ti.size:=Za1 _ (Nat.min_le_left _ _);have hf:=S.firstm w (min n len) (Nat.min_le_left _ _) rfl;have hvr:VRels c w (ys.take (min n len*ti.size)) (us.take (min n len*ti.size)):=by have:=QaE (QaR S.rels) 0 (min n len*ti.size) (by omega);simp_all
    simp only[VRel]at hx;rcases hx with⟨hp,rfl,rfl,rfl⟩|⟨cb,base,o,cap,C,e',fr,hp,rfl,hlc,hC,hcap⟩
    ·have hcs:cs=[]:=by
      rcases H.blk b _ hb with⟨_,h2⟩|⟨_,_,_,_,_,h1,_⟩;·exact h2
      simp_all
     subst hcs;obtain⟨E,H'⟩:=H.putNil (b:=b) (g:=g) hlim (fun y hy=>H.later b _ hb y hy) (.inr hp);have e0:putR [] 0 (List.take (min n 0*ti.size) ys)=[]:=by simp[putR]
     rw[e0];refine⟨goInt 0,_,w,?_,E,H',by simp[VRel,goInt]⟩;simp at hf;simp[Builtin.copy_,run_underlying hu,S.lenOf,hs,hf]
    ·by_cases h0:min n len=0
     ·have e0:putR cs off (List.take (min n len*ti.size) ys)=cs:=by simp[putR,h0]
      rw[e0];have hst:=QeY (P:=P) H hb hlim hp (vs:=[]) (us:=[]) (off:=0) (by simp) (by simp[VRels]) (by simp);obtain⟨c',w',hr,E,H'⟩:=hst;have e1:putR cs 0 []=cs:=by simp[putR]
      rw[e1]at H';simp only[storeCells,Sem.run_pure]at hr;cases hr;refine⟨goInt 0,c',w,?_,E,H',by simp[VRel,goInt,h0]⟩;simp only[h0,Nat.zero_mul,List.take_zero]at hf;simp[Builtin.copy_,run_underlying hu,S.lenOf,hs];rw[show n.min len=0 from h0,hf];simp[storeCells]
     ·obtain⟨rfl,hbd⟩:=hcap.resolve_left (by omega);obtain⟨c',w',hr,E,H'⟩:=QeY (P:=P) H hb hlim hp (vs:=ys.take (min n len*ti.size)) (us:=us.take (min n len*ti.size)) (off:=off) (by simp;omega) hvr (fun u hu=>QrB S.rels hone u (ZaP hu));refine⟨goInt (min n len:Nat),c',w',?_,E,H',by simp[VRel,goInt]⟩;simp[Builtin.copy_,run_underlying hu,S.lenOf,hs];simp_all
   grind[HM.run]
  grind[HM.run]
end Go.AM
namespace Go.AM
variable{P:Program}{ok:Okc}{c:Ctx ok}{w:World}{h:Heap}
def keyEq(row:Bool)(ks:List LK)(k a:AV):Option Bool:=match row with
 |true=>match k,a with|.agg xs,.agg c=>eqCells ks xs c|_,_=>none
 |false=>eqCells ks [k] [a]
def aFind(row:Bool)(ks:List LK)(k:AV):List (AV×AV)->Nat->Option (Option (Nat×AV))|[],_=>some none|(a,v)::r,i=>match keyEq row ks k a with|some true=>some (some (i,v))|some false=>aFind row ks k r (i+1)|none=>none
def HM.entries{α:Type}(b g:Nat)(k:List (AV×AV)->HM α):HM α:=.look b fun x=>match x with|some (.map a es)=>bif Nat.beq a g then k es else .fail|_=>.fail
def keyOK(row:Bool)(ks:List LK)(k:AV):Bool:=match keyEq row ks k k with|some _=>true|none=>false
def aLookup(row:Bool)(ks:List LK)(zero:AV)(ok:Bool)(x k:AV):HM AV:=if keyOK row ks k then match x with
 |.nilmap=>.ret (if ok then .tup [zero,.bool false]else zero)|.map b g=>.entries b g fun es=>match aFind row ks k es 0 with|some (some (_,v))=>.ret (if ok then .tup [v,.bool true]else v)|some none=>.ret (if ok then .tup [zero,.bool false]else zero)|none=>.fail
 |.fmap a c=>match aFind row ks k (a.zip c) 0 with|some (some (_,v))=>.ret (if ok then .tup [v,.bool true]else v)|some none=>.ret (if ok then .tup [zero,.bool false]else zero)|none=>.fail
 |_=>.fail else .fail
def aMapUpd(row:Bool)(ks:List LK)(x k v:AV):HM AV:=if keyOK row ks k then match x with
 |.map b g=>.entries b g fun es=>match aFind row ks k es 0 with|some (some (i,_))=>.put b (.map g (es.set i (k,v))) (.ret .any)|some none=>.put b (.map g (es++[(k,v)])) (.ret .any)|none=>.fail
 |_=>.fail else .fail
def aMakeMap(s:Site)(i:Nat):HM AV:=.new s i (fun g=>.map g []) fun b g=>.ret (.map b g)
theorem QfH{row:Bool}{ks:List LK}{k f:AV}{g d:Value}{b:Bool}(h:keyEq row ks k f=some b)(i:VRel c w k g)(a:VRel c w f d):∃xs ys us vs,g=asVal row us/\d=asVal row vs/\VRels c w xs us/\VRels c w ys vs/\eqCells ks xs ys=some b:=by cases row with|true=>cases k<;>cases f<;>simp only[keyEq,reduceCtorEq]at h;simp only[VRel]at i a;obtain⟨us,rfl,h1⟩:=i;obtain⟨vs,rfl,j⟩:=a;exact⟨_,_,us.toList,vs.toList,by simp[asVal],by simp[asVal],h1,j,h⟩|false=>exact⟨[k],[f],[g],[d],by simp[asVal],by simp[asVal],by simp[VRels,i],by simp[VRels,a],h⟩
theorem QkH{ks:List LK}{xs ys:List AV}{b:Bool}(d:eqCells ks xs ys=some b):(∃c,eqCells ks xs xs=some c)/\∃c,eqCells ks ys ys=some c:=by induction ks generalizing xs ys b with|nil=>cases xs<;>cases ys<;>simp[eqCells]at d⊢|cons k ks h=>
 cases xs<;>cases ys<;>simp only[eqCells,reduceCtorEq]at d⊢;rename_i x xs y ys;split at d
 ·rename_i a c h1 g;obtain⟨⟨l,i⟩,⟨b2,j⟩⟩:=h g;rw[i,j];have:(∃f,eqCell k x x=some f)/\∃f,eqCell k y y=some f:=by cases k<;>cases x<;>cases y<;>simp[eqCell]at h1⊢
  grind
 cases d
theorem QfI:∀{ks:List LK}{xs ys:List AV}{us vs:List Value},eqCells ks xs ys=some true->VRels c w xs us->VRels c w ys vs->us=vs/\∀u∈us,(∃k n,u=.int k n)\/(∃b,u=.bool b)\/∃s,u=.string s
 |[],xs,ys,us,vs,d,f,g=>by cases xs<;>cases ys<;>simp[eqCells]at d;simp only[VRels]at f g;simp_all|k::ks,xs,ys,us,vs,d,f,g=>by
  cases xs<;>cases ys<;>simp only[eqCells,reduceCtorEq]at d;rename_i x xs y ys;split at d
  ·rename_i a b h1 r;have h:a=true/\b=true:=by simp_all
   obtain⟨rfl,rfl⟩:=h;simp only[VRels]at f g;obtain⟨u,q,rfl,m,j⟩:=f;obtain⟨v,p,rfl,l,i⟩:=g;obtain⟨rfl,o⟩:=QfI r j i;have:u=v/\((∃k n,u=.int k n)\/(∃b,u=.bool b)\/∃s,u=.string s):=by
    cases k<;>cases x<;>cases y<;>simp only[eqCell,reduceCtorEq,Zaa]at h1<;>simp only[VRel]at m l<;>subst m<;>subst l;·simp_all
    ·simp_all
    simp_all
   grind
  cases d
def CkRun(P:Program)(c:Ctx ok)(w:World)(d:Nat):Prop:=∀(t:TypeId)(ks:List LK),flatK P d t=some ks->∀(xs:List AV)(us:List Value)(b:Bool),VRels c w xs us->eqCells ks xs xs=some b->∀e D,d<=D->(Instr.checkKey e D t (asVal (rowB P t) us)).run P w=.ok () w
def ckFields(D:Nat)(e:Bool)(us:Array Value):List Field->Sem Unit|[]=>pure ()|f::fs=>if f.name≠ "_"then do let a<-part f.type us f.offset;Instr.checkKey e D f.type a;ckFields D e us fs else ckFields D e us fs
def ckElems(D:Nat)(e:Bool)(t:TypeId)(n:Nat)(us:Array Value):List Nat->Sem Unit|[]=>pure ()|i::is=>do let a<-part t us (i*n)Instr.checkKey e D t a;ckElems D e t n us is
theorem Qkw(D:Nat)(e:Bool)(t:TypeId)(us:Array Value)(fs:Array Field)(w:World)(g:P.underlying t=some (.struct fs)):(Instr.checkKey e (D+1) t (.agg us)).run P w=(ckFields D e us fs.toList).run P w:=by simp only[Instr.checkKey,Sem.run_bind,run_underlying g,Result.andThen_ok];rw[<-Array.forIn_toList];generalize fs.toList=l;clear g;induction l generalizing w with|nil=>simp[ckFields]|cons f l i=>
 simp only[List.forIn_cons,ckFields,Sem.run_bind,Sem.run_ite];split;·generalize(part f.type us f.offset).run P w=h;cases h with
  |ok a d=>simp only[Result.andThen_ok];generalize(Instr.checkKey e D f.type a).run P d=j;cases j with|ok b c=>simp only[Result.andThen_ok,Sem.run_pure];exact i c|halt x c=>simp[Result.andThen]
  |halt x d=>simp[Result.andThen]
 simp_all
theorem QkI(D:Nat)(e:Bool)(t el:TypeId)(len n:Nat)(us:Array Value)(w:World)(h:P.underlying t=some (.array len el))(c:∀w,(sizeOf el).run P w=.ok n w):(Instr.checkKey e (D+1) t (.agg us)).run P w=(ckElems D e el n us (List.range' 0 len)).run P w:=by simp only[Instr.checkKey,Sem.run_bind,run_underlying h,Result.andThen_ok,c,Std.Legacy.Range.forIn_eq_forIn_range',Std.Legacy.Range.size,Nat.sub_zero,ZbG,Nat.div_one];generalize List.range' 0 len=l;induction l generalizing w with|nil=>simp[ckElems]|cons i l j=>simp only[List.forIn_cons,ckElems,Sem.run_bind,c,Result.andThen_ok];generalize(part el us (i*n)).run P w=k;cases k with
 |ok a f=>simp only[Result.andThen_ok];generalize(Instr.checkKey e D el a).run P f=g;cases g with|ok b d=>simp only[Result.andThen_ok,Sem.run_pure];exact j d|halt x d=>simp[Result.andThen]
 |halt x f=>simp[Result.andThen]
theorem QfJ{d:Nat}(q:CkRun P c w d):∀(fs:List Field)(off:Nat)(ks:List LK),flatF P (flatK P d) fs off=some ks->∀(xs:List AV)(us:Array Value)(b:Bool),VRels c w xs (us.toList.drop off)->eqCells ks xs xs=some b->off+ks.length<=us.size->∀e D,d<=D->(ckFields D e us fs).run P w=.ok () w
 |[],off,ks,a,xs,us,b,l,s,_,e,D,m=>by simp[ckFields]|f::fs,off,ks,a,xs,us,b,l,s,E,e,D,m=>by
  simp only[flatF]at a;split at a;·cases a
  rename_i y;have A:f.name≠ "_":=fun e=>y (.inl e);have B:f.offset=off:=by omega
  split at a
  ·rename_i g h;split at a
   ·rename_i hc;split at a
    ·rename_i r x;cases a;simp only[Zae]at E;obtain⟨t,b2,C,z,rfl⟩:=Qca s;obtain⟨u,j⟩:=QbQ h;obtain⟨i,hi⟩:=Qbe j;have n:i.size=g.length:=by simp_all[Program.cellsOf]
     have o:=QaC l;simp at o;have v:=Qc6 (P:=P) (cs:=us) (off:=off) w j hi n (QbX h) (by omega);have k:=QaE (QaR l) 0 g.length (by omega);simp only[Za9]at k;have h1:=q f.type g h _ _ t k C e D m;have p:VRels c w (xs.drop g.length) (us.toList.drop (off+g.length)):=by have:=QaE (QaR l) g.length (xs.length-g.length) (by omega);grind[ZaT,ZaU]
     have F:=QfJ q fs (off+g.length) r x _ us b2 p z (by omega) e D m;simp_all[ckFields]
    cases a
   cases a
  cases a
theorem QgF{d:Nat}(p:CkRun P c w d){el:TypeId}{ks:List LK}(h:flatK P d el=some ks)(hc:P.cellsOf el=ks.length):∀(m s:Nat)(xs:List AV)(us:Array Value)(b:Bool),VRels c w xs (us.toList.drop (s*ks.length))->eqCells (List.replicate m ks).flatten xs xs=some b->(s+m)*ks.length<=us.size->∀e D,d<=D->(ckElems D e el ks.length us (List.range' s m)).run P w=.ok () w
 |0,s,xs,us,b,g,l,_,e,D,j=>by simp[ckElems]|m+1,s,xs,us,b,g,l,z,e,D,j=>by
  rw[ZaW,Zbs]at l;obtain⟨q,b2,r,t,rfl⟩:=Qca l;obtain⟨u,f⟩:=QbQ h;obtain⟨i,hi⟩:=Qbe f;have n:i.size=ks.length:=by simp_all[Program.cellsOf]
  have o:=QaC g;simp at o;have x:(s+(m+1))*ks.length=s*ks.length+ks.length+m*ks.length:=by grind
  have y:(s+1)*ks.length=s*ks.length+ks.length:=Zbc _ _;have v:=Qc6 (P:=P) (cs:=us) (off:=s*ks.length) w f hi n (QbX h) (by omega);have a:=QaE (QaR g) 0 ks.length (by omega);simp only[Za9]at a;have h1:=p el ks h _ _ q a r e D j;have k:VRels c w (xs.drop ks.length) (us.toList.drop ((s+1)*ks.length)):=by have:=QaE (QaR g) ks.length (xs.length-ks.length) (by omega);grind[ZaT,ZaU]
  have A:=QgF p h hc m (s+1) _ us b2 k t (by grind) e D j;simp_all[Zb2,ckElems]
theorem ckRun:∀d,CkRun P c w d
 |0=>fun t ks a=>by simp[flatK]at a|d+1=>by
  intro t ks a xs us b k l e D s;obtain⟨D',rfl⟩:∃D',D=D'+1:=⟨D-1,by omega⟩;have r:=QaC k;obtain⟨o,_⟩:=Qct l;unfold flatK at a;split at a;·simp_all[Instr.checkKey,run_underlying]
  ·simp_all[Instr.checkKey,run_underlying]
  ·simp_all[Instr.checkKey,run_underlying]
  ·rename_i fs h;split at a;·cases a
   have m:rowB P t=true:=by simp[rowB,h]
   simp only[m,asVal,if_true];rw[Qkw D' e t _ fs w h];exact QfJ (ckRun d) fs.toList 0 ks a xs us.toArray b (by simpa using k) l (by simp;omega) e D' (by omega)
  ·rename_i n el h;split at a
   ·rename_i f g;split at a
    ·rename_i hc;cases a;have m:rowB P t=true:=by simp[rowB,h]
     obtain⟨u,j⟩:=QbQ g;obtain⟨i,hi⟩:=Qbe j;have q:i.size=f.length:=by simp_all[Program.cellsOf]
     simp only[m,asVal,if_true];rw[QkI D' e t el n f.length _ w h (fun w=>by simp_all[QaK])];have p:(List.replicate n f).flatten.length=n*f.length:=by simp
     exact QgF (ckRun d) g hc n 0 xs us.toArray b (by simpa using k) l (by simp;omega) e D' (by omega)
    cases a
   cases a
  cases a
def FoundRel(c:Ctx ok)(w:World):Option (Nat×AV)->Option (Nat×Value)->Prop|none,none=>True|some (a,x),some (d,f)=>a=d/\VRel c w x f|_,_=>False
theorem Qjf{d:TypeId}{row:Bool}{ks:List LK}(i:flatK P 40 d=some ks)(l:rowB P d=row){k g:AV}{f a:Value}{b:Bool}(he:keyEq row ks k g=some b)(h1:VRel c w k f)(m:VRel c w g a):(Op.equal d f a).run P w=.ok b w:=by obtain⟨xs,p,us,o,rfl,rfl,h,j,n⟩:=QfH he h1 m;have:=eqRun (P:=P) (c:=c) (w:=w) 40 d ks i _ _ _ _ b h j n 10000 (by omega);rw[l]at this;exact this
theorem QeH{m:TypeId}{row:Bool}{ks:List LK}(j:flatK P 40 m=some ks)(h:rowB P m=row){k:AV}{n:Value}(a:VRel c w k n):∀(es:List (AV×AV))(ms:List MapEntry)(clock i:Nat)(r:Option (Nat×AV)),MRel c w es ms clock->aFind row ks k es i=some r->∃d,(Instr.findAsking m n ms i).run P w=.ok d w/\FoundRel c w r d
 |[],ms,clock,i,r,hm,hf=>by simp only[MRel]at hm;subst hm;simp only[aFind,Zaa]at hf;subst hf;exact⟨none,by simp[Instr.findAsking],trivial⟩|(q,x)::es,ms,clock,i,r,hm,hf=>by
  simp only[MRel]at hm;obtain⟨e,f,rfl,h1,o,s,t,p⟩:=hm;simp only[aFind]at hf;split at hf;·rename_i g;cases hf;exact⟨some (i,e.val),by simp[Instr.findAsking,Qjf j h g a h1],rfl,o⟩
  ·rename_i g;obtain⟨d,l,hrel⟩:=QeH j h a es f clock (i+1) r p hf;exact⟨d,by simp[Instr.findAsking,Qjf j h g a h1,l],hrel⟩
  cases hf
theorem QhT{d:TypeDesc}{x y:AV}{u v:Value}{k:LK}{b:Bool}(h:(match k with|.b=>d=.bool|.i=>∃a,d=.int a|.s=>d=.string))(he:eqCell k x y=some b)(g:VRel c w x u)(f:VRel c w y v):Instr.sameNow d u v=some b:=by
 cases k<;>cases x<;>cases y<;>simp only[eqCell,reduceCtorEq,Zaa]at he<;>simp only[VRel]at g f<;>subst g<;>subst f<;>simp only at h;·simp_all[Instr.sameNow,Qc5]
 ·obtain⟨a,rfl⟩:=h;simp_all[Instr.sameNow,Qc5]
 simp_all[Instr.sameNow,beq_toListBytes,Qc5]
theorem QgG{d:TypeDesc}{lk:LK}(o:(match lk with|.b=>d=.bool|.i=>∃l,d=.int l|.s=>d=.string)){k:AV}{h:Value}(a:VRel c w k h):∀(es:List (AV×AV))(ms:List MapEntry)(clock i:Nat)(r:Option (Nat×AV)),MRel c w es ms clock->aFind false [lk] k es i=some r->∃g,Instr.findNow d h ms i=some g/\FoundRel c w r g
 |[],ms,clock,i,r,hm,hf=>by simp only[MRel]at hm;subst hm;simp only[aFind,Zaa]at hf;subst hf;exact⟨none,by simp[Instr.findNow],trivial⟩|(j,x)::es,ms,clock,i,r,hm,hf=>by
  simp only[MRel]at hm;obtain⟨e,f,rfl,h1,q,t,s,n⟩:=hm;simp only[aFind,keyEq]at hf;have one:∀b,eqCells [lk] [k] [j]=some b->eqCell lk k j=some b:=by grind[eqCells]
  split at hf;·rename_i p;cases hf;exact⟨some (i,e.val),by grind[Instr.findNow,QhT],rfl,q⟩
  ·rename_i p;obtain⟨g,m,hrel⟩:=QgG o a es f clock (i+1) r n hf;grind[Instr.findNow,QhT]
  cases hf
structure MapT(P:Program)(t:TypeId)(row:Bool)(ks:List LK)(kt et:TypeId):Prop where
 hu:P.underlying t=some (.map kt et)hk:flatK P 40 kt=some ks
 hr:rowB P kt=row
theorem Qbt{t j v:TypeId}{row:Bool}{ks:List LK}(T:MapT P t row ks j v){k:AV}{f:Value}(d:VRel c w k f){es:List (AV×AV)}{ms:List MapEntry}{clock:Nat}{r:Option (Nat×AV)}(hm:MRel c w es ms clock)(hf:aFind row ks k es 0=some r):∃l,(Instr.findKey j f ms).run P w=.ok l w/\FoundRel c w r l:=by
 obtain⟨u,n⟩:=QbQ T.hk;have i:(Instr.findKey j f ms).run P w=(match Instr.findNow u f ms 0 with|some r=>.ok r w|none=>(Instr.findAsking j f ms).run P w):=by simp only[Instr.findKey,Sem.run_bind,run_underlying n,Result.andThen_ok];cases Instr.findNow u f ms 0<;>rfl
 rw[i];cases row with|true=>
  have h:Instr.findNow u f ms 0=none\/(ms=[]/\Instr.findNow u f ms 0=some none):=by cases ms with|nil=>exact .inr ⟨rfl,rfl⟩|cons e ms=>left;have g:=T.hr;unfold rowB at g;rw[n]at g;cases u<;>simp at g<;>simp[Instr.findNow,Instr.sameNow]
  rcases h with h|⟨rfl,h⟩;·rw[h];exact QeH T.hk T.hr d es ms clock 0 r hm hf
  rw[h];have:es=[]:=by cases es with|nil=>rfl|cons a es=>obtain⟨y,x⟩:=a;simp[MRel]at hm
  subst this;simp only[aFind,Zaa]at hf;subst hf;exact⟨none,rfl,trivial⟩|false=>
  have m:∃lk,ks=[lk]/\(match lk with|.b=>u=.bool|.i=>∃o,u=.int o|.s=>u=.string):=by have s:=T.hk;have g:=T.hr;unfold rowB at g;rw[n]at g;unfold flatK at s;grind
  obtain⟨lk,rfl,p⟩:=m;obtain⟨l,h1,q⟩:=QgG p d es ms clock 0 r hm hf;rw[h1];exact⟨l,rfl,q⟩
theorem Qd1{t f j:TypeId}{row:Bool}{ks:List LK}(T:MapT P t row ks f j){k:AV}{h:Value}(a:VRel c w k h)(d:keyOK row ks k=true)(e:Bool):(Instr.checkKey e 10000 f h).run P w=.ok () w:=by
 unfold keyOK at d;split at d;·rename_i b n;obtain⟨xs,r,us,o,h1,p,m,q,i⟩:=QfH n a a;obtain⟨⟨l,g⟩,_⟩:=QkH i;have:=ckRun (P:=P) (c:=c) (w:=w) 40 f ks T.hk xs us l m g e 10000 (by omega);rw[T.hr,<-h1]at this;exact this
 cases d
theorem Qcc{α:Type}{b g:Nat}{k:List (AV×AV)->HM α}{r:α×Heap}(hm:(HM.entries b g k).run h=some r):∃es,h.get b=some (.map g es)/\(k es).run h=some r:=by
 simp only[HM.entries,HM.run]at hm;split at hm;·rename_i a es c;cases e:Nat.beq a g with|false=>rw[e]at hm;simp[HM.run]at hm|true=>
  rw[e]at hm;have:a=g:=by simpa using e
  subst this;exact⟨es,c,hm⟩
 grind[HM.run]
theorem HRel.atMap(H:HRel c h w){b g:Nat}{es:List (AV×AV)}(d:h.get b=some (.map g es)){cb base:Nat}(hp:c.ρ b g=some (.loc cb base)):∃ms clock,c.O cb/\w.heap[cb]?=some (.map ms clock)/\MRel c w es ms.toList clock/\clock=es.length:=by obtain⟨f,a,clock,h1,k,j,i⟩:=H.blk b _ d;rw[hp]at h1;cases h1;exact⟨a,clock,k,j,i⟩
theorem QbD{cb:Nat}{ms:Array MapEntry}{clock:Nat}(a:w.heap[cb]?=some (.map ms clock)):(getObj cb).run P w=.ok (.map ms clock) w:=by simp[getObj,Sem.run,a]
theorem QmU:∀{ks vs:List AV}{es:List MapEntry}{clock:Nat},MStamp es clock->VRels c w ks (es.map (·.key))->VRels c w vs (es.map (·.val))->MRel c w (ks.zip vs) es clock|[],vs,es,clock,_,h1,_=>by simp_all[MRel,VRels]|k::ks,[],es,clock,_,h1,a=>by simp_all[VRels]|k::ks,v::vs,es,clock,d,h1,a=>by cases es with|nil=>simp[VRels]at h1|cons e es=>simp only[VRels,ZaR]at h1 a;obtain⟨x,xs,i,h1,f⟩:=h1;obtain⟨y,l,j,a,g⟩:=a;cases i;cases j;simp only[MStamp]at d;have h:=QmU d.2.2 f g;rw[List.zip_cons_cons];refine⟨e,es,rfl,h1,a,d.1,?_,h⟩;have:=QbF h;rw[this];exact d.2.1
theorem QiD:∀{l:List (AV×AV)}{es:List MapEntry}{clock:Nat},MRel c w l es clock->MStamp es clock/\VRels c w (l.map (·.1)) (es.map (·.key))/\VRels c w (l.map (·.2)) (es.map (·.val))
 |[],es,clock,h=>by simp_all[MRel,MStamp,VRels]|(k,x)::r,es,clock,h=>by
  have hlen:=QbF h;simp only[MRel]at h;obtain⟨e,g,rfl,h1,n,d,j,a⟩:=h;obtain⟨f,i,m⟩:=QiD a;have o:=QbF a;refine⟨⟨d,by omega,f⟩,?_,?_⟩;·simp only[ZaR,VRels];grind
  simp only[ZaR,VRels];grind
theorem QkJ{t kt et:TypeId}{row:Bool}{ks:List LK}{zero x k v:AV}{ok:Bool}{cx ck zv:Value}{ti:TypeInfo}{h':Heap}(H:HRel c h w)(T:MapT P t row ks kt et)(hx:VRel c w x cx)(hkey:VRel c w k ck)(hi:P.info? et=some ti)(hz:ti.zero=some zv)(hc:cOK zero zv=true)(hm:(aLookup row ks zero ok x k).run h=some (v,h')):Sound P c w (Instr.lookup t cx ck ok) v h':=by
 unfold aLookup at hm;split at hm
 ·rename_i hok;have hck:=fun e=>Qd1 (P:=P) T hkey hok e;have hzr:VRel c w zero zv:=QdQ _ _ hc;cases x<;>simp only at hm<;>try(cases hm;done)
  case nilmap=>
   simp only[HM.run,Zaa,Zaj]at hm;obtain⟨rfl,rfl⟩:=hm;simp only[VRel]at hx;subst hx;obtain⟨r',h1,h2⟩:=Qbt (P:=P) (w:=w) T hkey (es:=[]) (ms:=[]) (clock:=0) (r:=none) (by simp[MRel]) rfl;have:r'=none:=by grind[FoundRel]
   subst this;refine .here H (cv:=if ok then .tuple #[zv,.bool false]else zv) ?_ ?_;·simp[Instr.lookup,run_underlying T.hu,hck,h1,zeroValue,typeInfo,hi,hz]
   grind[VRel,VRels]
  case map b g=>
   obtain⟨es,hb,hm⟩:=Qcc hm;simp only[VRel]at hx;obtain⟨cb,hp,rfl⟩:=hx;obtain⟨ms,clock,hO,hC,hR,hcl⟩:=H.atMap hb hp;split at hm;·rename_i i x hf;simp only[HM.run,Zaa,Zaj]at hm;obtain⟨rfl,rfl⟩:=hm;obtain⟨r',h1,h2⟩:=Qbt (P:=P) (w:=w) T hkey hR hf;cases r' with|none=>simp[FoundRel]at h2|some r'=>
    obtain⟨i',xv⟩:=r';simp only[FoundRel]at h2;refine .here H (cv:=if ok then .tuple #[xv,.bool true]else xv) ?_ ?_;·simp[Instr.lookup,run_underlying T.hu,QbD hC,hck,h1]
    ·grind[VRel,VRels]
   ·rename_i hf;simp only[HM.run,Zaa,Zaj]at hm;obtain⟨rfl,rfl⟩:=hm;obtain⟨r',h1,h2⟩:=Qbt (P:=P) (w:=w) T hkey hR hf;have:r'=none:=by grind[FoundRel]
    subst this;refine .here H (cv:=if ok then .tuple #[zv,.bool false]else zv) ?_ ?_;·simp[Instr.lookup,run_underlying T.hu,QbD hC,hck,h1,zeroValue,typeInfo,hi,hz]
    grind[VRel,VRels]
   grind[HM.run]
  case fmap ks' vs'=>
   simp only[VRel]at hx;obtain⟨mb,ms,clock,rfl,hF,hC,hcl,hst,h6,h7⟩:=hx;have hR:=QmU hst h6 h7;split at hm;·rename_i i x hf;simp only[HM.run,Zaa,Zaj]at hm;obtain⟨rfl,rfl⟩:=hm;obtain⟨r',h1,h2⟩:=Qbt (P:=P) (w:=w) T hkey hR hf;cases r' with|none=>simp[FoundRel]at h2|some r'=>
    obtain⟨i',xv⟩:=r';simp only[FoundRel]at h2;refine .here H (cv:=if ok then .tuple #[xv,.bool true]else xv) ?_ ?_;·simp[Instr.lookup,run_underlying T.hu,QbD hC,hck,h1]
    ·grind[VRel,VRels]
   ·rename_i hf;simp only[HM.run,Zaa,Zaj]at hm;obtain⟨rfl,rfl⟩:=hm;obtain⟨r',h1,h2⟩:=Qbt (P:=P) (w:=w) T hkey hR hf;have:r'=none:=by grind[FoundRel]
    subst this;refine .here H (cv:=if ok then .tuple #[zv,.bool false]else zv) ?_ ?_;·simp[Instr.lookup,run_underlying T.hu,QbD hC,hck,h1,zeroValue,typeInfo,hi,hz]
    grind[VRel,VRels]
   grind[HM.run]
 grind[HM.run]
theorem Qd2:∀{es:List (AV×AV)}{ms:List MapEntry}{clock:Nat}(i:Nat){p:AV×AV},MRel c w es ms clock->es[i]?=some p->∃e,ms[i]?=some e/\VRel c w p.1 e.key/\VRel c w p.2 e.val|[],ms,clock,i,p,_,hi=>by simp at hi|(k,x)::es,ms,clock,i,p,hm,hi=>by simp only[MRel]at hm;obtain⟨e,a,rfl,h1,f,h,g,d⟩:=hm;cases i with|zero=>simp at hi;subst hi;exact⟨e,by simp,h1,f⟩|succ i=>simp at hi;simpa using Qd2 i d hi
theorem Qhk{row:Bool}{ks:List LK}{k:AV}:∀{es:List (AV×AV)}{i j:Nat}{v:AV},aFind row ks k es i=some (some (j,v))->i<=j/\∃a,es[j-i]?=some (a,v)/\keyEq row ks k a=some true
 |[],i,j,v,hf=>by simp[aFind]at hf|(a,x)::es,i,j,v,hf=>by
  simp only[aFind]at hf;split at hf;·simp_all
  ·obtain⟨h1,d,c,f⟩:=Qhk hf;grind
  cases hf
theorem QhU{row:Bool}{ks:List LK}{k o:AV}{j f:Value}(v:keyEq row ks k o=some true)(h1:VRel c w k j)(x:VRel c w o f)(g:row=true\/∃lk,ks=[lk]):j=f/\Instr.sameBits 10000 j j=true:=by
 obtain⟨xs,A,us,z,rfl,rfl,l,y,t⟩:=QfH v h1 x;obtain⟨rfl,a⟩:=QfI t l y;refine⟨rfl,?_⟩;have q:∀n u,((∃k n,u=.int k n)\/(∃b,u=.bool b)\/∃s,u=.string s)->Instr.sameBits n u u=true:=by
  intro n u d;rcases d with⟨k,m,rfl⟩|⟨b,rfl⟩|⟨s,rfl⟩;·simp[Instr.sameBits]
  ·simp[Instr.sameBits]
  simp_all[Instr.sameBits,beq_toListBytes]
 cases row with|true=>simp only[asVal,if_true];show Instr.sameBits (9999+1) _ _=true;simp only[Instr.sameBits,Zab,beq_self_eq_true,true_and,ZaG];intro p hp;obtain⟨i,hi,rfl⟩:=ZbZ.1 hp;simp at hi;simp only[List.getElem_zip];exact q _ _ (a _ (by simp))|false=>
  rcases g with h|⟨lk,rfl⟩;·cases h
  have r:=(Qct t).1;have d:=QaC l;match us,a,d with|[u],a,_=>simp only[asVal,Zap,if_false,List.headD_cons];exact q _ _ (a u (by simp))|[],_,d=>simp only[ZaF,Za3]at d r;omega|_::_::_,_,d=>simp only[ZaF,Za3]at d r;omega
theorem QkK{k v:AV}{f cv:Value}(h:VRel c w k f)(g:VRel c w v cv):∀{es:List (AV×AV)}{ms:List MapEntry}{clock:Nat}(i:Nat),MRel c w es ms clock->MRel c w (es.set i (k,v)) (ms.modify i fun e=>{e with key:=f,val:=cv}) clock|[],ms,clock,i,hm=>by simp_all[MRel]|(n,x)::es,ms,clock,i,hm=>by simp only[MRel]at hm;obtain⟨e,l,rfl,h1,m,j,a,d⟩:=hm;cases i with|zero=>simp only[Zbr,List.modify_zero_cons,MRel];exact⟨_,_,rfl,h,g,j,a,d⟩|succ i=>simp only[ZbS,List.modify_succ_cons,MRel];exact⟨_,_,rfl,h1,m,j,by simpa using a,QkK h g i d⟩
theorem QfK{k v:AV}{a cv:Value}(i:VRel c w k a)(g:VRel c w v cv):∀{es:List (AV×AV)}{ms:List MapEntry}{clock:Nat},MRel c w es ms clock->MRel c w (es++[(k,v)]) (ms++[{key:=a,val:=cv,born:=clock}]) (clock+1)|[],ms,clock,hm=>by simp only[MRel]at hm;subst hm;simp only[ZaB,MRel];grind|(j,x)::es,ms,clock,hm=>by simp only[MRel]at hm;obtain⟨e,f,rfl,h1,h,l,m,d⟩:=hm;simp only[ZaC,MRel];exact⟨_,_,rfl,h1,h,by omega,by simp;omega,QfK i g d⟩
theorem HRel.setMap(H:HRel c h w){b g:Nat}{es es':List (AV×AV)}(a:b<lim)(d:h.get b=some (.map g es)){cb:Nat}(hp:c.ρ b g=some (.loc cb 0)){ms':Array MapEntry}{clock':Nat}(hm:∀c' w',Evo c w c' w'->MRelT c' w' es' ms'.toList clock'):∃c',Evo c w c' (upd w cb (.map ms' clock'))/\HRel c' (h.set b (.map g es')) (upd w cb (.map ms' clock')):=by obtain⟨ms,clock,q,l,p,n⟩:=H.atMap d hp;have f:=Qa2 l;have:=H.put (b:=b) (cb:=cb) (base:=0) (x:=.map g es') (w':=upd w cb (.map ms' clock')) a (fun y m=>H.later b _ d y m) (.inr hp) (.inr ⟨g,0,⟨_,d,rfl,fun k=>by simp⟩,hp⟩) rfl rfl rfl (by simp[upd]) (by simp_all[upd]) (fun k _ i=>QfF i) (fun C2 o j r=>by simp_all) (fun E=>⟨cb,ms',clock',QaX,.inr rfl,Qc2 f,hm _ _ E⟩);grind
theorem QcU{cb:Nat}{ms ms':Array MapEntry}{clock clock':Nat}(a:w.heap[cb]?=some (.map ms clock)):(setObj cb (.map ms' clock')).run P w=.ok () (upd w cb (.map ms' clock')):=by simp[setObj,Sem.run,a,upd]
theorem QfL{t S O:TypeId}{row:Bool}{ks:List LK}{x k v r:AV}{M j cv:Value}{h':Heap}(H:HRel c h w)(T:MapT P t row ks S O)(L:VRel c w x M)(a:VRel c w k j)(N:VRel c w v cv)(hm:(aMapUpd row ks x k v).run h=some (r,h')):SoundU P c w (Instr.mapUpdate t M j cv) h':=by
 unfold aMapUpd at hm;split at hm
 ·rename_i G;have o:=fun e=>Qd1 (P:=P) T a G e;cases x<;>simp only at hm<;>try(cases hm;done)
  case map b g=>
   obtain⟨es,z,hm⟩:=Qcc hm;simp only[VRel]at L;obtain⟨V,hp,rfl⟩:=L;obtain⟨ms,clock,hO,y,n,l⟩:=H.atMap z hp;split at hm;·rename_i i Y hf;obtain⟨d,hm⟩:=QaY hm;simp only[HM.run,Zaa,Zaj]at hm;obtain⟨_,rfl⟩:=hm;obtain⟨s,h1,u⟩:=Qbt (P:=P) (w:=w) T a n hf;cases s with|none=>simp[FoundRel]at u|some s=>
    obtain⟨X,U⟩:=s;simp only[FoundRel]at u;obtain⟨rfl,_⟩:=u;obtain⟨_,Z,q,A⟩:=Qhk hf;simp only[Nat.sub_zero]at q;obtain⟨e,he,J,_⟩:=Qd2 i n q;have p:row=true\/∃lk,ks=[lk]:=by cases F:row with|true=>exact .inl rfl|false=>have C:=T.hk;have K:=T.hr;rw[F]at K;have R:=QbX C K;match ks,R with|[lk],_=>exact .inr ⟨lk,rfl⟩
    obtain⟨I,B⟩:=QhU A a J p;have f:(Instr.keyThatStays e.key j).run P w=.ok j w:=by simp_all[Instr.keyThatStays]
    rw[ZaS]at he;obtain⟨m,E,H'⟩:=H.setMap d z hp (es':=es.set i (k,v)) (ms':=ms.modify i fun e=>{e with key:=j,val:=cv}) (clock':=clock) (fun m Q E=>by have:=QkK (Zb8 (E.ext H.disj) _ _ a) (Zb8 (E.ext H.disj) _ _ N) i (MRel.mono (E.ext H.disj) _ _ _ n);exact⟨by simp_all,by simpa using l⟩);refine⟨m,_,?_,E,H'⟩;simp[Instr.mapUpdate,run_underlying T.hu,QbD y,o,h1,he,f,QcU y]
   ·rename_i hf;obtain⟨d,hm⟩:=QaY hm;simp only[HM.run,Zaa,Zaj]at hm;obtain⟨_,rfl⟩:=hm;obtain⟨s,h1,u⟩:=Qbt (P:=P) (w:=w) T a n hf;have:s=none:=by grind[FoundRel]
    subst this;obtain⟨m,E,H'⟩:=H.setMap d z hp (es':=es++[(k,v)]) (ms':=ms.push {key:=j,val:=cv,born:=clock}) (clock':=clock+1) (fun m Q E=>by have:=QfK (Zb8 (E.ext H.disj) _ _ a) (Zb8 (E.ext H.disj) _ _ N) (MRel.mono (E.ext H.disj) _ _ _ n);exact⟨by simp_all,by simpa using l⟩);refine⟨m,_,?_,E,H'⟩;simp[Instr.mapUpdate,run_underlying T.hu,QbD y,o,h1,QcU y]
   grind[HM.run]
 grind[HM.run]
theorem Qkx{t:TypeId}{s:Site}{i:Nat}{v:AV}{h':Heap}{reserve:Option Value}(f:∀r,reserve=some r->(∃k n,r=.int k n)/\∃m l,P.underlying t=some (.map m l))(H:HRel c h w)(hm:(aMakeMap s i).run h=some (v,h')):Sound P c w (Instr.makeMap t reserve) v h':=by
 unfold aMakeMap at hm;obtain⟨b,g,d,x,hm⟩:=Qc4 hm;simp only[HM.run,Zaa,Zaj]at hm;obtain⟨rfl,rfl⟩:=hm;have a:∀y,g<=y->c.ρ b y=none:=by
  intro y p;rcases x with⟨h1,o⟩|⟨z,h1,o⟩;·exact H.fresh b h1 y
  exact H.later b z h1 y (by omega)
 have j:(w.alloc (.map #[] 0)).heap[w.heap.size]?=some (.map #[] 0):=by show(w.heap.push _)[w.heap.size]?=_;simp
 have:=H.put (b:=b) (cb:=w.heap.size) (base:=0) (x:=.map g []) (w':=w.alloc (.map #[] 0)) d (fun y p=>a y (Nat.le_of_lt p)) (.inl (a g (ZaO _))) (.inl rfl) rfl rfl rfl (by simp) (by simp) (fun k A _=>Go.RowKit.Below.heap_alloc w _ k A) (fun C2 B q o=>by simp_all) (fun E=>⟨w.heap.size,#[],0,QaX,.inr rfl,j,by simp[MRel],rfl⟩);refine⟨.map (some w.heap.size),_,_,?_,this.1,this.2,?_⟩;·cases reserve with|none=>simp[Instr.makeMap]|some r=>obtain⟨⟨k,n,rfl⟩,m,l,u⟩:=f r rfl;simp[Instr.makeMap,run_underlying u,asInt,asIntOf]
 simp only[VRel];exact⟨_,QaX,rfl⟩
end Go.AM
