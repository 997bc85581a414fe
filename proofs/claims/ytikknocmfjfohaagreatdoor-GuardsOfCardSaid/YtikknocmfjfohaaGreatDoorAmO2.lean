/- A part of the proof of GuardsOfCardSaid: lemmas on the way (AmE, AmF, AmG). Conditions: none of ours. -/
import Derived.Laws.Strings
import Derived.Laws.StructEq
import Derived.Test.YtikknocmfjfohaaGreatDoorAmO1
theorem Go.AM.bDTQq{p:Prop}(h:p:=by
 obtain⟨_,rfl⟩:=r;exact⟨fun d=>by simp[Op.equalIn,run_underlying i],rfl,rfl,fun{op ox cv}=>by cases op<;>rfl⟩):p:=h
theorem Go.AM.bcgY5{p:Prop}(h:p:=by
 exact⟨fun d=>by simp[Op.equalIn,run_underlying i],rfl,rfl,fun{op ox cv}=>by cases op<;>rfl⟩):p:=h
theorem Go.AM.bFhD7{p:Prop}(h:p:=by
 obtain⟨_,_,_,rfl⟩:=r;exact⟨fun d=>by simp[Op.equalIn,run_underlying i],rfl,rfl,fun{op ox cv}=>by cases op<;>rfl⟩):p:=h
theorem Go.AM.bl1dC{p:Prop}(h:p:=by
 exact .here H (cv:=goInt len) (by simp[Builtin.len_,run_underlying hu]) (by simp[VRel,goInt])):p:=h
theorem Go.AM.bvbHk{p:Prop}(h:p:=by
 split at hm;·rename_i i x hf;simp only[HM.run,Zaa,Zal]at hm;obtain⟨rfl,rfl⟩:=hm;obtain⟨r',h1,h2⟩:=QbL (P:=P) (w:=w) T hkey hR hf;cases r' with|none=>simp[FoundRel]at h2|some r'=>
  obtain⟨i',xv⟩:=r';simp only[FoundRel]at h2;refine .here H (cv:=if ok then .tuple #[xv,.bool true]else xv) ?_ ?_;·simp[Instr.lookup,run_underlying T.hu,QbV hC,hck,h1]
  ·grind[VRel,VRels]
 ·rename_i hf;simp only[HM.run,Zaa,Zal]at hm;obtain⟨rfl,rfl⟩:=hm;obtain⟨r',h1,h2⟩:=QbL (P:=P) (w:=w) T hkey hR hf;have:r'=none:=by grind[FoundRel]
  subst this;refine .here H (cv:=if ok then .tuple #[zv,.bool false]else zv) ?_ ?_;·simp[Instr.lookup,run_underlying T.hu,QbV hC,hck,h1,zeroValue,typeInfo,hi,hz]
  grind[VRel,VRels]
 grind[HM.run]):p:=h
set_option linter.unusedSectionVars false
set_option maxHeartbeats 32000000
set_option maxRecDepth 100000
set_option linter.unusedVariables false
set_option linter.unusedSimpArgs false
namespace Go.AM
variable{P:Program}{ok:Okc}{c:Ctx ok}{w:World}{h:Heap}
variable{v x y:AV}{cs:Array Value}{b neg:Bool}{k:EqK}{ks:List LK}{d g:Nat}{s:Sem Value}{α:Type}{t:TypeId}{i:TypeInfo}{m:Value}
def Pure(P:Program)(c:Ctx ok)(w:World)(s:Sem Value)(v:AV):Prop:=∃a,s.run P w=.ok a w/\VRel c w v a
theorem Pure.sound(H:HRel c h w)(p:Pure P c w s v):Sound P c w s v h:=let⟨_,h1,a⟩:=p;.here H h1 a
theorem Qdx[BEq α][LawfulBEq α][DecidableEq α](a b:α):(a==b)=decide (a=b):=by grind
theorem Qtx[BEq α][LawfulBEq α][DecidableEq α](a b:α):(a !=b)=!decide (a=b):=by grind
theorem Qqc{op}{h cy}(f:VRel c w x h)(g:VRel c w y cy)(hm:aBin op x y=some v):Pure P c w (binOp op t h cy) v:=by
 unfold aBin at hm;split at hm
 ·rename_i k a m b;simp only[VRel]at f g;subst f;subst g;split at hm
  ·split at hm;·cases hm
   rename_i d;cases hm;exact⟨_,by simp[binOp,Op.shift,d];rfl,by simp[VRel,wr_eq]⟩
  ·split at hm;·cases hm
   rename_i d;cases hm;exact⟨_,by simp[binOp,Op.shift,d];rfl,by simp[VRel]⟩
  split at hm;·rename_i l;subst l;split at hm<;>first
   | (by_cases d:b=0;·rw[if_pos d]at hm;cases hm
      ·rw[if_neg d]at hm;cases hm;refine⟨?_,?_,?_⟩;rotate_left;·simp[binOp,Op.intDiv,d];rfl
       grind[VRel,wr_eq])
   | (cases hm;refine⟨.bool (a==b),?_,?_⟩;·simp[binOp,Op.intCmp];done
      ·grind[VRel])
   | (cases hm;refine⟨.bool (a !=b),?_,?_⟩;·simp[binOp,Op.intCmp];done
      ·grind[VRel])
   | (cases hm;refine⟨?_,?_,?_⟩;rotate_left;·simp[binOp,Op.intCmp];rfl
      ·simp[VRel];done)
   | (cases hm;refine⟨?_,?_,?_⟩;rotate_left;·simp[binOp,Op.intArith];rfl
      ·simp[VRel,wr_eq];done)
   | (cases hm;refine⟨?_,?_,?_⟩;rotate_left;·simp[binOp,Op.intBits];rfl
      ·simp[VRel,wr_eq];done)|cases hm
  cases hm
 ·rename_i a b;simp only[VRel]at f g;subst f;subst g;split at hm
  ·split at hm
   ·rename_i n;cases hm;have i:¬(9223372036854775807<(a.length:Int)+(b.length:Int)):=by omega
    exact⟨.string ⟨(a++b).toArray⟩,by simp[binOp,Op.stringOp,ByteArray.size,i];rfl,by simp[VRel]⟩
   cases hm
  all_goals first|(cases hm;exact⟨_,by simp[binOp,Op.stringOp];rfl,by simp[VRel,Qdx,Qtx]⟩)|cases hm
 cases hm
theorem Qsq{op}{b}(a:VRel c w x b)(hm:aUn op x=some v):Pure P c w (Op.unary op b) v:=by
 unfold aUn at hm;split at hm;·simp only[VRel]at a;subst a;cases hm;exact⟨_,by simp[Op.unary,Op.intArith];rfl,by simp[VRel,wr_eq]⟩
 ·simp only[VRel]at a;subst a;cases hm;rename_i k n;refine⟨_,by simp[Op.unary,Op.intBits];rfl,?_⟩;simp only[VRel,wr_eq];cases k<;>rfl
 ·simp only[VRel]at a;subst a;cases hm;exact⟨_,by simp[Op.unary];rfl,by simp[VRel]⟩
 cases hm
def flatF(P:Program)(rec:TypeId->Option (List LK)):List Field->Nat->Option (List LK)|[],_=>some []|f::fs,off=>if f.name= "_"\/f.offset≠off then none else match rec f.type with|some ks=>if P.cellsOf f.type=ks.length then(match flatF P rec fs (off+ks.length)with|some r=>some (ks++r)|none=>none)else none|none=>none
def flatK(P:Program):Nat->TypeId->Option (List LK)|0,_=>none|d+1,t=>match P.underlying t with
 |some .bool=>some [.b]|some (.int _)=>some [.i]|some .string=>some [.s]|some (.struct fs)=>if P.stoodInHeld t then none else flatF P (flatK P d) fs.toList 0|some (.array n e)=>match flatK P d e with|some ks=>if P.cellsOf e=ks.length then some (List.replicate n ks).flatten else none|none=>none
 |_=>none
def rowB(P:Program)(t:TypeId):Bool:=match P.underlying t with|some (.struct _)|some (.array _ _)=>true|_=>false
def asVal(row:Bool)(vs:List Value):Value:=if row then .agg vs.toArray else vs.headD undef
theorem QcN:∀{ks:List LK}{xs ys:List AV}{b:Bool},eqCells ks xs ys=some b->xs.length=ks.length/\ys.length=ks.length
 |[],[],[],_,_=>by simp|[],x::xs,ys,_,c=>by simp[eqCells]at c|[],[],y::ys,_,c=>by simp[eqCells]at c|k::ks,[],ys,_,c=>by simp[eqCells]at c|k::ks,x::xs,[],_,c=>by simp[eqCells]at c|k::ks,x::xs,y::ys,b,c=>by
  simp only[eqCells]at c;split at c;·rename_i a f h1 d;have:=QcN d;simp[this]
  cases c
theorem Qcu:∀{ks ks':List LK}{xs ys:List AV}{b:Bool},eqCells (ks++ks') xs ys=some b->∃d b2,eqCells ks (xs.take ks.length) (ys.take ks.length)=some d/\eqCells ks' (xs.drop ks.length) (ys.drop ks.length)=some b2/\b=(d&&b2)
 |[],ks',xs,ys,b,c=>⟨true,b,by simp[eqCells],by simpa using c,by simp⟩|k::ks,ks',[],ys,b,c=>by simp[eqCells]at c|k::ks,ks',x::xs,[],b,c=>by simp[eqCells]at c|k::ks,ks',x::xs,y::ys,b,c=>by
  simp only[ZaU,eqCells]at c;split at c;·rename_i a i h1 f;obtain⟨d,b2,l,g,h⟩:=Qcu f;simp_all[Bool.and_assoc,eqCells]
  cases c
theorem Qdy{off n}(w){d}(b:P.underlying t=some d)(hi:P.info? t=some i)(f:i.size=n)(c:rowB P t=false->n=1)(g:off+n<=cs.size):(part t cs off).run P w=.ok (asVal (rowB P t) ((cs.toList.drop off).take n)) w:=by
 subst f;unfold part isAgg;have key:rowB P t=false->cs[off]?=some (((cs.toList.drop off).take i.size).headD undef):=by grind[List.take_one,ZbB]
 have agg:.agg (cs.extract off (off+i.size))=(Value.agg ((cs.toList.drop off).take i.size).toArray):=by congr 1;grind
 cases d<;>first
  | (have a:rowB P t=true:=by simp[rowB,b]
     simp only[Sem.run_bind,run_underlying b,Result.andThen_ok,Sem.run_pure,if_true,QaP hi,a,asVal];rw[agg])
  | (have a:rowB P t=false:=by simp[rowB,b]
     simp only[Sem.run_bind,run_underlying b,Result.andThen_ok,Sem.run_pure,Zar,if_false,key a,a,asVal])
theorem Qbw{d}(a:P.underlying t=some d):∃i,P.info? t=some i:=by unfold Program.underlying at a;grind
theorem Qcm(a:flatK P d t=some ks)(b:rowB P t=false):ks.length=1:=by cases d with|zero=>simp[flatK]at a|succ d=>unfold flatK at a;unfold rowB at b;split at a<;>first|(simp_all;done)|(cases a;rfl)|(rename_i c;simp[c]at b)
theorem Qce(a:flatK P d t=some ks):∃u,P.underlying t=some u:=by cases d with|zero=>simp[flatK]at a|succ d=>unfold flatK at a;cases b:P.underlying t with|none=>simp[b]at a|some u=>exact⟨u,rfl⟩
def EqRun(P:Program)(c:Ctx ok)(w:World)(d:Nat):Prop:=∀(t:TypeId)(ks:List LK),flatK P d t=some ks->∀(xs a:List AV)(us f:List Value)(b:Bool),VRels c w xs us->VRels c w a f->eqCells ks xs a=some b->∀D,d<=D->(Op.equalIn D t (asVal (rowB P t) us) (asVal (rowB P t) f)).run P w=.ok b w
theorem Qge(F:EqRun P c w d):∀(fs:List Field)(off:Nat)(ks:List LK),flatF P (flatK P d) fs off=some ks->∀(xs ys:List AV)(us vs:Array Value)(b:Bool),VRels c w xs (us.toList.drop off)->VRels c w ys (vs.toList.drop off)->eqCells ks xs ys=some b->off+ks.length<=us.size->off+ks.length<=vs.size->∀D,d<=D->(Op.eqFields D us vs fs).run P w=.ok b w
 |[],off,ks,a,xs,ys,us,vs,b,p,o,z,_,_,D,t=>by simp only[flatF,Zaa]at a;subst a;cases xs<;>cases ys<;>simp[eqCells]at z;simp_all[Op.eqFields]|f::fs,off,ks,a,xs,ys,us,vs,b,p,o,z,L,J,D,t=>by
  simp only[flatF]at a;split at a;·cases a
  rename_i I;have v:f.name≠ "_":=fun e=>I (.inl e);have x:f.offset=off:=by omega
  split at a
  ·rename_i g h;split at a
   ·rename_i hc;split at a
    ·rename_i r G;cases a;simp only[Zaf]at L J;obtain⟨E,b2,K,H,rfl⟩:=Qcu z;obtain⟨u,k⟩:=Qce h;obtain⟨i,hi⟩:=Qbw k;have m:i.size=g.length:=by simp_all[Program.cellsOf]
     have y:=QaG p;have A:=QaG o;simp at y A;have C:=Qdy (P:=P) (cs:=us) (off:=off) w k hi m (Qcm h) (by omega);have s:=Qdy (P:=P) (cs:=vs) (off:=off) w k hi m (Qcm h) (by omega);have n:=QaK (QaZ p) 0 g.length (by omega);have l:=QaK (QaZ o) 0 g.length (by omega);simp only[ZaX]at n l;have h1:=F f.type g h _ _ _ _ E n l K D t;have B:VRels c w (xs.drop g.length) (us.toList.drop (off+g.length)):=by have:=QaK (QaZ p) g.length (xs.length-g.length) (by omega);grind[ZaM,ZaT]
     have q:VRels c w (ys.drop g.length) (vs.toList.drop (off+g.length)):=by have:=QaK (QaZ o) g.length (ys.length-g.length) (by omega);grind[ZaM,ZaT]
     have M:=Qge F fs (off+g.length) r G _ _ us vs b2 B q H (by omega) (by omega) D t;simp only[Op.eqFields,ne_eq,v,not_false_eq_true,if_true,Sem.run_bind,x,C,s,Result.andThen_ok,h1];cases E<;>simp[M]
    cases a
   cases a
  cases a
def eqElems(D:Nat)(e:TypeId)(n:Nat)(xs ys:Array Value):List Nat->Sem Bool|[]=>pure true|i::is=>do let a<-part e xs (i*n)let b<-part e ys (i*n)let r<-Op.equalIn D e a b if(!r)=true then pure false else eqElems D e n xs ys is
theorem Qhf(D)(t e)(len n)(xs ys)(w)(h:P.underlying t=some (.array len e))(m:∀w,(sizeOf e).run P w=.ok n w):(Op.equalIn (D+1) t (.agg xs) (.agg ys)).run P w=(eqElems D e n xs ys (List.range' 0 len)).run P w:=by simp only[Op.equalIn,Sem.run_bind,run_underlying h,Result.andThen_ok,m,Std.Legacy.Range.forIn_eq_forIn_range',Std.Legacy.Range.size,Nat.sub_zero,ZbN,Nat.div_one];generalize List.range' 0 len=l;induction l generalizing w with|nil=>simp[eqElems]|cons i l p=>simp only[List.forIn_cons,eqElems,Sem.run_bind,Sem.run_ite];generalize(part e xs (i*n)).run P w=g;cases g with
 |ok a c=>simp only[Result.andThen_ok];generalize(part e ys (i*n)).run P c=f;cases f with
  |ok b d=>simp only[Result.andThen_ok];generalize(Op.equalIn D e a b).run P d=o;cases o with
   |ok r k=>
    cases r;·simp_all
    simp_all|halt x k=>simp[Result.andThen]
  |halt x d=>simp[Result.andThen]
 |halt x c=>simp[Result.andThen]
theorem Qhh(A:EqRun P c w d){e}(k:flatK P d e=some ks)(hc:P.cellsOf e=ks.length):∀(m s:Nat)(xs ys:List AV)(us vs:Array Value)(b:Bool),VRels c w xs (us.toList.drop (s*ks.length))->VRels c w ys (vs.toList.drop (s*ks.length))->eqCells (List.replicate m ks).flatten xs ys=some b->(s+m)*ks.length<=us.size->(s+m)*ks.length<=vs.size->∀D,d<=D->(eqElems D e ks.length us vs (List.range' s m)).run P w=.ok b w
 |0,s,xs,ys,us,vs,b,n,o,l,_,_,D,q=>by cases xs<;>cases ys<;>simp[eqCells]at l;simp_all[eqElems]|m+1,s,xs,ys,us,vs,b,n,o,l,G,F,D,q=>by
  rw[ZaY,Zbp]at l;obtain⟨z,b2,B,E,rfl⟩:=Qcu l;obtain⟨u,a⟩:=Qce k;obtain⟨i,hi⟩:=Qbw a;have f:i.size=ks.length:=by simp_all[Program.cellsOf]
  have t:=QaG n;have x:=QaG o;simp at t x;have I:(s+(m+1))*ks.length=s*ks.length+ks.length+m*ks.length:=by grind
  have H:(s+1)*ks.length=s*ks.length+ks.length:=Zbg _ _;have r:=Qdy (P:=P) (cs:=us) (off:=s*ks.length) w a hi f (Qcm k) (by omega);have v:=Qdy (P:=P) (cs:=vs) (off:=s*ks.length) w a hi f (Qcm k) (by omega);have h:=QaK (QaZ n) 0 ks.length (by omega);have g:=QaK (QaZ o) 0 ks.length (by omega);simp only[ZaX]at h g;have h1:=A e ks k _ _ _ _ z h g B D q;have y:VRels c w (xs.drop ks.length) (us.toList.drop ((s+1)*ks.length)):=by have:=QaK (QaZ n) ks.length (xs.length-ks.length) (by omega);grind[ZaM,ZaT]
  have p:VRels c w (ys.drop ks.length) (vs.toList.drop ((s+1)*ks.length)):=by have:=QaK (QaZ o) ks.length (ys.length-ks.length) (by omega);grind[ZaM,ZaT]
  have C:=Qhh A k hc m (s+1) _ _ us vs b2 y p E (by grind) (by grind) D q;simp only[Zb9,eqElems,Sem.run_bind,r,v,Result.andThen_ok,h1];cases z<;>simp[C]
theorem eqRun:∀d,EqRun P c w d
 |0=>fun t ks g=>by simp[flatK]at g|d+1=>by
  intro t ks g xs q us B b p m f D K;obtain⟨D',rfl⟩:∃D',D=D'+1:=⟨D-1,by omega⟩;have H:=QaG p;have I:=QaG m;obtain⟨J,F⟩:=QcN f;unfold flatK at g;split at g
  ·rename_i h;cases g;have l:rowB P t=false:=by simp[rowB,h]
   match xs,q,f with|[x],[y],f=>simp only[eqCells]at f;split at f<;>cases f;rename_i a C h1 r;cases r;cases x<;>cases y<;>simp only[eqCell,reduceCtorEq]at h1;cases h1;simp only[VRels,VRel]at p m;obtain⟨_,_,rfl,rfl,rfl⟩:=p;obtain⟨_,_,rfl,rfl,rfl⟩:=m;simp[l,asVal,Op.equalIn,run_underlying h,Qdx]
  ·rename_i k h;cases g;have l:rowB P t=false:=by simp[rowB,h]
   match xs,q,f with
   |[x],[y],f=>
    simp only[eqCells]at f;split at f<;>cases f;rename_i a C h1 r;cases r;cases x<;>cases y<;>simp only[eqCell,reduceCtorEq]at h1;split at h1;·rename_i A;cases h1;subst A;simp only[VRels,VRel]at p m;obtain⟨_,_,rfl,rfl,rfl⟩:=p;obtain⟨_,_,rfl,rfl,rfl⟩:=m;simp[l,asVal,Op.equalIn,run_underlying h];rw[Qdx]
    ·cases h1
  ·rename_i h;cases g;have l:rowB P t=false:=by simp[rowB,h]
   match xs,q,f with|[x],[y],f=>simp only[eqCells]at f;split at f<;>cases f;rename_i a C h1 r;cases r;cases x<;>cases y<;>simp only[eqCell,reduceCtorEq]at h1;cases h1;simp only[VRels,VRel]at p m;obtain⟨_,_,rfl,rfl,rfl⟩:=p;obtain⟨_,_,rfl,rfl,rfl⟩:=m;simp[l,asVal,Op.equalIn,run_underlying h,beq_toListBytes,Qdx]
  ·rename_i fs h;split at g;·cases g
   rename_i v;have l:rowB P t=true:=by simp[rowB,h]
   have hf:P.fieldsOf t=fs:=by simp[Program.fieldsOf,h]
   simp only[l,asVal,if_true];rw[run_equalIn_struct w D' t _ _ (by simp_all) (by simpa using v),hf];exact Qge (eqRun d) fs.toList 0 ks g xs q us.toArray B.toArray b (by simpa using p) (by simpa using m) f (by simp;omega) (by simp;omega) D' (by omega)
  ·rename_i n e h;split at g
   ·rename_i o s;split at g
    ·rename_i hc;cases g;have l:rowB P t=true:=by simp[rowB,h]
     obtain⟨u,z⟩:=Qce s;obtain⟨i,hi⟩:=Qbw z;have E:i.size=o.length:=by simp_all[Program.cellsOf]
     simp only[l,asVal,if_true];rw[Qhf D' t e n o.length _ _ w h (fun w=>by simp_all[QaP])];have G:(List.replicate n o).flatten.length=n*o.length:=by simp
     exact Qhh (eqRun d) s hc n 0 xs q us.toArray B.toArray b (by simpa using p) (by simpa using m) f (by simp;omega) (by simp;omega) D' (by omega)
    cases g
   cases g
  cases g
def kindT(P:Program)(t:TypeId):Nat:=match P.underlying t with|some (.pointer _)=>1|some (.slice _)=>2|some (.map _ _)=>3|some (.func _ _ _)=>4|some (.interface _)=>5|_=>0
def eqT(P:Program)(t:TypeId):EqK->Bool
 |.flat row ks=>match row with|true=>rowB P t&&!P.eqGuardType P.depth t&&(match flatK P 40 t with|some a=>ks.length==a.length&&(ks.zip a).all (fun p=>match p with|(.b,.b)|(.i,.i)|(.s,.s)=>true|_=>false)|none=>false)|false=>match P.underlying t with|some .bool=>true|_=>false
 |.nil kind=>kindT P t==kind
theorem lk_eq:∀{ks ks':List LK},(ks.length==ks'.length&&(ks.zip ks').all (fun p=>match p with|(.b,.b)|(.i,.i)|(.s,.s)=>true|_=>false))=true->ks=ks'|[],[],_=>rfl|[],_::_,a=>by simp at a|_::_,[],a=>by simp at a|k::ks,c::ks',a=>by simp only[ZaC,List.zip_cons_cons,Zb3,Zab,beq_iff_eq]at a;have b:=lk_eq (ks:=ks) (ks':=ks') (by simp_all);grind
theorem QuQ(b):(b !=false)=b:=by cases b<;>rfl
theorem QuR(b):(b !=true)=!b:=by cases b<;>rfl
theorem Qqd{op}{x y}(a:op=if neg then .neq else .eql)(h1:binOp .eql t x y=(do pure (.bool (<-Op.equal t x y))))(g:binOp .neq t x y=(do pure (.bool (!(<-Op.equal t x y)))))(f:∀d,(Op.equalIn (d+1) t x y).run P w=.ok b w):(binOp op t x y).run P w=.ok (.bool (b !=neg)) w:=by
 have c:(Op.equal t x y).run P w=.ok b w:=f 9999;subst a;cases neg;·simp_all
 simp_all
theorem QuS{h cy}(h1:isNil x=some (b,g))(q:isNil y=some (true,g))(p:VRel c w x h)(B:VRel c w y cy)(z:kindT P t=g):(∀d,(Op.equalIn (d+1) t h cy).run P w=.ok b w)/\binOp .eql t h cy=(do pure (.bool (<-Op.equal t h cy)))/\binOp .neq t h cy=(do pure (.bool (!(<-Op.equal t h cy))))/\∀{op:BinOp}{ox:Operand}{cv:Value},(eqGuard op t ox (.const cv) h cy).run P w=.ok () w:=by
 unfold kindT at z;have A:(cy=.pointer none/\g=1)\/(cy=.slice none 0 0/\g=2)\/(cy=.map none/\g=3)\/(cy=.nilFunc/\g=4)\/(cy=.nilIface/\g=5):=by
  unfold isNil at q;split at q<;>try simp only[Zaa,Zal,reduceCtorEq,Zar,false_and,true_and]at q
  all_goals first|(subst q;simp only[VRel]at B;subst B;simp;done)|(split at q<;>simp at q;done)|(exfalso;simp at q;done)
 have s:(b=true/\h=.pointer none/\g=1)\/(b=false/\g=1/\∃a,h=.pointer (some a))\/(b=true/\h=.slice none 0 0/\g=2)\/(b=false/\g=2/\∃a n m,h=.slice (some a) n m)\/(b=true/\h=.map none/\g=3)\/(b=false/\g=3/\∃a,h=.map (some a))\/(b=true/\h=.nilFunc/\g=4)\/(b=false/\g=4/\∃f u v,h=.func f u v)\/(b=true/\h=.nilIface/\g=5)\/(b=false/\g=5/\∃u v,h=.iface u v):=by
  unfold isNil at h1;split at h1<;>try simp only[Zaa,Zal,reduceCtorEq]at h1
  all_goals try(split at h1)
  all_goals try(simp only[Zaa,Zal,reduceCtorEq]at h1)
  all_goals try(cases h1;done)
  all_goals obtain⟨rfl,rfl⟩:=h1;simp only[VRel]at p
  ·subst p;simp
  ·grind
  ·grind
  ·subst p;simp
  ·grind
  ·grind
  ·grind
  ·subst p;simp
  ·grind
  ·grind
  ·subst p;simp
  ·grind
  ·grind
  ·subst p;simp
  ·grind
  ·grind
  obtain⟨⟨H,C,F,h1|⟨_,l,k,rfl⟩,_⟩|⟨E,_,_,_,rfl,G⟩,p⟩:=p;·simp_all
  ·simp
  rcases p with⟨hp,rfl,rfl,h1⟩|⟨H,base,o,cap,C,J,F,hp,h1,I⟩;·cases h1;omega
  cases h1;simp
 rcases A with⟨rfl,rfl⟩|⟨rfl,rfl⟩|⟨rfl,rfl⟩|⟨rfl,rfl⟩|⟨rfl,rfl⟩<;>simp only[Nat.reduceEqDiff,and_false,false_and,or_false,false_or,and_true,true_and,reduceCtorEq]at s<;>(split at z<;>first|(simp at z;done)|skip)<;>rename_i i<;>rcases s with⟨rfl,rfl⟩|⟨rfl,r⟩;·exact⟨fun d=>by simp[Op.equalIn,run_underlying i],rfl,rfl,fun{op ox cv}=>by cases op<;>rfl⟩
 ·exact bDTQq
 ·exact bcgY5
 ·exact bFhD7
 ·exact bcgY5
 ·exact bDTQq
 ·exact bcgY5
 ·exact bFhD7
 ·exact⟨fun d=>by simp[Op.equalIn,run_underlying i],rfl,rfl,fun{op ox cv}=>by cases op<;>cases ox<;>rfl⟩
 obtain⟨_,_,rfl⟩:=r;exact bcgY5
theorem QlQ{op}{ox oy:Operand}{cy}(f:op=if neg then .neq else .eql)(h:VRel c w x m)(g:VRel c w y cy)(i:eqT P t k=true)(hc:(∀kind,k=.nil kind->∃v,oy=.const v))(hm:aEq k neg x y=some v):Pure P c w (do eqGuard op t ox oy m cy;binOp op t m cy) v:=by unfold aEq at hm;cases k with
 |flat row ks=>cases row with
  |true=>
   cases x<;>try(simp at hm;done)
   cases y<;>try(simp at hm;done)
   rename_i xs p;simp only at hm;split at hm
   ·rename_i b s;cases hm;simp only[VRel]at h g;obtain⟨us,rfl,h⟩:=h;obtain⟨A,rfl,g⟩:=g;simp only[eqT,Zab,Zbq]at i;obtain⟨⟨r,o⟩,l⟩:=i;split at l
    ·rename_i E n;have:=lk_eq l;subst this;have h1:=eqRun (P:=P) (c:=c) (w:=w) 40 t ks n xs p us.toList A.toList b h g s 10000 (by omega);simp only[r,asVal,if_true,Array.toArray_toList]at h1;subst f;cases neg;·exact⟨_,by simp[run_eqGuard_agg,o,run_eql_struct,h1];rfl,by simp[VRel,QuQ]⟩
     exact⟨_,by simp[run_eqGuard_agg,o,run_neq_struct,h1];rfl,by simp[VRel,QuR]⟩
    simp at l
   cases hm|false=>
   cases x<;>try(simp at hm;done)
   cases y<;>try(simp at hm;done)
   rename_i a b;simp only[Zaa]at hm;subst hm;simp only[VRel]at h g;subst h;subst g;simp only[eqT]at i;split at i
   ·rename_i C;have:=Qqd (P:=P) (w:=w) (t:=t) (x:=.bool a) (y:=.bool b) (b:=(a==b)) f rfl rfl (fun d=>run_equalIn_bool' w d t a b C);refine⟨.bool ((a==b)!=neg),?_,?_⟩;·simp_all[eqGuard]
    grind[VRel]
   cases i
 |nil kind=>
  obtain⟨I,rfl⟩:=hc kind rfl;simp only at hm;split at hm
  ·rename_i b H G h1 F;split at hm;·rename_i l;cases hm;simp only[eqT,beq_iff_eq]at i;obtain⟨z,u,B,q⟩:=QuS (P:=P) (w:=w) (t:=t) (by rw[l.1]at h1;exact h1) (by simp_all) h g i;refine⟨.bool (b !=neg),?_,by simp[VRel]⟩;rw[Sem.run_bind,q];exact Qqd f u B z
   cases hm
  cases hm
end Go.AM
namespace Go.AM
variable{P:Program}{ok:Okc}{c:Ctx ok}{w:World}{h:Heap}
variable{v x:AV}{ats:Array TypeId}{d:Array Value}{h':Heap}{i lw:Int}{k:IntKind}{xs ys:List AV}{us:List Value}{off y:Nat}{arr:Option (Nat×Nat×Bool)}{l:Option AV}{n:Option Nat}{B a g:Option Value}{s src t ty:TypeId}{ti:TypeInfo}{H b ci cx q:Value}
def ORel(c:Ctx ok)(w:World):Option AV->Option Value->Prop|none,none=>True|some x,some v=>VRel c w x v|_,_=>False
theorem QbX{code}(a:0<=i)(h1:i<=y):(Instr.sliceBound (.int k i) y code).run P w=.ok i.toNat w:=by simp[Instr.sliceBound,asIntOf,a,h1]
theorem QdQ(b:ORel c w l a)(d)(el:bnd d l=some lw):a=none/\lw=d\/∃k,a=some (.int k lw):=by cases l with
 |none=>cases a with|none=>cases el;exact .inl ⟨rfl,rfl⟩|some v=>simp[ORel]at b
 |some x=>cases x<;>simp only[bnd,reduceCtorEq,Zaa]at el;cases a with|none=>simp[ORel]at b|some v=>simp only[ORel,VRel]at b;subst el;exact .inr ⟨_,by rw[b]⟩
theorem Qcb{isSlice}{len cap:Nat}{h}{ch}{a}(m:ORel c w l g)(b:ORel c w h ch)(el:bnd 0 l=some lw)(k:bnd len h=some a)(n:0<=lw)(h1:lw<=a)(i:a<=cap):(Instr.sliceBounds isSlice len cap g ch none).run P w=.ok (lw.toNat,a.toNat,cap) w:=by
 have f:=QdQ m 0 el;have d:=QdQ b len k;rcases f with⟨rfl,rfl⟩|⟨o,rfl⟩<;>rcases d with⟨rfl,rfl⟩|⟨p,rfl⟩;·simp[Instr.sliceBounds]
 ·simp_all[Instr.sliceBounds,QbX]
 ·simp_all[QbX,Instr.sliceBounds]
 have q:((a.toNat:Nat):Int)=a:=by omega
 have:=QbX (P:=P) (w:=w) (k:=o) (y:=a.toNat) (code:=.sliceB) n (by omega);simp[Instr.sliceBounds,QbX (P:=P) (w:=w) (by omega:0<=a) i,this]
def sliceT(P:Program)(t:TypeId)(sz:Option Nat):Bool:=match P.underlying t,sz with|some (.slice e),some n=>(match P.info? e with|some i=>i.size==n|none=>false)|some .string,none=>true|_,_=>false
theorem QcR{sz}{hi mx}{Y ch cm}(q:VRel c w x cx)(K:ORel c w l Y)(J:ORel c w hi ch)(T:ORel c w mx cm)(ht:sliceT P t sz=true)(X:∀b g off len s,x=.sl b g off len s->sz=some s)(L:∀cs len s,x=.fsl cs len s->sz=some s)(hst:(∃s,x=.str s)->sz=none)(R:(∃s,x=.str s)\/sz≠none)(hm:aSlice x l hi mx=some v):Pure P c w (Instr.sliceAt t cx Y ch cm) v:=by
 unfold aSlice at hm;simp only at hm;split at hm;·cases hm
 rename_i lw el;have h:sz≠none->∃e i n,P.underlying t=some (.slice e)/\P.info? e=some i/\sz=some n/\i.size=n:=by intro hne;unfold sliceT at ht;grind
 cases mx with
 |some m=>cases m<;>simp only[reduceCtorEq]at hm;rename_i Z r;cases cm with|none=>simp[ORel]at T|some cmv=>simp only[ORel,VRel]at T;subst T;cases hi with|none=>simp at hm|some hv=>cases hv<;>simp only[reduceCtorEq]at hm;rename_i kh f;cases ch with|none=>simp[ORel]at J|some chv=>
  simp only[ORel,VRel]at J;subst J;split at hm
  ·rename_i d;obtain⟨rfl,rfl,rfl⟩:=d;have S:∀len cap,(Instr.sliceBounds true len cap Y (some (.int kh 0)) (some (.int Z 0))).run P w=.ok (0,0,0) w:=by
    intro len cap;have b1:=QbX (P:=P) (w:=w) (k:=Z) (i:=0) (y:=cap) (code:=.slice3Acap) (by omega) (by omega);have b2:=QbX (P:=P) (w:=w) (k:=kh) (i:=0) (y:=0) (code:=.slice3B) (by omega) (by omega);rcases QdQ K 0 el with⟨rfl,_⟩|⟨k1,rfl⟩;·simp[Instr.sliceBounds,b1,b2]
    simp_all[QbX,Instr.sliceBounds]
   cases x<;>simp only[reduceCtorEq,Zaa]at hm;all_goals subst hm;obtain⟨e,i,n,Q,z,I,k⟩:=h (R.resolve_left (by simp));simp only[VRel]at q
   ·subst q;exact⟨.slice none 0 0,by simp_all[Instr.sliceAt,Instr.slice,run_underlying,QaP],by simp[VRel]⟩
   ·rcases q with⟨hp,rfl,rfl,rfl⟩|⟨p,base,o,cap,C,H,E,hp,rfl,F,A,y⟩;·exact⟨.slice none 0 0,by simp_all[Instr.sliceAt,Instr.slice,run_underlying,QaP],by simp[VRel]⟩
    exact⟨.slice (some ⟨p,o,none⟩) 0 0,by simp_all[Instr.sliceAt,Instr.slice,run_underlying,QaP],by simp[VRel]⟩
   ·rcases q with⟨⟨a0,rfl⟩,rfl,rfl⟩|⟨p,off,cap,C,H,E,rfl,F,hlen,U,A,u⟩;·exact⟨.slice a0 0 0,by simp_all[Instr.sliceAt,Instr.slice,run_underlying,QaP],by simp[VRel]⟩
    exact⟨.slice (some ⟨p,off,none⟩) 0 0,by simp_all[Instr.sliceAt,Instr.slice,run_underlying,QaP],by simp[VRel]⟩
   obtain⟨a,rfl⟩:=q;exact⟨.slice a 0 0,by simp_all[Instr.sliceAt,Instr.slice,run_underlying,QaP],by simp[VRel]⟩
  rename_i hne0;have S:∀(len cap:Nat),0<=lw->lw<=f->f<=r->r<=cap->(Instr.sliceBounds true len cap Y (some (.int kh f)) (some (.int Z r))).run P w=.ok (lw.toNat,f.toNat,r.toNat) w:=by
   intro len cap q1 q2 q3 q4;have b1:=QbX (P:=P) (w:=w) (k:=Z) (i:=r) (y:=cap) (code:=.slice3Acap) (by omega) (by omega);have b2:=QbX (P:=P) (w:=w) (k:=kh) (i:=f) (y:=r.toNat) (code:=.slice3B) (by omega) (by omega);rcases QdQ K 0 el with⟨rfl,e0⟩|⟨k1,rfl⟩;·simp_all[Instr.sliceBounds]
   have b3:=QbX (P:=P) (w:=w) (k:=k1) (i:=lw) (y:=f.toNat) (code:=.slice3C) (by omega) (by omega);simp_all[Instr.sliceBounds]
  cases x<;>simp only[reduceCtorEq]at hm;case sl b g off len s=>
   split at hm
   ·rename_i d;obtain⟨G,h1,N,h3⟩:=d;cases hm;obtain⟨e,i,n,Q,z,I,k⟩:=h (by simp_all);have:=X _ _ _ _ _ rfl;rw[I]at this;cases this;subst k;simp only[VRel]at q;rcases q with⟨hp,rfl,rfl,rfl⟩|⟨p,base,o,cap,C,H,E,hp,rfl,F,A,y⟩;·omega
    have M:=S len cap G h1 N (by omega);refine⟨.slice (if r.toNat=lw.toNat then some ⟨p,o,none⟩else some (Addr.add ⟨p,o,none⟩ (lw.toNat*i.size))) (f.toNat-lw.toNat) (r.toNat-lw.toNat),?_,?_⟩;·simp_all[Instr.sliceAt,Instr.slice,run_underlying,QaP]
    simp only[VRel];refine .inr ?_;by_cases hc:r.toNat=lw.toNat;·rw[if_pos hc];grind
    rw[if_neg hc,Qb1];have O:cap≠0:=by omega
    obtain⟨rfl,hbd⟩:=y.resolve_left O;refine⟨p,base,_,r.toNat-lw.toNat,C,H,E,hp,rfl,by omega,A,.inr ⟨by omega,?_⟩⟩;have q1:lw.toNat*i.size+(r.toNat-lw.toNat)*i.size=r.toNat*i.size:=by rw[<-ZbQ];congr 1;omega
    have q2:r.toNat*i.size<=cap*i.size:=Za5 _ (by omega);omega
   ·cases hm
  case fsl cs len s=>
   split at hm
   ·rename_i d;obtain⟨G,h1,N,h3⟩:=d;cases hm;obtain⟨e,i,n,Q,z,I,k⟩:=h (by simp_all);have:=L _ _ _ rfl;rw[I]at this;cases this;subst k;simp only[VRel]at q;rcases q with⟨⟨a0,rfl⟩,rfl,rfl⟩|⟨p,off,cap,C,H,E,rfl,F,hlen,U,A,u⟩;·omega
    have M:=S len cap G h1 N (by omega);have a1:lw.toNat*i.size+(f.toNat-lw.toNat)*i.size=f.toNat*i.size:=by rw[<-ZbQ];congr 1;omega
    have a2:f.toNat*i.size<=len*i.size:=Za5 _ (by omega);refine⟨.slice (if r.toNat=lw.toNat then some ⟨p,off,none⟩else some (Addr.add ⟨p,off,none⟩ (lw.toNat*i.size))) (f.toNat-lw.toNat) (r.toNat-lw.toNat),?_,?_⟩;·simp_all[Instr.sliceAt,Instr.slice,run_underlying,QaP]
    simp only[VRel];refine .inr ?_;by_cases hc:r.toNat=lw.toNat
    ·rw[if_pos hc];have V:f.toNat-lw.toNat=0:=by omega
     exact⟨p,off,r.toNat-lw.toNat,C,H,E,rfl,by omega,by simp[V],U,A,by simp[V,VPre]⟩
    rw[if_neg hc,Qb1];refine⟨p,_,r.toNat-lw.toNat,C,H,E,rfl,by omega,by simp;omega,U,A,?_⟩;have:=Qcl ((f.toNat-lw.toNat)*i.size) (Qbj (lw.toNat*i.size) u);simp_all
   ·cases hm
 |none=>
  have hcm:cm=none:=by grind[ORel]
  subst hcm;simp only at hm;cases x<;>simp only at hm<;>try(cases hm;done)
  case sl b g off len s=>
   obtain⟨e,i,n,Q,z,I,k⟩:=h (by simp_all);have:=X _ _ _ _ _ rfl;rw[I]at this;cases this;subst k;split at hm;·cases hm
   ·rename_i f B;split at hm
    ·rename_i d;obtain⟨G,h1,N,_⟩:=d;cases hm;simp only[VRel]at q;rcases q with⟨hp,rfl,rfl,rfl⟩|⟨p,base,o,cap,C,H,E,hp,rfl,F,A,y⟩
     ·have M:=Qcb (P:=P) (w:=w) (isSlice:=true) (cap:=0) K J el B G h1 (by omega);have e1:lw=0:=by omega
      have e2:f=0:=by omega
      subst e1;subst e2;refine⟨.slice none 0 0,?_,by simp_all[VRel]⟩;simp_all[Instr.sliceAt,Instr.slice,run_underlying,QaP]
     have M:=Qcb (P:=P) (w:=w) (isSlice:=true) (cap:=cap) K J el B G h1 (by omega);refine⟨.slice (if cap=lw.toNat then some ⟨p,o,none⟩else some (Addr.add ⟨p,o,none⟩ (lw.toNat*i.size))) (f.toNat-lw.toNat) (cap-lw.toNat),?_,?_⟩;·simp_all[Instr.sliceAt,Instr.slice,run_underlying,QaP]
     simp only[VRel];refine .inr ?_;by_cases hc:cap=lw.toNat;·rw[if_pos hc];grind
     rw[if_neg hc,Qb1];have O:cap≠0:=by omega
     obtain⟨rfl,hbd⟩:=y.resolve_left O;refine⟨p,base,_,cap-lw.toNat,C,H,E,hp,rfl,by omega,A,.inr ⟨by omega,?_⟩⟩;have:cap*i.size=lw.toNat*i.size+(cap-lw.toNat)*i.size:=by rw[<-ZbQ];congr 1;omega
     omega
    cases hm
  case fsl cs len s=>
   obtain⟨e,i,n,Q,z,I,k⟩:=h (by simp_all);have:=L _ _ _ rfl;rw[I]at this;cases this;subst k;split at hm;·cases hm
   ·rename_i f B;split at hm
    ·rename_i d;obtain⟨G,h1,N⟩:=d;cases hm;simp only[VRel]at q;rcases q with⟨⟨a0,rfl⟩,rfl,rfl⟩|⟨p,off,cap,C,H,E,rfl,F,hlen,U,A,u⟩
     ·have M:=Qcb (P:=P) (w:=w) (isSlice:=true) (cap:=0) K J el B G h1 (by omega);have e1:lw=0:=by omega
      have e2:f=0:=by omega
      subst e1;subst e2;refine⟨.slice a0 0 0,?_,by simp_all[VRel]⟩;simp_all[Instr.sliceAt,Instr.slice,run_underlying,QaP]
     have M:=Qcb (P:=P) (w:=w) (isSlice:=true) (cap:=cap) K J el B G h1 (by omega);have a1:lw.toNat*i.size+(f.toNat-lw.toNat)*i.size=f.toNat*i.size:=by rw[<-ZbQ];congr 1;omega
     have a2:f.toNat*i.size<=len*i.size:=Za5 _ (by omega);refine⟨.slice (if cap=lw.toNat then some ⟨p,off,none⟩else some (Addr.add ⟨p,off,none⟩ (lw.toNat*i.size))) (f.toNat-lw.toNat) (cap-lw.toNat),?_,?_⟩;·simp_all[Instr.sliceAt,Instr.slice,run_underlying,QaP]
     simp only[VRel];refine .inr ?_;by_cases hc:cap=lw.toNat
     ·rw[if_pos hc];have V:f.toNat-lw.toNat=0:=by omega
      exact⟨p,off,cap-lw.toNat,C,H,E,rfl,by omega,by simp[V],U,A,by simp[V,VPre]⟩
     rw[if_neg hc,Qb1];refine⟨p,_,cap-lw.toNat,C,H,E,rfl,by omega,by simp;omega,U,A,?_⟩;have:=Qcl ((f.toNat-lw.toNat)*i.size) (Qbj (lw.toNat*i.size) u);simp_all
    cases hm
  case nilsl=>
   simp only[VRel]at q;subst q;obtain⟨e,i,n,Q,z,I,k⟩:=h (R.resolve_left (by simp));split at hm;·cases hm
   ·rename_i f B;split at hm;·rename_i d;obtain⟨rfl,rfl⟩:=d;cases hm;have M:=Qcb (P:=P) (w:=w) (isSlice:=true) (len:=0) (cap:=0) K J el B (by omega) (by omega) (by omega);refine⟨.slice none 0 0,?_,by simp[VRel]⟩;simp_all[Instr.sliceAt,Instr.slice,run_underlying,QaP]
    cases hm
  case esl=>
   simp only[VRel]at q;obtain⟨a,rfl⟩:=q;obtain⟨e,i,n,Q,z,I,k⟩:=h (R.resolve_left (by simp));split at hm;·cases hm
   ·rename_i f B;split at hm;·rename_i d;obtain⟨rfl,rfl⟩:=d;cases hm;have M:=Qcb (P:=P) (w:=w) (isSlice:=true) (len:=0) (cap:=0) K J el B (by omega) (by omega) (by omega);refine⟨.slice a 0 0,?_,by simp[VRel]⟩;simp_all[Instr.sliceAt,Instr.slice,run_underlying,QaP]
    cases hm
  case str s=>
   simp only[VRel]at q;subst q;have Q:P.underlying t=some .string:=by unfold sliceT at ht;grind
   split at hm;·cases hm
   ·rename_i f B;split at hm
    ·rename_i d;obtain⟨G,h1,N⟩:=d;cases hm;have hsize:(ByteArray.mk s.toArray).size=s.length:=by simp[ByteArray.size]
     have M:=Qcb (P:=P) (w:=w) (isSlice:=false) (len:=s.length) (cap:=s.length) K J el B G h1 N;refine⟨.string ((ByteArray.mk s.toArray).extract lw.toNat f.toNat),?_,?_⟩;·simp_all[Instr.sliceAt,Instr.slice,run_underlying]
     simp_all[VRel,ByteArray.extract,ByteArray.copySlice]
    cases hm
def fieldT(P:Program)(s:TypeId)(field off:Nat)(n:Option Nat):Bool:=match P.underlying s with|some (.struct fs)=>(match fs[field]? with|some f=>f.offset==off&&rowT P f.type n|none=>false)|_=>false
theorem QnR{field}{d}(b:VRel c w x d)(a:fieldT P s field off n=true)(hm:aField n off x=some v):Pure P c w (Instr.field s d field) v:=by
 unfold aField at hm;cases x<;>simp only[reduceCtorEq]at hm;rename_i cs;simp only[VRel]at b;obtain⟨k,rfl,b⟩:=b;unfold fieldT at a;split at a
 ·rename_i fs p;split at a;·rename_i f hf;simp only[Zab,beq_iff_eq]at a;obtain⟨rfl,h⟩:=a;have hlen:=QaG b;simp at hlen;cases n with|none=>simp only at hm;obtain⟨i,h1,g⟩:=QcB f.offset b hm;rw[ZaP]at h1;exact⟨i,by simp_all[Instr.field,run_underlying,part,Qc1,asAgg],g⟩|some n=>
   simp only at hm;split at hm;·rename_i o;cases hm;obtain⟨m,l⟩:=Qc2 h w;refine⟨.agg (k.extract f.offset (f.offset+n)),by simp_all[Instr.field,run_underlying,part,asAgg],?_⟩;simp only[VRel];refine⟨_,rfl,?_⟩;simp_all[QaK,QaZ]
   cases hm
  cases a
 cases a
theorem QlR{sz}{hi}{ch}(d:VRel c w x q)(O:ORel c w l B)(H:ORel c w hi ch)(K:sliceT P t (some sz)=true)(hm:aSliceK sz x l hi=some v):Pure P c w (Instr.sliceAt t q B ch none) v:=by
 obtain⟨e,i,T,N,A⟩:∃e i,P.underlying t=some (.slice e)/\P.info? e=some i/\i.size=sz:=by unfold sliceT at K;grind
 subst A;have core:∀{b g off len m:Nat}{lw f:Int},VRel c w (.sl b g off len i.size) q->(∀a k,q=.slice a len k->m<=k)->bnd 0 l=some lw->bnd len hi=some f->0<=lw->lw<=f->f<=m->lw<m->Pure P c w (Instr.sliceAt t q B ch none) (.typed 0 (m-lw.toNat+1) (.sl b g (off+lw.toNat*i.size) (f.toNat-lw.toNat) i.size)):=by
  intro b g off len m lw f d F el r n h1 y u;simp only[VRel]at d;rcases d with⟨hp,rfl,rfl,rfl⟩|⟨E,base,o,cap,C,G,L,hp,rfl,I,J,p⟩;·have :=F _ _ rfl;omega
  have Q:=F _ _ rfl;have S:=Qcb (P:=P) (w:=w) (isSlice:=true) (cap:=cap) O H el r n h1 (by omega);refine⟨.slice (if cap=lw.toNat then some ⟨E,o,none⟩else some (Addr.add ⟨E,o,none⟩ (lw.toNat*i.size))) (f.toNat-lw.toNat) (cap-lw.toNat),?_,?_⟩;·simp_all[Instr.sliceAt,Instr.slice,run_underlying,QaP]
  have hc:cap≠lw.toNat:=by omega
  rw[if_neg hc,Qb1];simp only[VRel];obtain⟨rfl,M⟩:=p.resolve_left (by omega);refine⟨.inr ⟨by omega,_,_,_,rfl,by omega⟩,.inr ⟨E,base,_,cap-lw.toNat,C,G,L,hp,rfl,by omega,J,.inr ⟨by omega,?_⟩⟩⟩;have:cap*i.size=lw.toNat*i.size+(cap-lw.toNat)*i.size:=by rw[<-ZbQ];congr 1;omega
  omega
 unfold aSliceK at hm;split at hm
 ·rename_i b g off len s;split at hm
  ·rename_i lw f el r;split at hm
   ·rename_i hc;obtain⟨rfl,n,h1,y,u⟩:=hc;cases hm;refine core d (fun a k e=>?_) el r n h1 y u;subst e;simp only[VRel]at d;rcases d with⟨_,_,_,e⟩|⟨_,_,_,_,_,_,_,_,e,h,_⟩;·cases e;omega
    cases e;exact h
   cases hm
  cases hm
 ·rename_i R m b g off len s;split at hm
  ·rename_i lw f el r;split at hm;·rename_i hc;obtain⟨rfl,n,h1,y,u⟩:=hc;cases hm;simp only[VRel]at d;obtain⟨z,d⟩:=d;refine core (by simpa only[VRel]using d) (fun a k e=>?_) el r n h1 y u;subst e;exact z.room
   cases hm
  cases hm
 cases hm
def faddrT(P:Program)(s:TypeId)(field off:Nat):Bool:=match P.underlying s with|some (.struct fs)=>(match fs[field]? with|some f=>f.offset==off&&(match P.info? f.type with|some i=>i.size !=0|none=>false)|none=>false)|_=>false
theorem QnS{field}{k}(a:VRel c w x k)(b:faddrT P s field off=true)(hm:aFAddr off x=some v):Pure P c w (Instr.fieldAt s k field) v:=by
 unfold faddrT at b;split at b
 ·rename_i fs p;split at b
  ·rename_i f hf;simp only[Zab,beq_iff_eq]at b;obtain⟨rfl,m⟩:=b;split at m
   ·rename_i i hi;have g:∀w,(sizeOf f.type).run P w=.ok i.size w:=QaP hi;have d:i.size≠0:=by simpa using m
    have l:∃y,VRel c w y k/\aFAddr f.offset y=some v/\∀t n z,y≠.typed t n z:=by cases x with|typed t n y=>simp only[VRel]at a;cases y<;>simp only[aFAddr,reduceCtorEq]at hm;exact⟨_,a.2,hm,fun _ _ _=>by simp⟩|_=>exact⟨_,a,hm,fun _ _ _=>by simp⟩
    clear a hm;obtain⟨x,a,hm,r⟩:=l;cases x<;>simp only[aFAddr,reduceCtorEq,Zaa]at hm<;>try(subst hm;simp only[VRel]at a)
    rotate_right;·simp_all
    ·obtain⟨q,base,hp,rfl⟩:=a;exact⟨_,by simp[Instr.fieldAt,run_underlying p,hf,Instr.sureAddr,fieldPlace,g,d];rfl,by simp_all[VRel,Qb1,Nat.add_assoc]⟩
    obtain⟨q,o,C,e,u,rfl,A,B,h⟩:=a;refine⟨_,by simp[Instr.fieldAt,run_underlying p,hf,Instr.sureAddr,fieldPlace,g,d];rfl,?_⟩;simp only[VRel,Qb1];refine⟨q,_,C,e,u,rfl,A,B,?_⟩;have:=Qbj f.offset h;simp_all
   cases m
  cases b
 cases b
def iaddrT(P:Program)(t:TypeId)(arr:Option Nat)(sz:Nat):Bool:=match P.underlying t,arr with|some (.array n e),some m=>n==m&&(match P.info? e with|some i=>i.size==sz|none=>false)|some (.slice e),none=>(match P.info? e with|some i=>i.size==sz|none=>false)|_,_=>false
theorem QnT{arr}{sz}{i}(h:VRel c w x H)(hi:VRel c w i ci)(a:iaddrT P t arr sz=true)(hm:aIAddr arr sz x i=some v):Pure P c w (Instr.indexAt t H ci) v:=by
 unfold aIAddr at hm;cases i<;>simp only[reduceCtorEq]at hm;rename_i k i;simp only[VRel]at hi;subst hi;unfold iaddrT at a;split at a
 ·rename_i n e m r;simp only[Zab,beq_iff_eq]at a;obtain⟨rfl,a⟩:=a;split at a
  ·rename_i p l;have f:=QaP l w;have G:p.size=sz:=by simpa using a
   subst G;cases x<;>simp only[reduceCtorEq]at hm
   ·split at hm;·rename_i hc;cases hm;simp only[VRel]at h;obtain⟨u,base,hp,rfl⟩:=h;refine⟨_,by simp[Instr.indexAt,asIntOf,run_underlying r,Instr.sureAddr,hc,f];rfl,?_⟩;simp_all[VRel,Qb1,Nat.add_assoc]
    cases hm
   split at hm;·rename_i hc;cases hm;simp only[VRel]at h;obtain⟨u,o,C,y,A,rfl,B,z,d⟩:=h;refine⟨_,by simp[Instr.indexAt,asIntOf,run_underlying r,Instr.sureAddr,hc,f];rfl,?_⟩;simp only[VRel,Qb1];refine⟨u,_,C,y,A,rfl,B,z,?_⟩;have:=Qbj (i.toNat*p.size) d;simp_all
   cases hm
  cases a
 ·rename_i e r;split at a
  ·rename_i p l;have f:=QaP l w;have G:p.size=sz:=by simpa using a
   subst G;cases x<;>simp only[reduceCtorEq]at hm
   ·split at hm
    ·rename_i b g off len s hc;obtain⟨E,h1,rfl⟩:=hc;cases hm;simp only[VRel]at h;rcases h with⟨hp,rfl,_⟩|⟨u,base,o,cap,C,y,A,hp,rfl,F,z,q⟩;·omega
     obtain⟨rfl,_⟩:=q.resolve_left (by omega);refine⟨_,by simp[Instr.indexAt,asIntOf,run_underlying r,E,h1,f];rfl,?_⟩;simp_all[VRel,Qb1,Nat.add_assoc]
    cases hm
   split at hm
   ·rename_i cs len s hc;obtain⟨E,h1,rfl⟩:=hc;cases hm;simp only[VRel]at h;rcases h with⟨⟨I,rfl⟩,rfl,rfl⟩|⟨u,off,cap,C,y,A,rfl,F,hlen,B,z,d⟩;·omega
    refine⟨_,by simp[Instr.indexAt,asIntOf,run_underlying r,E,h1,f];rfl,?_⟩;simp only[VRel,Qb1];refine⟨u,_,C,y,A,rfl,B,z,?_⟩;have:=Qbj (i.toNat*p.size) d;simp_all
   cases hm
  cases a
 cases a
def indexT(P:Program)(t:TypeId)(arr:Option (Nat×Nat×Bool)):Bool:=match P.underlying t,arr with|some (.array n e),some (m,sz,row)=>n==m&&rowT P e (if row then some sz else none)&&(match P.info? e with|some i=>i.size==sz|none=>false)|some .string,none=>true|_,_=>false
theorem QnU{i}(hx:VRel c w x cx)(hi:VRel c w i ci)(ht:indexT P t arr=true)(hm:aIndex arr x i=some v):Pure P c w (Instr.index t cx ci) v:=by
 unfold aIndex at hm;cases i<;>simp only[reduceCtorEq]at hm;rename_i k i;simp only[VRel]at hi;subst hi;unfold indexT at ht;split at ht
 ·rename_i n e m sz row hu;simp only[Zab,beq_iff_eq]at ht;obtain⟨⟨rfl,hr⟩,ht⟩:=ht;split at ht
  ·rename_i ti hti;have hsz:=QaP hti w;have e1:ti.size=sz:=by simpa using ht
   subst e1;cases x<;>simp only[reduceCtorEq]at hm;rename_i cs;simp only[VRel]at hx;obtain⟨vs,rfl,hx⟩:=hx;split at hm;·rename_i hc;cases row with
    |true=>
     simp only[if_true]at hm hr;split at hm;·rename_i hl;cases hm;obtain⟨t1,t2⟩:=Qc2 hr w;refine⟨.agg (vs.extract (i.toNat*ti.size) (i.toNat*ti.size+ti.size)),by simp_all[Instr.index,asIntOf,run_underlying,part],?_⟩;simp only[VRel];refine⟨_,rfl,?_⟩;simp_all[QaK,QaZ]
     ·cases hm|false=>simp only[Zar,if_false]at hm hr;obtain⟨cv,h1,h2⟩:=QcB _ hx hm;rw[ZaP]at h1;exact⟨cv,by simp_all[Instr.index,asIntOf,run_underlying,part,Qc1],h2⟩
   ·cases hm
  ·cases ht
 ·rename_i hu;cases x<;>simp only[reduceCtorEq]at hm;rename_i s;simp only[VRel]at hx;subst hx;split at hm
  ·rename_i h0;split at hm
   ·rename_i b hb;cases hm;refine⟨.int .u8 b.toNat,?_,by simp[VRel]⟩;have:(ByteArray.mk s.toArray)[i.toNat]?=some b:=by
     have hlt:i.toNat<s.length:=by grind
     rw[getElem?_pos (ByteArray.mk s.toArray) i.toNat (by simp_all[ByteArray.size])];rw[Zak hlt]at hb;cases hb;rfl
    simp_all[Instr.index,asIntOf,run_underlying]
   ·cases hm
  ·cases hm
 ·cases ht
def lenT(P:Program)(t:TypeId)(k:Nat):Bool:=match P.underlying t with|some .string=>k==0|some (.slice _)=>k==1|some (.map _ _)=>k==2|_=>false
def lenKind:AV->Nat|.str _=>0|.sl ..|.fsl ..|.nilsl|.esl|.nsl=>1|.typed _ _ (.sl ..)=>1|.nilmap|.map ..|.fmap ..=>2|_=>3
theorem QbY:∀{xs:List (AV×AV)}{es:List MapEntry}{clock:Nat},MRel c w xs es clock->xs.length=es.length|[],es,_,a=>by simp_all[MRel]|(k,x)::r,es,clock,a=>by simp only[MRel]at a;obtain⟨e,b,rfl,_,_,_,_,d⟩:=a;simp[QbY d]
theorem Qqe(H:HRel c h w)(hx:VRel c w x cx)(ht:lenT P t (lenKind x)=true)(hm:(aLen x).run h=some (v,h')):Sound P c w (Builtin.len_ #[t] ty #[cx]) v h':=by
 have t0:lenT P t 0=true->P.underlying t=some .string:=by grind[lenT]
 have t1:lenT P t 1=true->∃e,P.underlying t=some (.slice e):=by unfold lenT;grind
 have t2:lenT P t 2=true->∃k e,P.underlying t=some (.map k e):=by unfold lenT;grind
 cases x<;>simp only[aLen]at hm<;>try(cases hm;done)
 case str s=>
  simp only[HM.run,Zaa,Zal]at hm;obtain⟨rfl,rfl⟩:=hm;simp only[VRel]at hx;subst hx;have hu:=t0 ht;have hs:(ByteArray.mk s.toArray).size=s.length:=by simp[ByteArray.size]
  exact .here H (cv:=goInt s.length) (by simp[Builtin.len_,run_underlying hu,hs]) (by simp[VRel,goInt])
 case sl b g off len sz=>
  simp only[HM.run,Zaa,Zal]at hm;obtain⟨rfl,rfl⟩:=hm;obtain⟨e,hu⟩:=t1 ht;simp only[VRel]at hx;rcases hx with⟨hp,rfl,rfl,rfl⟩|⟨cb,base,o,cap,C,e',fr,hp,rfl,hlc,hC,hcap⟩;·exact .here H (cv:=goInt 0) (by simp[Builtin.len_,run_underlying hu]) (by simp[VRel,goInt])
  ·exact bl1dC
 case typed tt nn y=>
  cases y<;>simp only[aLen]at hm<;>try(cases hm;done)
  rename_i b g off len sz;simp only[HM.run,Zaa,Zal]at hm;obtain⟨rfl,rfl⟩:=hm;obtain⟨e,hu⟩:=t1 ht;simp only[VRel]at hx;rcases hx.2 with⟨hp,rfl,rfl,rfl⟩|⟨cb,base,o,cap,C,e',fr,hp,rfl,hlc,hC,hcap⟩;·exact .here H (cv:=goInt 0) (by simp[Builtin.len_,run_underlying hu]) (by simp[VRel,goInt])
  ·exact bl1dC
 case fsl cs len sz=>
  simp only[HM.run,Zaa,Zal]at hm;obtain⟨rfl,rfl⟩:=hm;obtain⟨e,hu⟩:=t1 ht;simp only[VRel]at hx;rcases hx with⟨⟨a0,rfl⟩,rfl,rfl⟩|⟨cb,off,cap,C,e',fr,rfl,hlc,hlen,hF,hC,hpre⟩;·exact .here H (cv:=goInt 0) (by simp[Builtin.len_,run_underlying hu]) (by simp[VRel,goInt])
  ·exact bl1dC
 case nilsl=>simp only[HM.run,Zaa,Zal]at hm;obtain⟨rfl,rfl⟩:=hm;obtain⟨e,hu⟩:=t1 ht;simp only[VRel]at hx;subst hx;exact .here H (cv:=goInt 0) (by simp[Builtin.len_,run_underlying hu]) (by simp[VRel,goInt])
 case esl=>simp only[HM.run,Zaa,Zal]at hm;obtain⟨rfl,rfl⟩:=hm;obtain⟨e,hu⟩:=t1 ht;simp only[VRel]at hx;obtain⟨a,rfl⟩:=hx;exact .here H (cv:=goInt 0) (by simp[Builtin.len_,run_underlying hu]) (by simp[VRel,goInt])
 case nsl=>simp only[HM.run,Zaa,Zal]at hm;obtain⟨rfl,rfl⟩:=hm;obtain⟨e,hu⟩:=t1 ht;simp only[VRel]at hx;obtain⟨a,k,rfl⟩:=hx;exact .here H (cv:=goInt 0) (by simp[Builtin.len_,run_underlying hu]) (by simp[VRel,goInt])
 case nilmap=>simp only[HM.run,Zaa,Zal]at hm;obtain⟨rfl,rfl⟩:=hm;obtain⟨k,e,hu⟩:=t2 ht;simp only[VRel]at hx;subst hx;exact .here H (cv:=goInt 0) (by simp[Builtin.len_,run_underlying hu]) (by simp[VRel,goInt])
 case fmap ks vs=>
  simp only[HM.run,Zaa,Zal]at hm;obtain⟨rfl,rfl⟩:=hm;obtain⟨k,e',hu⟩:=t2 ht;simp only[VRel]at hx;obtain⟨mb,es,clock,rfl,hF,hC,hcl,hst,h6,h7⟩:=hx;have hl:ks.length=es.size:=by have:=QaG h6;simp_all
  have hg:(getObj mb).run P w=.ok (.map es clock) w:=by simp[getObj,Sem.run,hC]
  exact .here H (cv:=goInt es.size) (by simp[Builtin.len_,run_underlying hu,hg]) (by simp[VRel,goInt];omega)
 case map b g=>
  simp only[HM.run]at hm;split at hm;·rename_i g' es hb;cases e:Nat.beq g' g with|false=>rw[e]at hm;simp[HM.run]at hm|true=>
   rw[e]at hm;have:g'=g:=by simpa using e
   subst this;simp only[cond_true,HM.run,Zaa,Zal]at hm;obtain⟨rfl,rfl⟩:=hm;obtain⟨k,e',hu⟩:=t2 ht;simp only[VRel]at hx;obtain⟨cb,hp,rfl⟩:=hx;obtain⟨cb',es',clock,h1,hO,hC,hR,_⟩:=H.blk b _ hb;rw[hp]at h1;cases h1;have hl:=QbY hR;have hg:(getObj cb).run P w=.ok (.map es' clock) w:=by simp[getObj,Sem.run,hC]
   exact .here H (cv:=goInt es'.size) (by simp[Builtin.len_,run_underlying hu,hg]) (by simp_all[VRel,goInt])
  grind[HM.run]
theorem QlG{i}(a:VRel c w x b)(hm:aExtract i x=some v):Pure P c w (Instr.extract b i) v:=by unfold aExtract at hm;cases x<;>simp only[reduceCtorEq]at hm;simp only[VRel]at a;obtain⟨g,rfl,a⟩:=a;obtain⟨f,h1,d⟩:=QcB i a hm;rw[ZaP]at h1;exact⟨f,by simp[Instr.extract,h1],d⟩
def aConv(k:IntKind)(x:AV):Option AV:=match x with|.int _ n=>some (.int k (wr k n))|_=>none
def convT(P:Program)(src dst:TypeId)(k:IntKind):Bool:=match P.underlying src,P.underlying dst with|some _,some (.int a)=>k==a|_,_=>false
theorem Qpv{dst}(f:VRel c w x b)(a:convT P src dst k=true)(hm:aConv k x=some v):Pure P c w (convert src dst b) v:=by
 unfold aConv at hm;cases x<;>simp only[reduceCtorEq,Zaa]at hm;subst hm;simp only[VRel]at f;subst f;unfold convT at a;split at a
 ·rename_i d h i g;have:k=h:=by simpa using a
  subst this;exact⟨_,by simp[convert,run_underlying i,run_underlying g,Conv.intToInt];rfl,by simp[VRel,wr_eq]⟩
 cases a
def aConvS(x:AV):Option AV:=match x with|.str s=>some (.str s)|.int _ n=>if 0<=n/\n<128 then some (.str [UInt8.ofNat n.toNat])else none|_=>none
def convST(P:Program)(src dst:TypeId):Bool:=match P.underlying src,P.underlying dst with|some _,some .string=>true|_,_=>false
theorem QnV{dst}{h}(b:VRel c w x h)(a:convST P src dst=true)(hm:aConvS x=some v):Pure P c w (convert src dst h) v:=by
 unfold aConvS at hm;cases x<;>simp only[reduceCtorEq,Zaa]at hm
 ·rename_i k n;split at hm
  ·rename_i i;cases hm;simp only[VRel]at b;subst b;unfold convST at a;split at a
   ·rename_i d g f;have he:Utf8.encode n=⟨#[UInt8.ofNat n.toNat]⟩:=by grind[Utf8.valid,Utf8.encode]
    exact⟨_,by simp[convert,run_underlying g,run_underlying f,Conv.intToString,he];rfl,by simp[VRel]⟩
   cases a
  cases hm
 subst hm;simp only[VRel]at b;subst b;unfold convST at a;split at a;·rename_i d g f;exact⟨_,by simp[convert,run_underlying g,run_underlying f];rfl,by simp[VRel]⟩
 cases a
def aMax(mn:Bool)(xs:List AV):Option AV:=match xs with|[.int k a,.int _ b]=>some (.int k (if mn then(if b<a then b else a)else(if a<b then b else a)))|_=>none
theorem Qkh{mn}(g:VRels c w xs d.toList)(hm:aMax mn xs=some v):Pure P c w (if mn then Builtin.min_ ats ty d else Builtin.max_ ats ty d) v:=by
 unfold aMax at hm;split at hm
 ·rename_i k a h b;cases hm;simp only[VRels,VRel]at g;obtain⟨_,_,f,rfl,_,_,rfl,rfl,rfl⟩:=g;refine⟨_,?_,by simp only[VRel];exact rfl⟩;cases mn;·simp[Builtin.max_,f,Builtin.max2]
  simp[Builtin.min_,f,Builtin.min2]
 cases hm
def aCopy(sz:Nat)(x y:AV):HM AV:=match x with|.sl b g off len s=>if s=sz then aSrc sz y fun a n=>.cells b g fun cs=>if off+min n len*sz<=cs.length/\a.all AV.one=true/\sz≠0 then .put b (.cells g (putR cs off (a.take (min n len*sz)))) (.ret (.int .i64 ((min n len:Nat):Int)))else .fail else .fail|.nilsl=>aSrc sz y fun _ _=>.ret (.int .i64 0)|.esl=>aSrc sz y fun _ _=>.ret (.int .i64 0)|_=>.fail
theorem Qty(i:VRels c w ys us)(f:ys.all AV.one=true):∀u∈us,u.oneCell'=true:=by
 intro u m;obtain⟨j,l,rfl⟩:=Zb5.1 m;have k:=QaG i;obtain⟨p,d,b⟩:=QcB j i (Zak (by omega:j<ys.length));rw[Zak l]at d;cases d;have h1:(ys[j]).one=true:=by simp_all
 have o:=Qdd (x:=ys[j]) b (by cases h:ys[j]<;>simp_all[AV.one,AV.cells]);have:(us[j]).cells=#[us[j]]\/∃a,us[j]=.agg a:=by cases us[j]<;>simp[Value.cells]
 rcases this with g|⟨a,g⟩;·simp_all
 rw[g]at b;exfalso;cases h:ys[j]<;>rw[h]at b h1<;>simp[AV.one]at h1<;>simp[VRel]at b;rcases b.1 with⟨_,_,_,n,_⟩|⟨_,_,_,_,n,_⟩<;>simp_all
theorem Qpw{t2 e:TypeId}{sz:Nat}{y:AV}{cy:Value}(H:HRel c h w)(hx:VRel c w x cx)(hy:VRel c w y cy)(hu:P.underlying t=some (.slice e))(hi:P.info? e=some ti)(hsz:ti.size=sz)(hm:(aCopy sz x y).run h=some (v,h')):Sound P c w (Builtin.copy_ #[t,t2] ty #[cx,cy]) v h':=by
 subst hsz;have hs:=QaP (P:=P) hi;have nilcase:∀(a:Option Addr)(hm:(aSrc ti.size y fun _ _=>.ret (.int .i64 0)).run h=some (v,h')),Sound P c w (Builtin.copy_ #[t,t2] ty #[.slice a 0 0,cy]) v h':=by intro a hm;replace hm:=Qc3 (P:=P) H hy hm;obtain⟨ys,n,us,S,hm⟩:=hm;simp only[HM.run,Zaa,Zal]at hm;obtain⟨rfl,rfl⟩:=hm;have hf:=S.firstm w 0 (Zai _) rfl;simp at hf;refine .here H (cv:=goInt 0) ?_ (by simp[VRel,goInt]);cases a<;>simp[Builtin.copy_,run_underlying hu,S.lenOf,hs,hf,storeCells]
 cases x<;>simp only[aCopy]at hm<;>try(cases hm;done)
 case nilsl=>simp_all[VRel]
 case esl=>simp only[VRel]at hx;grind
 case sl b g off len s=>
  split at hm
  ·rename_i e1;subst e1;replace hm:=Qc3 (P:=P) H hy hm;obtain⟨ys,n,us,S,hm⟩:=hm;obtain⟨cs,hb,hm⟩:=Qbg hm;split at hm
   ·rename_i hcond;obtain⟨hl,hone,hne⟩:=hcond;obtain⟨hlim,hm⟩:=Qa2 hm;simp only[HM.run,Zaa,Zal]at hm;obtain⟨rfl,rfl⟩:=hm;have hul:=QaG S.rels;have hyl:=S.len;have hmin:min n len*ti.size<=n*ti.size:=Za5 _ (Nat.min_le_left _ _);have hf:=S.firstm w (min n len) (Nat.min_le_left _ _) rfl;have hvr:VRels c w (ys.take (min n len*ti.size)) (us.take (min n len*ti.size)):=by have:=QaK (QaZ S.rels) 0 (min n len*ti.size) (by omega);simp_all
    simp only[VRel]at hx;rcases hx with⟨hp,rfl,rfl,rfl⟩|⟨cb,base,o,cap,C,e',fr,hp,rfl,hlc,hC,hcap⟩
    ·have hcs:cs=[]:=by
      rcases H.blk b _ hb with⟨_,h2⟩|⟨_,_,_,_,_,h1,_⟩;·exact h2
      simp_all
     subst hcs;obtain⟨E,H'⟩:=H.putNil (b:=b) (g:=g) hlim (fun y hy=>H.later b _ hb y hy) (.inr hp);have e0:putR [] 0 (List.take (min n 0*ti.size) ys)=[]:=by simp[putR]
     rw[e0];refine⟨goInt 0,_,w,?_,E,H',by simp[VRel,goInt]⟩;simp at hf;simp[Builtin.copy_,run_underlying hu,S.lenOf,hs,hf]
    ·by_cases h0:min n len=0
     ·have e0:putR cs off (List.take (min n len*ti.size) ys)=cs:=by simp[putR,h0]
      rw[e0];have hst:=Qdv (P:=P) H hb hlim hp (vs:=[]) (us:=[]) (off:=0) (by simp) (by simp[VRels]) (by simp);obtain⟨c',w',hr,E,H'⟩:=hst;have e1:putR cs 0 []=cs:=by simp[putR]
      rw[e1]at H';simp only[storeCells,Sem.run_pure]at hr;cases hr;refine⟨goInt 0,c',w,?_,E,H',by simp[VRel,goInt,h0]⟩;simp only[h0,Nat.zero_mul,List.take_zero]at hf;simp[Builtin.copy_,run_underlying hu,S.lenOf,hs];rw[show n.min len=0 from h0,hf];simp[storeCells]
     ·obtain⟨rfl,hbd⟩:=hcap.resolve_left (by omega);obtain⟨c',w',hr,E,H'⟩:=Qdv (P:=P) H hb hlim hp (vs:=ys.take (min n len*ti.size)) (us:=us.take (min n len*ti.size)) (off:=off) (by simp;omega) hvr (fun u hu=>Qty S.rels hone u (ZaV hu));refine⟨goInt (min n len:Nat),c',w',?_,E,H',by simp[VRel,goInt]⟩;simp[Builtin.copy_,run_underlying hu,S.lenOf,hs];simp_all
   grind[HM.run]
  grind[HM.run]
end Go.AM
namespace Go.AM
variable{P:Program}{ok:Okc}{c:Ctx ok}{w:World}{h:Heap}
variable{k v x:AV}{ms ms':Array MapEntry}{b:Bool}{h':Heap}{es:List (AV×AV)}{ks:List LK}{cb clock clock' g i:Nat}{r:Option (Nat×AV)}{reserve:Option Value}{s:Site}{α:Type}{d:TypeDesc}{m t:TypeId}{ti:TypeInfo}{a ck cv f l n u:Value}
def keyEq(row:Bool)(ks:List LK)(k a:AV):Option Bool:=match row with
 |true=>match k,a with|.agg xs,.agg b=>eqCells ks xs b|_,_=>none
 |false=>eqCells ks [k] [a]
def aFind(row:Bool)(ks:List LK)(k:AV):List (AV×AV)->Nat->Option (Option (Nat×AV))|[],_=>some none|(a,v)::r,i=>match keyEq row ks k a with|some true=>some (some (i,v))|some false=>aFind row ks k r (i+1)|none=>none
def HM.entries{α}(b g:Nat)(k:List (AV×AV)->HM α):HM α:=.look b fun x=>match x with|some (.map a es)=>bif Nat.beq a g then k es else .fail|_=>.fail
def keyOK(row:Bool)(ks:List LK)(k:AV):Bool:=match keyEq row ks k k with|some _=>true|none=>false
def aLookup(row:Bool)(ks:List LK)(zero:AV)(ok:Bool)(x k:AV):HM AV:=if keyOK row ks k then match x with
 |.nilmap=>.ret (if ok then .tup [zero,.bool false]else zero)|.map b g=>.entries b g fun es=>match aFind row ks k es 0 with|some (some (_,v))=>.ret (if ok then .tup [v,.bool true]else v)|some none=>.ret (if ok then .tup [zero,.bool false]else zero)|none=>.fail
 |.fmap a c=>match aFind row ks k (a.zip c) 0 with|some (some (_,v))=>.ret (if ok then .tup [v,.bool true]else v)|some none=>.ret (if ok then .tup [zero,.bool false]else zero)|none=>.fail
 |_=>.fail else .fail
def aMapUpd(row:Bool)(ks:List LK)(x k v:AV):HM AV:=if keyOK row ks k then match x with
 |.map b g=>.entries b g fun es=>match aFind row ks k es 0 with|some (some (i,_))=>.put b (.map g (es.set i (k,v))) (.ret .any)|some none=>.put b (.map g (es++[(k,v)])) (.ret .any)|none=>.fail
 |_=>.fail else .fail
def aMakeMap(s:Site)(i:Nat):HM AV:=.new s i (fun g=>.map g []) fun b g=>.ret (.map b g)
theorem Qgf{row}{f}{g d}(h:keyEq row ks k f=some b)(i:VRel c w k g)(a:VRel c w f d):∃xs ys us vs,g=asVal row us/\d=asVal row vs/\VRels c w xs us/\VRels c w ys vs/\eqCells ks xs ys=some b:=by cases row with|true=>cases k<;>cases f<;>simp only[keyEq,reduceCtorEq]at h;simp only[VRel]at i a;obtain⟨us,rfl,h1⟩:=i;obtain⟨vs,rfl,l⟩:=a;exact⟨_,_,us.toList,vs.toList,by simp[asVal],by simp[asVal],h1,l,h⟩|false=>exact⟨[k],[f],[g],[d],by simp[asVal],by simp[asVal],by simp[VRels,i],by simp[VRels,a],h⟩
theorem QlS{xs ys}(d:eqCells ks xs ys=some b):(∃c,eqCells ks xs xs=some c)/\∃c,eqCells ks ys ys=some c:=by induction ks generalizing xs ys b with|nil=>cases xs<;>cases ys<;>simp[eqCells]at d⊢|cons k ks h=>
 cases xs<;>cases ys<;>simp only[eqCells,reduceCtorEq]at d⊢;rename_i x xs y ys;split at d
 ·rename_i a c h1 g;obtain⟨⟨m,i⟩,⟨b2,l⟩⟩:=h g;rw[i,l];have:(∃f,eqCell k x x=some f)/\∃f,eqCell k y y=some f:=by cases k<;>cases x<;>cases y<;>simp[eqCell]at h1⊢
  grind
 cases d
theorem Qgg:∀{ks:List LK}{xs ys:List AV}{us vs:List Value},eqCells ks xs ys=some true->VRels c w xs us->VRels c w ys vs->us=vs/\∀u∈us,(∃k n,u=.int k n)\/(∃b,u=.bool b)\/∃s,u=.string s
 |[],xs,ys,us,vs,d,f,g=>by cases xs<;>cases ys<;>simp[eqCells]at d;simp only[VRels]at f g;simp_all|k::ks,xs,ys,us,vs,d,f,g=>by
  cases xs<;>cases ys<;>simp only[eqCells,reduceCtorEq]at d;rename_i x xs y ys;split at d
  ·rename_i a b h1 t;have h:a=true/\b=true:=by simp_all
   obtain⟨rfl,rfl⟩:=h;simp only[VRels]at f g;obtain⟨u,r,rfl,o,l⟩:=f;obtain⟨v,q,rfl,m,i⟩:=g;obtain⟨rfl,p⟩:=Qgg t l i;have:u=v/\((∃k n,u=.int k n)\/(∃b,u=.bool b)\/∃s,u=.string s):=by
    cases k<;>cases x<;>cases y<;>simp only[eqCell,reduceCtorEq,Zaa]at h1<;>simp only[VRel]at o m<;>subst o<;>subst m;·simp_all
    ·simp_all
    simp_all
   grind
  cases d
def CkRun(P:Program)(c:Ctx ok)(w:World)(d:Nat):Prop:=∀(t:TypeId)(ks:List LK),flatK P d t=some ks->∀(xs:List AV)(us:List Value)(b:Bool),VRels c w xs us->eqCells ks xs xs=some b->∀e D,d<=D->(Instr.checkKey e D t (asVal (rowB P t) us)).run P w=.ok () w
def ckFields(D:Nat)(e:Bool)(us:Array Value):List Field->Sem Unit|[]=>pure ()|f::fs=>if f.name≠ "_"then do let a<-part f.type us f.offset;Instr.checkKey e D f.type a;ckFields D e us fs else ckFields D e us fs
def ckElems(D:Nat)(e:Bool)(t:TypeId)(n:Nat)(us:Array Value):List Nat->Sem Unit|[]=>pure ()|i::is=>do let a<-part t us (i*n)Instr.checkKey e D t a;ckElems D e t n us is
theorem QlH(D)(e)(t)(us)(fs)(w)(g:P.underlying t=some (.struct fs)):(Instr.checkKey e (D+1) t (.agg us)).run P w=(ckFields D e us fs.toList).run P w:=by simp only[Instr.checkKey,Sem.run_bind,run_underlying g,Result.andThen_ok];rw[<-Array.forIn_toList];generalize fs.toList=l;clear g;induction l generalizing w with|nil=>simp[ckFields]|cons f l i=>
 simp only[List.forIn_cons,ckFields,Sem.run_bind,Sem.run_ite];split;·generalize(part f.type us f.offset).run P w=h;cases h with
  |ok a d=>simp only[Result.andThen_ok];generalize(Instr.checkKey e D f.type a).run P d=k;cases k with|ok b c=>simp only[Result.andThen_ok,Sem.run_pure];exact i c|halt x c=>simp[Result.andThen]
  |halt x d=>simp[Result.andThen]
 simp_all
theorem QlT(D)(e)(t el)(len n)(us)(w)(h:P.underlying t=some (.array len el))(c:∀w,(sizeOf el).run P w=.ok n w):(Instr.checkKey e (D+1) t (.agg us)).run P w=(ckElems D e el n us (List.range' 0 len)).run P w:=by simp only[Instr.checkKey,Sem.run_bind,run_underlying h,Result.andThen_ok,c,Std.Legacy.Range.forIn_eq_forIn_range',Std.Legacy.Range.size,Nat.sub_zero,ZbN,Nat.div_one];generalize List.range' 0 len=l;induction l generalizing w with|nil=>simp[ckElems]|cons i l k=>simp only[List.forIn_cons,ckElems,Sem.run_bind,c,Result.andThen_ok];generalize(part el us (i*n)).run P w=m;cases m with
 |ok a f=>simp only[Result.andThen_ok];generalize(Instr.checkKey e D el a).run P f=g;cases g with|ok b d=>simp only[Result.andThen_ok,Sem.run_pure];exact k d|halt x d=>simp[Result.andThen]
 |halt x f=>simp[Result.andThen]
theorem Qgh{d}(s:CkRun P c w d):∀(fs:List Field)(off:Nat)(ks:List LK),flatF P (flatK P d) fs off=some ks->∀(xs:List AV)(us:Array Value)(b:Bool),VRels c w xs (us.toList.drop off)->eqCells ks xs xs=some b->off+ks.length<=us.size->∀e D,d<=D->(ckFields D e us fs).run P w=.ok () w
 |[],off,ks,a,xs,us,b,m,t,_,e,D,n=>by simp[ckFields]|f::fs,off,ks,a,xs,us,b,m,t,F,e,D,n=>by
  simp only[flatF]at a;split at a;·cases a
  rename_i z;have B:f.name≠ "_":=fun e=>z (.inl e);have C:f.offset=off:=by omega
  split at a
  ·rename_i g h;split at a
   ·rename_i hc;split at a
    ·rename_i r y;cases a;simp only[Zaf]at F;obtain⟨v,b2,E,A,rfl⟩:=Qcu t;obtain⟨u,k⟩:=Qce h;obtain⟨i,hi⟩:=Qbw k;have o:i.size=g.length:=by simp_all[Program.cellsOf]
     have p:=QaG m;simp at p;have x:=Qdy (P:=P) (cs:=us) (off:=off) w k hi o (Qcm h) (by omega);have l:=QaK (QaZ m) 0 g.length (by omega);simp only[ZaX]at l;have h1:=s f.type g h _ _ v l E e D n;have q:VRels c w (xs.drop g.length) (us.toList.drop (off+g.length)):=by have:=QaK (QaZ m) g.length (xs.length-g.length) (by omega);grind[ZaM,ZaT]
     have G:=Qgh s fs (off+g.length) r y _ us b2 q A (by omega) e D n;simp_all[ckFields]
    cases a
   cases a
  cases a
theorem Qhi{d}(q:CkRun P c w d){el}(h:flatK P d el=some ks)(hc:P.cellsOf el=ks.length):∀(m s:Nat)(xs:List AV)(us:Array Value)(b:Bool),VRels c w xs (us.toList.drop (s*ks.length))->eqCells (List.replicate m ks).flatten xs xs=some b->(s+m)*ks.length<=us.size->∀e D,d<=D->(ckElems D e el ks.length us (List.range' s m)).run P w=.ok () w
 |0,s,xs,us,b,g,n,_,e,D,k=>by simp[ckElems]|m+1,s,xs,us,b,g,n,A,e,D,k=>by
  rw[ZaY,Zbp]at n;obtain⟨r,b2,t,v,rfl⟩:=Qcu n;obtain⟨u,f⟩:=Qce h;obtain⟨i,hi⟩:=Qbw f;have o:i.size=ks.length:=by simp_all[Program.cellsOf]
  have p:=QaG g;simp at p;have y:(s+(m+1))*ks.length=s*ks.length+ks.length+m*ks.length:=by grind
  have z:(s+1)*ks.length=s*ks.length+ks.length:=Zbg _ _;have x:=Qdy (P:=P) (cs:=us) (off:=s*ks.length) w f hi o (Qcm h) (by omega);have a:=QaK (QaZ g) 0 ks.length (by omega);simp only[ZaX]at a;have h1:=q el ks h _ _ r a t e D k;have l:VRels c w (xs.drop ks.length) (us.toList.drop ((s+1)*ks.length)):=by have:=QaK (QaZ g) ks.length (xs.length-ks.length) (by omega);grind[ZaM,ZaT]
  have B:=Qhi q h hc m (s+1) _ us b2 l v (by grind) e D k;simp_all[Zb9,ckElems]
theorem ckRun:∀d,CkRun P c w d
 |0=>fun t ks a=>by simp[flatK]at a|d+1=>by
  intro t ks a xs us b l m e D v;obtain⟨D',rfl⟩:∃D',D=D'+1:=⟨D-1,by omega⟩;have s:=QaG l;obtain⟨p,_⟩:=QcN m;unfold flatK at a;split at a;·simp_all[Instr.checkKey,run_underlying]
  ·simp_all[Instr.checkKey,run_underlying]
  ·simp_all[Instr.checkKey,run_underlying]
  ·rename_i fs h;split at a;·cases a
   have o:rowB P t=true:=by simp[rowB,h]
   simp only[o,asVal,if_true];rw[QlH D' e t _ fs w h];exact Qgh (ckRun d) fs.toList 0 ks a xs us.toArray b (by simpa using l) m (by simp;omega) e D' (by omega)
  ·rename_i n el h;split at a
   ·rename_i f g;split at a
    ·rename_i hc;cases a;have o:rowB P t=true:=by simp[rowB,h]
     obtain⟨u,k⟩:=Qce g;obtain⟨i,hi⟩:=Qbw k;have r:i.size=f.length:=by simp_all[Program.cellsOf]
     simp only[o,asVal,if_true];rw[QlT D' e t el n f.length _ w h (fun w=>by simp_all[QaP])];have q:(List.replicate n f).flatten.length=n*f.length:=by simp
     exact Qhi (ckRun d) g hc n 0 xs us.toArray b (by simpa using l) m (by simp;omega) e D' (by omega)
    cases a
   cases a
  cases a
def FoundRel(c:Ctx ok)(w:World):Option (Nat×AV)->Option (Nat×Value)->Prop|none,none=>True|some (a,x),some (b,d)=>a=b/\VRel c w x d|_,_=>False
theorem Qki{d}{row}(i:flatK P 40 d=some ks)(m:rowB P d=row){g}(he:keyEq row ks k g=some b)(h1:VRel c w k f)(n:VRel c w g a):(Op.equal d f a).run P w=.ok b w:=by obtain⟨xs,q,us,p,rfl,rfl,h,l,o⟩:=Qgf he h1 n;have:=eqRun (P:=P) (c:=c) (w:=w) 40 d ks i _ _ _ _ b h l o 10000 (by omega);rw[m]at this;exact this
theorem Qfd{row}(h:flatK P 40 m=some ks)(g:rowB P m=row)(a:VRel c w k n):∀(es:List (AV×AV))(ms:List MapEntry)(clock i:Nat)(r:Option (Nat×AV)),MRel c w es ms clock->aFind row ks k es i=some r->∃b,(Instr.findAsking m n ms i).run P w=.ok b w/\FoundRel c w r b
 |[],ms,clock,i,r,hm,hf=>by simp only[MRel]at hm;subst hm;simp only[aFind,Zaa]at hf;subst hf;exact⟨none,by simp[Instr.findAsking],trivial⟩|(q,x)::es,ms,clock,i,r,hm,hf=>by
  simp only[MRel]at hm;obtain⟨e,d,rfl,h1,o,s,t,p⟩:=hm;simp only[aFind]at hf;split at hf;·rename_i f;cases hf;exact⟨some (i,e.val),by simp[Instr.findAsking,Qki h g f a h1],rfl,o⟩
  ·rename_i f;obtain⟨b,l,hrel⟩:=Qfd h g a es d clock (i+1) r p hf;exact⟨b,by simp[Instr.findAsking,Qki h g f a h1,l],hrel⟩
  cases hf
theorem QiA{y:AV}{v:Value}{k:LK}(h:(match k with|.b=>d=.bool|.i=>∃a,d=.int a|.s=>d=.string))(he:eqCell k x y=some b)(g:VRel c w x u)(f:VRel c w y v):Instr.sameNow d u v=some b:=by
 cases k<;>cases x<;>cases y<;>simp only[eqCell,reduceCtorEq,Zaa]at he<;>simp only[VRel]at g f<;>subst g<;>subst f<;>simp only at h;·simp_all[Instr.sameNow,Qdx]
 ·obtain⟨a,rfl⟩:=h;simp_all[Instr.sameNow,Qdx]
 simp_all[Instr.sameNow,beq_toListBytes,Qdx]
theorem Qhj{lk:LK}(p:(match lk with|.b=>d=.bool|.i=>∃m,d=.int m|.s=>d=.string)){h:Value}(a:VRel c w k h):∀(es:List (AV×AV))(ms:List MapEntry)(clock i:Nat)(r:Option (Nat×AV)),MRel c w es ms clock->aFind false [lk] k es i=some r->∃g,Instr.findNow d h ms i=some g/\FoundRel c w r g
 |[],ms,clock,i,r,hm,hf=>by simp only[MRel]at hm;subst hm;simp only[aFind,Zaa]at hf;subst hf;exact⟨none,by simp[Instr.findNow],trivial⟩|(l,x)::es,ms,clock,i,r,hm,hf=>by
  simp only[MRel]at hm;obtain⟨e,f,rfl,h1,s,u,t,o⟩:=hm;simp only[aFind,keyEq]at hf;have one:∀b,eqCells [lk] [k] [l]=some b->eqCell lk k l=some b:=by grind[eqCells]
  split at hf;·rename_i q;cases hf;exact⟨some (i,e.val),by grind[Instr.findNow,QiA],rfl,s⟩
  ·rename_i q;obtain⟨g,n,hrel⟩:=Qhj p a es f clock (i+1) r o hf;grind[Instr.findNow,QiA]
  cases hf
structure MapT(P:Program)(t:TypeId)(row:Bool)(ks:List LK)(kt et:TypeId):Prop where
 hu:P.underlying t=some (.map kt et)hk:flatK P 40 kt=some ks
 hr:rowB P kt=row
theorem QbL{i v}{row}(T:MapT P t row ks i v){d}(b:VRel c w k d){ms}(hm:MRel c w es ms clock)(hf:aFind row ks k es 0=some r):∃l,(Instr.findKey i d ms).run P w=.ok l w/\FoundRel c w r l:=by
 obtain⟨u,n⟩:=Qce T.hk;have h:(Instr.findKey i d ms).run P w=(match Instr.findNow u d ms 0 with|some r=>.ok r w|none=>(Instr.findAsking i d ms).run P w):=by simp only[Instr.findKey,Sem.run_bind,run_underlying n,Result.andThen_ok];cases Instr.findNow u d ms 0<;>rfl
 rw[h];cases row with|true=>
  have g:Instr.findNow u d ms 0=none\/(ms=[]/\Instr.findNow u d ms 0=some none):=by cases ms with|nil=>exact .inr ⟨rfl,rfl⟩|cons e ms=>left;have f:=T.hr;unfold rowB at f;rw[n]at f;cases u<;>simp at f<;>simp[Instr.findNow,Instr.sameNow]
  rcases g with g|⟨rfl,g⟩;·rw[g];exact Qfd T.hk T.hr b es ms clock 0 r hm hf
  rw[g];have:es=[]:=by cases es with|nil=>rfl|cons a es=>obtain⟨y,x⟩:=a;simp[MRel]at hm
  subst this;simp only[aFind,Zaa]at hf;subst hf;exact⟨none,rfl,trivial⟩|false=>
  have m:∃lk,ks=[lk]/\(match lk with|.b=>u=.bool|.i=>∃o,u=.int o|.s=>u=.string):=by have s:=T.hk;have f:=T.hr;unfold rowB at f;rw[n]at f;unfold flatK at s;grind
  obtain⟨lk,rfl,p⟩:=m;obtain⟨l,h1,q⟩:=Qhj p b es ms clock 0 r hm hf;rw[h1];exact⟨l,rfl,q⟩
theorem Qev{f l}{row}(T:MapT P t row ks f l){h}(a:VRel c w k h)(d:keyOK row ks k=true)(e):(Instr.checkKey e 10000 f h).run P w=.ok () w:=by
 unfold keyOK at d;split at d;·rename_i b o;obtain⟨xs,s,us,p,h1,q,n,r,i⟩:=Qgf o a a;obtain⟨⟨m,g⟩,_⟩:=QlS i;have:=ckRun (P:=P) (c:=c) (w:=w) 40 f ks T.hk xs us m n g e 10000 (by omega);rw[T.hr,<-h1]at this;exact this
 cases d
theorem Qcw{b}{k}{r:α×Heap}(hm:(HM.entries b g k).run h=some r):∃es,h.get b=some (.map g es)/\(k es).run h=some r:=by
 simp only[HM.entries,HM.run]at hm;split at hm;·rename_i a es c;cases e:Nat.beq a g with|false=>rw[e]at hm;simp[HM.run]at hm|true=>
  rw[e]at hm;have:a=g:=by simpa using e
  subst this;exact⟨es,c,hm⟩
 grind[HM.run]
theorem HRel.atMap(H:HRel c h w){b}(d:h.get b=some (.map g es)){base}(hp:c.ρ b g=some (.loc cb base)):∃ms clock,c.O cb/\w.heap[cb]?=some (.map ms clock)/\MRel c w es ms.toList clock/\clock=es.length:=by obtain⟨f,a,clock,h1,l,k,i⟩:=H.blk b _ d;rw[hp]at h1;cases h1;exact⟨a,clock,l,k,i⟩
theorem QbV(a:w.heap[cb]?=some (.map ms clock)):(getObj cb).run P w=.ok (.map ms clock) w:=by simp[getObj,Sem.run,a]
theorem Qoe:∀{ks vs:List AV}{es:List MapEntry}{clock:Nat},MStamp es clock->VRels c w ks (es.map (·.key))->VRels c w vs (es.map (·.val))->MRel c w (ks.zip vs) es clock|[],vs,es,clock,_,h1,_=>by simp_all[MRel,VRels]|k::ks,[],es,clock,_,h1,a=>by simp_all[VRels]|k::ks,v::vs,es,clock,b,h1,a=>by cases es with|nil=>simp[VRels]at h1|cons e es=>simp only[VRels,ZaL]at h1 a;obtain⟨x,xs,h,h1,d⟩:=h1;obtain⟨y,l,i,a,f⟩:=a;cases h;cases i;simp only[MStamp]at b;have g:=Qoe b.2.2 d f;rw[List.zip_cons_cons];refine⟨e,es,rfl,h1,a,b.1,?_,g⟩;have:=QbY g;rw[this];exact b.2.1
theorem QjA:∀{l:List (AV×AV)}{es:List MapEntry}{clock:Nat},MRel c w l es clock->MStamp es clock/\VRels c w (l.map (·.1)) (es.map (·.key))/\VRels c w (l.map (·.2)) (es.map (·.val))
 |[],es,clock,h=>by simp_all[MRel,MStamp,VRels]|(k,x)::r,es,clock,h=>by
  have hlen:=QbY h;simp only[MRel]at h;obtain⟨e,f,rfl,h1,n,b,i,a⟩:=h;obtain⟨d,g,m⟩:=QjA a;have o:=QbY a;refine⟨⟨b,by omega,d⟩,?_,?_⟩;·simp only[ZaL,VRels];grind
  simp only[ZaL,VRels];grind
theorem QlU{kt et}{row}{zero}{ok}{cx zv}(H:HRel c h w)(T:MapT P t row ks kt et)(hx:VRel c w x cx)(hkey:VRel c w k ck)(hi:P.info? et=some ti)(hz:ti.zero=some zv)(hc:cOK zero zv=true)(hm:(aLookup row ks zero ok x k).run h=some (v,h')):Sound P c w (Instr.lookup t cx ck ok) v h':=by
 unfold aLookup at hm;split at hm
 ·rename_i hok;have hck:=fun e=>Qev (P:=P) T hkey hok e;have hzr:VRel c w zero zv:=Qei _ _ hc;cases x<;>simp only at hm<;>try(cases hm;done)
  case nilmap=>
   simp only[HM.run,Zaa,Zal]at hm;obtain⟨rfl,rfl⟩:=hm;simp only[VRel]at hx;subst hx;obtain⟨r',h1,h2⟩:=QbL (P:=P) (w:=w) T hkey (es:=[]) (ms:=[]) (clock:=0) (r:=none) (by simp[MRel]) rfl;have:r'=none:=by grind[FoundRel]
   subst this;refine .here H (cv:=if ok then .tuple #[zv,.bool false]else zv) ?_ ?_;·simp[Instr.lookup,run_underlying T.hu,hck,h1,zeroValue,typeInfo,hi,hz]
   grind[VRel,VRels]
  case map b g=>
   obtain⟨es,hb,hm⟩:=Qcw hm;simp only[VRel]at hx;obtain⟨cb,hp,rfl⟩:=hx;obtain⟨ms,clock,hO,hC,hR,hcl⟩:=H.atMap hb hp;exact bvbHk
  case fmap ks' vs'=>
   simp only[VRel]at hx;obtain⟨mb,ms,clock,rfl,hF,hC,hcl,hst,h6,h7⟩:=hx;have hR:=Qoe hst h6 h7;exact bvbHk
 grind[HM.run]
theorem Qew:∀{es:List (AV×AV)}{ms:List MapEntry}{clock:Nat}(i:Nat){p:AV×AV},MRel c w es ms clock->es[i]?=some p->∃e,ms[i]?=some e/\VRel c w p.1 e.key/\VRel c w p.2 e.val|[],ms,clock,i,p,_,hi=>by simp at hi|(k,x)::es,ms,clock,i,p,hm,hi=>by simp only[MRel]at hm;obtain⟨e,a,rfl,h1,d,g,f,b⟩:=hm;cases i with|zero=>simp at hi;subst hi;exact⟨e,by simp,h1,d⟩|succ i=>simp at hi;simpa using Qew i b hi
theorem QhZ{row}:∀{es:List (AV×AV)}{i j:Nat}{v:AV},aFind row ks k es i=some (some (j,v))->i<=j/\∃a,es[j-i]?=some (a,v)/\keyEq row ks k a=some true
 |[],i,j,v,hf=>by simp[aFind]at hf|(a,x)::es,i,j,v,hf=>by
  simp only[aFind]at hf;split at hf;·simp_all
  ·obtain⟨h1,c,b,d⟩:=QhZ hf;grind
  cases hf
theorem QiB{row}{q}(x:keyEq row ks k q=some true)(h1:VRel c w k l)(y:VRel c w q f)(g:row=true\/∃lk,ks=[lk]):l=f/\Instr.sameBits 10000 l l=true:=by
 obtain⟨xs,B,us,A,rfl,rfl,o,z,v⟩:=Qgf x h1 y;obtain⟨rfl,a⟩:=Qgg v o z;refine⟨rfl,?_⟩;have r:∀n u,((∃k n,u=.int k n)\/(∃b,u=.bool b)\/∃s,u=.string s)->Instr.sameBits n u u=true:=by
  intro n u d;rcases d with⟨k,m,rfl⟩|⟨b,rfl⟩|⟨s,rfl⟩;·simp[Instr.sameBits]
  ·simp[Instr.sameBits]
  simp_all[Instr.sameBits,beq_toListBytes]
 cases row with|true=>simp only[asVal,if_true];show Instr.sameBits (9999+1) _ _=true;simp only[Instr.sameBits,Zab,beq_self_eq_true,true_and,ZaH];intro p hp;obtain⟨i,hi,rfl⟩:=Zb5.1 hp;simp at hi;simp only[List.getElem_zip];exact r _ _ (a _ (by simp))|false=>
  rcases g with h|⟨lk,rfl⟩;·cases h
  have t:=(QcN v).1;have d:=QaG o;match us,a,d with|[u],a,_=>simp only[asVal,Zar,if_false,List.headD_cons];exact r _ _ (a u (by simp))|[],_,d=>simp only[ZaC,Za3]at d t;omega|_::_::_,_,d=>simp only[ZaC,Za3]at d t;omega
theorem QlV(hk:VRel c w k ck)(hv:VRel c w v cv):∀{es:List (AV×AV)}{ms:List MapEntry}{clock:Nat}(i:Nat),MRel c w es ms clock->MRel c w (es.set i (k,v)) (ms.modify i fun e=>{e with key:=ck,val:=cv}) clock|[],ms,clock,i,hm=>by simp_all[MRel]|(k',x)::es,ms,clock,i,hm=>by simp only[MRel]at hm;obtain⟨e,ms',rfl,h1,h2,h3,h4,h5⟩:=hm;cases i with|zero=>simp only[ZbO,List.modify_zero_cons,MRel];exact⟨_,_,rfl,hk,hv,h3,h4,h5⟩|succ i=>simp only[List.set_cons_succ,List.modify_succ_cons,MRel];exact⟨_,_,rfl,h1,h2,h3,by simpa using h4,QlV hk hv i h5⟩
theorem Qgi(h:VRel c w k a)(f:VRel c w v cv):∀{es:List (AV×AV)}{ms:List MapEntry}{clock:Nat},MRel c w es ms clock->MRel c w (es++[(k,v)]) (ms++[{key:=a,val:=cv,born:=clock}]) (clock+1)|[],ms,clock,hm=>by simp only[MRel]at hm;subst hm;simp only[ZaW,MRel];grind|(i,x)::es,ms,clock,hm=>by simp only[MRel]at hm;obtain⟨e,d,rfl,h1,g,l,m,b⟩:=hm;simp only[ZaU,MRel];exact⟨_,_,rfl,h1,g,by omega,by simp;omega,Qgi h f b⟩
theorem HRel.setMap(H:HRel c h w){b}{es'}(a:b<lim)(d:h.get b=some (.map g es))(hp:c.ρ b g=some (.loc cb 0))(hm:∀c' w',Evo c w c' w'->MRelT c' w' es' ms'.toList clock'):∃c',Evo c w c' (upd w cb (.map ms' clock'))/\HRel c' (h.set b (.map g es')) (upd w cb (.map ms' clock')):=by obtain⟨ms,clock,r,m,q,o⟩:=H.atMap d hp;have f:=Qbc m;have:=H.put (b:=b) (cb:=cb) (base:=0) (x:=.map g es') (w':=upd w cb (.map ms' clock')) a (fun y n=>H.later b _ d y n) (.inr hp) (.inr ⟨g,0,⟨_,d,rfl,fun k=>by simp⟩,hp⟩) rfl rfl rfl (by simp[upd]) (by simp_all[upd]) (fun k _ i=>Qgd i) (fun C2 p l s=>by simp_all) (fun E=>⟨cb,ms',clock',Qa6,.inr rfl,Qds f,hm _ _ E⟩);grind
theorem Qde(a:w.heap[cb]?=some (.map ms clock)):(setObj cb (.map ms' clock')).run P w=.ok () (upd w cb (.map ms' clock')):=by simp[setObj,Sem.run,a,upd]
theorem Qgj{U Q}{row}{r}{N}(H:HRel c h w)(T:MapT P t row ks U Q)(M:VRel c w x N)(a:VRel c w k l)(O:VRel c w v cv)(hm:(aMapUpd row ks x k v).run h=some (r,h')):SoundU P c w (Instr.mapUpdate t N l cv) h':=by
 unfold aMapUpd at hm;split at hm
 ·rename_i I;have p:=fun e=>Qev (P:=P) T a I e;cases x<;>simp only at hm<;>try(cases hm;done)
  case map b g=>
   obtain⟨es,A,hm⟩:=Qcw hm;simp only[VRel]at M;obtain⟨X,hp,rfl⟩:=M;obtain⟨ms,clock,hO,z,o,m⟩:=H.atMap A hp;split at hm;·rename_i i Z hf;obtain⟨d,hm⟩:=Qa2 hm;simp only[HM.run,Zaa,Zal]at hm;obtain⟨_,rfl⟩:=hm;obtain⟨u,h1,y⟩:=QbL (P:=P) (w:=w) T a o hf;cases u with|none=>simp[FoundRel]at y|some u=>
    obtain⟨Y,V⟩:=u;simp only[FoundRel]at y;obtain⟨rfl,_⟩:=y;obtain⟨_,k',s,B⟩:=QhZ hf;simp only[Nat.sub_zero]at s;obtain⟨e,he,K,_⟩:=Qew i o s;have q:row=true\/∃lk,ks=[lk]:=by cases G:row with|true=>exact .inl rfl|false=>have F:=T.hk;have L:=T.hr;rw[G]at L;have S:=Qcm F L;match ks,S with|[lk],_=>exact .inr ⟨lk,rfl⟩
    obtain⟨J,C⟩:=QiB B a K q;have f:(Instr.keyThatStays e.key l).run P w=.ok l w:=by simp_all[Instr.keyThatStays]
    rw[ZaP]at he;obtain⟨n,E,H'⟩:=H.setMap d A hp (es':=es.set i (k,v)) (ms':=ms.modify i fun e=>{e with key:=l,val:=cv}) (clock':=clock) (fun n R E=>by have:=QlV (Zce (E.ext H.disj) _ _ a) (Zce (E.ext H.disj) _ _ O) i (MRel.mono (E.ext H.disj) _ _ _ o);exact⟨by simp_all,by simpa using m⟩);refine⟨n,_,?_,E,H'⟩;simp[Instr.mapUpdate,run_underlying T.hu,QbV z,p,h1,he,f,Qde z]
   ·rename_i hf;obtain⟨d,hm⟩:=Qa2 hm;simp only[HM.run,Zaa,Zal]at hm;obtain⟨_,rfl⟩:=hm;obtain⟨u,h1,y⟩:=QbL (P:=P) (w:=w) T a o hf;have:u=none:=by grind[FoundRel]
    subst this;obtain⟨n,E,H'⟩:=H.setMap d A hp (es':=es++[(k,v)]) (ms':=ms.push {key:=l,val:=cv,born:=clock}) (clock':=clock+1) (fun n R E=>by have:=Qgi (Zce (E.ext H.disj) _ _ a) (Zce (E.ext H.disj) _ _ O) (MRel.mono (E.ext H.disj) _ _ _ o);exact⟨by simp_all,by simpa using m⟩);refine⟨n,_,?_,E,H'⟩;simp[Instr.mapUpdate,run_underlying T.hu,QbV z,p,h1,Qde z]
   grind[HM.run]
 grind[HM.run]
theorem QlI(f:∀r,reserve=some r->(∃k n,r=.int k n)/\∃o m,P.underlying t=some (.map o m))(H:HRel c h w)(hm:(aMakeMap s i).run h=some (v,h')):Sound P c w (Instr.makeMap t reserve) v h':=by
 unfold aMakeMap at hm;obtain⟨b,g,d,A,hm⟩:=Qdw hm;simp only[HM.run,Zaa,Zal]at hm;obtain⟨rfl,rfl⟩:=hm;have a:∀y,g<=y->c.ρ b y=none:=by
  intro y q;rcases A with⟨h1,p⟩|⟨z,h1,p⟩;·exact H.fresh b h1 y
  exact H.later b z h1 y (by omega)
 have l:(w.alloc (.map #[] 0)).heap[w.heap.size]?=some (.map #[] 0):=by show(w.heap.push _)[w.heap.size]?=_;simp
 have:=H.put (b:=b) (cb:=w.heap.size) (base:=0) (x:=.map g []) (w':=w.alloc (.map #[] 0)) d (fun y q=>a y (Nat.le_of_lt q)) (.inl (a g (Zau _))) (.inl rfl) rfl rfl rfl (by simp) (by simp) (fun k B _=>Go.RowKit.Below.heap_alloc w _ k B) (fun C2 C u p=>by simp_all) (fun E=>⟨w.heap.size,#[],0,Qa6,.inr rfl,l,by simp[MRel],rfl⟩);refine⟨.map (some w.heap.size),_,_,?_,this.1,this.2,?_⟩;·cases reserve with|none=>simp[Instr.makeMap]|some r=>obtain⟨⟨k,n,rfl⟩,o,m,x⟩:=f r rfl;simp[Instr.makeMap,run_underlying x,asInt,asIntOf]
 simp only[VRel];exact⟨_,Qa6,rfl⟩
end Go.AM
