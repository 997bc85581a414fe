/- A part of the proof of CatalogueWordsCardSaid: lemmas on the way (AmE, AmF, AmG). Conditions: none of ours. -/
import Derived.Laws.Strings
import Derived.Laws.StructEq
import Derived.Test.YteiijgolpigjdaaGreatDoorAmW1
set_option linter.unusedSectionVars false
set_option maxHeartbeats 32000000
set_option maxRecDepth 100000
set_option linter.unusedVariables false
set_option linter.unusedSimpArgs false
namespace Go.AM
variable {P:Program} {ok:Okc} {c:Ctx ok} {w:World} {h:Heap}
def Pure (P:Program) (c:Ctx ok) (w:World) (s:Sem Value) (v:AV):Prop:=∃cv,s.run P w= .ok cv w/\VRel c w v cv
theorem Pure.sound {s:Sem Value} {v:AV} (H:HRel c h w) (p:Pure P c w s v):Sound P c w s v h:=
 let ⟨_,h1,h2⟩:=p;.here H h1 h2
theorem Qdf {α:Type} [BEq α] [LawfulBEq α] [DecidableEq α] (a b:α):(a==b)=decide (a=b):=by
 grind
theorem Qqm {α:Type} [BEq α] [LawfulBEq α] [DecidableEq α] (a b:α):(a !=b)= !decide (a=b):=by
 grind
theorem QnO {op : BinOp} {t : TypeId} {x y v : AV} {cx cy : Value} (hx : VRel c w x cx) (hy : VRel c w y cy) (hm : aBin op x y = some v) :
    Pure P c w (binOp op t cx cy) v:=by
  unfold aBin at hm
  split at hm
  · rename_i k a k' b
    simp only[VRel]at hx hy
    subst hx;subst hy
    split at hm
    · split at hm
      · cases hm
      · rename_i hb
        cases hm
        exact⟨_,by simp[binOp,Op.shift,hb];rfl,by simp[VRel,wr_eq]⟩
    · split at hm
      · cases hm
      · rename_i hb
        cases hm
        exact⟨_,by simp[binOp,Op.shift,hb];rfl,by simp[VRel]⟩
    · split at hm
      · rename_i hk
        subst hk
        split at hm<;>first
          | (by_cases hb : b = 0
             · rw[if_pos hb]at hm;cases hm
             · rw [if_neg hb] at hm; cases hm
               refine⟨?_,?_,?_⟩;rotate_left
               · simp[binOp,Op.intDiv,hb];rfl
               grind [VRel,wr_eq])
          | (cases hm; refine ⟨.bool (a == b), ?_, ?_⟩
             · simp[binOp,Op.intCmp];done
             · grind [VRel])
          | (cases hm; refine ⟨.bool (a != b), ?_, ?_⟩
             · simp[binOp,Op.intCmp];done
             · grind [VRel])
          | (cases hm; refine ⟨?_, ?_, ?_⟩; rotate_left
             · simp[binOp,Op.intCmp];rfl
             · simp[VRel];done)
          | (cases hm; refine ⟨?_, ?_, ?_⟩; rotate_left
             · simp[binOp,Op.intArith];rfl
             · simp[VRel,wr_eq];done)
          | (cases hm; refine ⟨?_, ?_, ?_⟩; rotate_left
             · simp[binOp,Op.intBits];rfl
             · simp[VRel,wr_eq];done)
          |cases hm
      · cases hm
  · rename_i a b
    simp only[VRel]at hx hy
    subst hx;subst hy
    split at hm
    · split at hm
      · rename_i hl
        cases hm
        have h2:¬(9223372036854775807<(a.length:Int)+(b.length:Int)):=by omega
        exact⟨.string ⟨(a++b).toArray⟩,by simp[binOp,Op.stringOp,ByteArray.size,h2];rfl,by simp[VRel]⟩
      · cases hm
    all_goals first
      |(cases hm;exact⟨_,by simp[binOp,Op.stringOp];rfl,by simp[VRel,Qdf,Qqm]⟩)
      |cases hm
  · cases hm
theorem Qpw {op:UnOp} {x v:AV} {cx:Value} (hx:VRel c w x cx) (hm:aUn op x=some v):Pure P c w (Op.unary op cx) v:=by
 unfold aUn at hm
 split at hm
 ·simp only [VRel] at hx; subst hx; cases hm
  exact⟨_,by simp[Op.unary,Op.intArith];rfl,by simp[VRel,wr_eq]⟩
 ·simp only [VRel] at hx; subst hx; cases hm
  rename_i k n
  refine⟨_,by simp[Op.unary,Op.intBits];rfl,?_⟩
  simp only[VRel,wr_eq]
  cases k<;>rfl
 ·simp only [VRel] at hx; subst hx; cases hm
  exact⟨_,by simp[Op.unary];rfl,by simp[VRel]⟩
 ·cases hm
def flatF (P:Program) (rec:TypeId->Option (List LK)):List Field->Nat->Option (List LK)
 |[],_=>some []
 |f::fs,off=>
  if f.name= "_" \/f.offset≠off then none else
  match rec f.type with
  |some ks=>if P.cellsOf f.type=ks.length then(match flatF P rec fs (off+ks.length)with|some r=>some (ks++r)|none=>none)else none
  |none=>none
def flatK (P:Program):Nat->TypeId->Option (List LK)
 |0,_=>none
 | d + 1, t =>
  match P.underlying t with
  |some .bool=>some [.b]
  |some (.int _)=>some [.i]
  |some .string=>some [.s]
  |some (.struct fs)=>if P.stoodInHeld t then none else flatF P (flatK P d) fs.toList 0
  |some (.array n e)=>match flatK P d e with
   |some ks=>if P.cellsOf e=ks.length then some (List.replicate n ks).flatten else none
   |none=>none
  |_=>none
def rowB (P:Program) (t:TypeId):Bool:=
 match P.underlying t with
 |some (.struct _)|some (.array _ _)=>true
 |_=>false
def asVal (row:Bool) (vs:List Value):Value:=if row then .agg vs.toArray else vs.headD undef
theorem QcB:∀{ks:List LK} {xs ys:List AV} {b:Bool},eqCells ks xs ys=some b->xs.length=ks.length/\ys.length=ks.length
 |[],[],[],_,_=>by simp
 |[],x::xs,ys,_,hh=>by simp[eqCells]at hh
 |[],[],y::ys,_,hh=>by simp[eqCells]at hh
 |k::ks,[],ys,_,hh=>by simp[eqCells]at hh
 |k::ks,x::xs,[],_,hh=>by simp[eqCells]at hh
 | k :: ks, x :: xs, y :: ys, b, hh => by
  simp only[eqCells]at hh
  split at hh
  ·rename_i a b' h1 h2
   have:=QcB h2
   simp[this]
  ·cases hh
theorem Qck:∀{ks ks':List LK} {xs ys:List AV} {b:Bool},eqCells (ks++ks') xs ys=some b->
  ∃b1 b2,eqCells ks (xs.take ks.length) (ys.take ks.length)=some b1/\eqCells ks' (xs.drop ks.length) (ys.drop ks.length)=some b2/\b=(b1&&b2)
 |[],ks',xs,ys,b,hh=>⟨true,b,by simp[eqCells],by simpa using hh,by simp⟩
 |k::ks,ks',[],ys,b,hh=>by simp[eqCells]at hh
 |k::ks,ks',x::xs,[],b,hh=>by simp[eqCells]at hh
 | k :: ks, ks', x :: xs, y :: ys, b, hh => by
  simp only[List.cons_append,eqCells]at hh
  split at hh
  ·rename_i a b' h1 h2
   obtain⟨b1,b2,k1,k2,k3⟩:=Qck h2
   simp_all [Bool.and_assoc,eqCells]
  ·cases hh
theorem Qdg {t:TypeId} {cs:Array Value} {off n:Nat} {i:TypeInfo} (w:World) {d:TypeDesc} (hu:P.underlying t=some d) (hi:P.info? t=some i) (hn:i.size=n) (hone:rowB P t=false->n=1) (hl:off+n<=cs.size):
    (part t cs off).run P w= .ok (asVal (rowB P t) ((cs.toList.drop off).take n)) w:=by
  subst hn
  unfold part isAgg
  have key:rowB P t=false->cs[off]?=some (((cs.toList.drop off).take i.size).headD undef):=by
    grind [List.take_one,List.head?_drop]
  have agg: .agg (cs.extract off (off+i.size))=(Value.agg ((cs.toList.drop off).take i.size).toArray):=by
    congr 1
    grind
  cases d<;>first
    | (have hr : rowB P t = true := by simp [rowB, hu]
       simp only[Sem.run_bind,run_underlying hu,Result.andThen_ok,Sem.run_pure,if_true,QaJ hi,hr,asVal]
       rw[agg])
    | (have hr : rowB P t = false := by simp [rowB, hu]
       simp only[Sem.run_bind,run_underlying hu,Result.andThen_ok,Sem.run_pure,Bool.false_eq_true,if_false,key hr,hr,asVal])
theorem Qbt {t:TypeId} {d:TypeDesc} (hh:P.underlying t=some d):∃i,P.info? t=some i:=by
 unfold Program.underlying at hh
 grind
theorem Qb7 {d:Nat} {t:TypeId} {ks:List LK} (hh:flatK P d t=some ks) (hr:rowB P t=false):ks.length=1:=by
 cases d with
 |zero=>simp[flatK]at hh
 | succ d =>
  unfold flatK at hh
  unfold rowB at hr
  split at hh<;>first
   |(simp_all;done)
   |(cases hh;rfl)
   |(rename_i hu;simp[hu]at hr)
theorem Qb1 {d:Nat} {t:TypeId} {ks:List LK} (hh:flatK P d t=some ks):∃u,P.underlying t=some u:=by
 cases d with
 |zero=>simp[flatK]at hh
 |succ d=>
  unfold flatK at hh
  cases hu:P.underlying t with
  |none=>simp[hu]at hh
  |some u=>exact⟨u,rfl⟩
def EqRun (P:Program) (c:Ctx ok) (w:World) (d:Nat):Prop:=
 ∀(t:TypeId) (ks:List LK),flatK P d t=some ks->∀(xs ys:List AV) (us vs:List Value) (b:Bool),VRels c w xs us->VRels c w ys vs->eqCells ks xs ys=some b->
  ∀D,d<=D->(Op.equalIn D t (asVal (rowB P t) us) (asVal (rowB P t) vs)).run P w= .ok b w
theorem Qfn {d:Nat} (ih:EqRun P c w d):∀(fs:List Field) (off:Nat) (ks:List LK),flatF P (flatK P d) fs off=some ks->
  ∀(xs ys:List AV) (us vs:Array Value) (b:Bool),VRels c w xs (us.toList.drop off)->VRels c w ys (vs.toList.drop off)->eqCells ks xs ys=some b->off+ks.length<=us.size->off+ks.length<=vs.size->
  ∀D,d<=D->(Op.eqFields D us vs fs).run P w= .ok b w
 |[],off,ks,hk,xs,ys,us,vs,b,hx,hy,hb,_,_,D,hD=>by
  simp only[flatF,Option.some.injEq]at hk
  subst hk
  cases xs<;>cases ys<;>simp[eqCells]at hb
  simp_all [Op.eqFields]
 | f :: fs, off, ks, hk, xs, ys, us, vs, b, hx, hy, hb, hu, hv, D, hD => by
  simp only[flatF]at hk
  split at hk
  ·cases hk
  ·rename_i hn
   have hn1:f.name≠ "_" :=fun e=>hn (.inl e)
   have hn2:f.offset=off:=by omega
   split at hk
   ·rename_i k1 hk1
    split at hk
    ·rename_i hc
     split at hk
     ·rename_i r hr
      cases hk
      simp only[List.length_append]at hu hv
      obtain⟨b1,b2,e1,e2,rfl⟩:=Qck hb
      obtain⟨u,hun⟩:=Qb1 hk1
      obtain⟨i,hi⟩:=Qbt hun
      have hsz:i.size=k1.length:=by simp_all [Program.cellsOf]
      have hlx:=QaC hx
      have hly:=QaC hy
      simp at hlx hly
      have hp1:=Qdg (P:=P) (cs:=us) (off:=off) w hun hi hsz (Qb7 hk1) (by omega)
      have hp2:=Qdg (P:=P) (cs:=vs) (off:=off) w hun hi hsz (Qb7 hk1) (by omega)
      have hx1:=QaF (Qa0 hx) 0 k1.length (by omega)
      have hy1:=QaF (Qa0 hy) 0 k1.length (by omega)
      simp only[List.drop_zero]at hx1 hy1
      have h1:=ih f.type k1 hk1 _ _ _ _ b1 hx1 hy1 e1 D hD
      have hx2:VRels c w (xs.drop k1.length) (us.toList.drop (off+k1.length)):=by
       have:=QaF (Qa0 hx) k1.length (xs.length-k1.length) (by omega)
       grind [List.take_of_length_le,List.drop_drop]
      have hy2:VRels c w (ys.drop k1.length) (vs.toList.drop (off+k1.length)):=by
       have:=QaF (Qa0 hy) k1.length (ys.length-k1.length) (by omega)
       grind [List.take_of_length_le,List.drop_drop]
      have h2:=Qfn ih fs (off+k1.length) r hr _ _ us vs b2 hx2 hy2 e2 (by omega) (by omega) D hD
      simp only[Op.eqFields,ne_eq,hn1,not_false_eq_true,if_true,Sem.run_bind,hn2,hp1,hp2,Result.andThen_ok,h1]
      cases b1<;>simp[h2]
     ·cases hk
    ·cases hk
   ·cases hk
def eqElems (D:Nat) (e:TypeId) (n:Nat) (xs ys:Array Value):List Nat->Sem Bool
 |[]=>pure true
 |i::is=>do
  let a<-part e xs (i*n)
  let b<-part e ys (i*n)
  let r<-Op.equalIn D e a b
  if(!r)=true then pure false else eqElems D e n xs ys is
theorem Qgl (D:Nat) (t e:TypeId) (len n:Nat) (xs ys:Array Value) (w:World) (ht:P.underlying t=some (.array len e)) (hn:∀w,(sizeOf e).run P w= .ok n w):
  (Op.equalIn (D+1) t (.agg xs) (.agg ys)).run P w=(eqElems D e n xs ys (List.range' 0 len)).run P w:=by
 simp only[Op.equalIn,Sem.run_bind,run_underlying ht,Result.andThen_ok,hn,Std.Legacy.Range.forIn_eq_forIn_range',Std.Legacy.Range.size,Nat.sub_zero,Nat.add_sub_cancel,Nat.div_one]
 generalize List.range' 0 len=l
 induction l generalizing w with
 |nil=>simp[eqElems]
 | cons i l ih =>
  simp only[List.forIn_cons,eqElems,Sem.run_bind,Sem.run_ite]
  generalize (part e xs (i*n)).run P w=r1
  cases r1 with
  | ok a w1 =>
   simp only[Result.andThen_ok]
   generalize (part e ys (i*n)).run P w1=r2
   cases r2 with
   | ok b w2 =>
    simp only[Result.andThen_ok]
    generalize (Op.equalIn D e a b).run P w2=r3
    cases r3 with
    |ok r w3=>
     cases r
     ·simp_all
     ·simp_all
    |halt x w3=>simp[Result.andThen]
   |halt x w2=>simp[Result.andThen]
  |halt x w1=>simp[Result.andThen]
theorem Qgm {d:Nat} (ih:EqRun P c w d) {e:TypeId} {ks:List LK} (hk:flatK P d e=some ks) (hc:P.cellsOf e=ks.length):∀(m s:Nat) (xs ys:List AV) (us vs:Array Value) (b:Bool),
  VRels c w xs (us.toList.drop (s*ks.length))->VRels c w ys (vs.toList.drop (s*ks.length))->eqCells (List.replicate m ks).flatten xs ys=some b->(s+m)*ks.length<=us.size->(s+m)*ks.length<=vs.size->
  ∀D,d<=D->(eqElems D e ks.length us vs (List.range' s m)).run P w= .ok b w
 |0,s,xs,ys,us,vs,b,hx,hy,hb,_,_,D,hD=>by
  cases xs<;>cases ys<;>simp[eqCells]at hb
  simp_all [eqElems]
 | m + 1, s, xs, ys, us, vs, b, hx, hy, hb, hu, hv, D, hD => by
  rw[List.replicate_succ,List.flatten_cons]at hb
  obtain⟨b1,b2,e1,e2,rfl⟩:=Qck hb
  obtain⟨u,hun⟩:=Qb1 hk
  obtain⟨i,hi⟩:=Qbt hun
  have hsz:i.size=ks.length:=by simp_all [Program.cellsOf]
  have hlx:=QaC hx
  have hly:=QaC hy
  simp at hlx hly
  have a1:(s+(m+1))*ks.length=s*ks.length+ks.length+m*ks.length:=by
   grind
  have a2:(s+1)*ks.length=s*ks.length+ks.length:=Nat.succ_mul _ _
  have hp1:=Qdg (P:=P) (cs:=us) (off:=s*ks.length) w hun hi hsz (Qb7 hk) (by omega)
  have hp2:=Qdg (P:=P) (cs:=vs) (off:=s*ks.length) w hun hi hsz (Qb7 hk) (by omega)
  have hx1:=QaF (Qa0 hx) 0 ks.length (by omega)
  have hy1:=QaF (Qa0 hy) 0 ks.length (by omega)
  simp only[List.drop_zero]at hx1 hy1
  have h1:=ih e ks hk _ _ _ _ b1 hx1 hy1 e1 D hD
  have hx2:VRels c w (xs.drop ks.length) (us.toList.drop ((s+1)*ks.length)):=by
   have:=QaF (Qa0 hx) ks.length (xs.length-ks.length) (by omega)
   grind [List.take_of_length_le,List.drop_drop]
  have hy2:VRels c w (ys.drop ks.length) (vs.toList.drop ((s+1)*ks.length)):=by
   have:=QaF (Qa0 hy) ks.length (ys.length-ks.length) (by omega)
   grind [List.take_of_length_le,List.drop_drop]
  have h2:=Qgm ih hk hc m (s+1) _ _ us vs b2 hx2 hy2 e2 (by grind) (by grind) D hD
  simp only[List.range'_succ,eqElems,Sem.run_bind,hp1,hp2,Result.andThen_ok,h1]
  cases b1<;>simp[h2]
theorem eqRun:∀d,EqRun P c w d
 |0=>fun t ks hk=>by simp[flatK]at hk
 | d + 1 => by
  intro t ks hk xs ys us vs b hx hy hb D hD
  obtain⟨D',rfl⟩:∃D',D=D'+1:=⟨D-1,by omega⟩
  have hlx:=QaC hx
  have hly:=QaC hy
  obtain⟨hl1,hl2⟩:=QcB hb
  unfold flatK at hk
  split at hk
  ·rename_i hu
   cases hk
   have hr:rowB P t=false:=by simp[rowB,hu]
   match xs,ys,hb with
   |[x],[y],hb=>
    simp only[eqCells]at hb
    split at hb<;>cases hb
    rename_i a b' h1 h2
    cases h2
    cases x<;>cases y<;>simp only[eqCell,reduceCtorEq]at h1
    cases h1
    simp only[VRels,VRel]at hx hy
    obtain⟨_,_,rfl,rfl,rfl⟩:=hx
    obtain⟨_,_,rfl,rfl,rfl⟩:=hy
    simp[hr,asVal,Op.equalIn,run_underlying hu,Qdf]
  ·rename_i k hu
   cases hk
   have hr:rowB P t=false:=by simp[rowB,hu]
   match xs,ys,hb with
   | [x], [y], hb =>
    simp only[eqCells]at hb
    split at hb<;>cases hb
    rename_i a b' h1 h2
    cases h2
    cases x<;>cases y<;>simp only[eqCell,reduceCtorEq]at h1
    split at h1
    ·rename_i hkk
     cases h1
     subst hkk
     simp only[VRels,VRel]at hx hy
     obtain⟨_,_,rfl,rfl,rfl⟩:=hx
     obtain⟨_,_,rfl,rfl,rfl⟩:=hy
     simp[hr,asVal,Op.equalIn,run_underlying hu]
     rw[Qdf]
    ·cases h1
  ·rename_i hu
   cases hk
   have hr:rowB P t=false:=by simp[rowB,hu]
   match xs,ys,hb with
   |[x],[y],hb=>
    simp only[eqCells]at hb
    split at hb<;>cases hb
    rename_i a b' h1 h2
    cases h2
    cases x<;>cases y<;>simp only[eqCell,reduceCtorEq]at h1
    cases h1
    simp only[VRels,VRel]at hx hy
    obtain⟨_,_,rfl,rfl,rfl⟩:=hx
    obtain⟨_,_,rfl,rfl,rfl⟩:=hy
    simp[hr,asVal,Op.equalIn,run_underlying hu,beq_toListBytes,Qdf]
  ·rename_i fs hu
   split at hk
   ·cases hk
   ·rename_i hst
    have hr:rowB P t=true:=by simp[rowB,hu]
    have hf:P.fieldsOf t=fs:=by simp[Program.fieldsOf,hu]
    simp only[hr,asVal,if_true]
    rw[run_equalIn_struct w D' t _ _ (by simp_all) (by simpa using hst),hf]
    exact Qfn (eqRun d) fs.toList 0 ks hk xs ys us.toArray vs.toArray b (by simpa using hx) (by simpa using hy) hb (by simp;omega) (by simp;omega) D' (by omega)
  ·rename_i n e hu
   split at hk
   ·rename_i ks' hk'
    split at hk
    ·rename_i hc
     cases hk
     have hr:rowB P t=true:=by simp[rowB,hu]
     obtain⟨u,hun⟩:=Qb1 hk'
     obtain⟨i,hi⟩:=Qbt hun
     have hsz:i.size=ks'.length:=by simp_all [Program.cellsOf]
     simp only[hr,asVal,if_true]
     rw[Qgl D' t e n ks'.length _ _ w hu (fun w=>by simp_all [QaJ])]
     have hfl:(List.replicate n ks').flatten.length=n*ks'.length:=by simp
     exact Qgm (eqRun d) hk' hc n 0 xs ys us.toArray vs.toArray b (by simpa using hx) (by simpa using hy) hb (by simp;omega) (by simp;omega) D' (by omega)
    ·cases hk
   ·cases hk
  ·cases hk
def kindT (P:Program) (t:TypeId):Nat:=
 match P.underlying t with
 |some (.pointer _)=>1
 |some (.slice _)=>2
 |some (.map _ _)=>3
 |some (.func _ _ _)=>4
 |some (.interface _)=>5
 |_=>0
def eqT (P:Program) (t:TypeId):EqK->Bool
 | .flat row ks=>match row with
  |true=>rowB P t&& !P.eqGuardType P.depth t&&(match flatK P 40 t with|some ks'=>ks.length==ks'.length&&(ks.zip ks').all (fun p=>match p with|(.b,.b)|(.i,.i)|(.s,.s)=>true|_=>false)|none=>false)
  |false=>match P.underlying t with|some .bool=>true|_=>false
 | .nil kind=>kindT P t==kind
theorem lk_eq:∀{ks ks':List LK},(ks.length==ks'.length&&(ks.zip ks').all (fun p=>match p with|(.b,.b)|(.i,.i)|(.s,.s)=>true|_=>false))=true->ks=ks'
 |[],[],_=>rfl
 |[],_::_,hh=>by simp at hh
 |_::_,[],hh=>by simp at hh
 |k::ks,k'::ks',hh=>by
  simp only[List.length_cons,List.zip_cons_cons,List.all_cons,Bool.and_eq_true,beq_iff_eq]at hh
  have ih:=lk_eq (ks:=ks) (ks':=ks') (by simp_all)
  grind
theorem Qrj (b:Bool):(b !=false)=b:=by cases b<;>rfl
theorem Qrk (b:Bool):(b !=true)= !b:=by cases b<;>rfl
theorem QnP {neg:Bool} {op:BinOp} {t:TypeId} {x y:Value} {b:Bool} (hop:op=if neg then .neq else .eql)
  (h1:binOp .eql t x y=(do pure (.bool (<-Op.equal t x y)))) (h2:binOp .neq t x y=(do pure (.bool (!(<-Op.equal t x y)))))
  (hb:∀d,(Op.equalIn (d+1) t x y).run P w= .ok b w):(binOp op t x y).run P w= .ok (.bool (b !=neg)) w:=by
 have hb':(Op.equal t x y).run P w= .ok b w:=hb 9999
 subst hop
 cases neg
 ·simp_all
 simp_all
theorem Qrl {t:TypeId} {x y:AV} {cx cy:Value} {b:Bool} {kd:Nat} (h1:isNil x=some (b,kd)) (h2:isNil y=some (true,kd)) (hx:VRel c w x cx) (hy:VRel c w y cy) (ht:kindT P t=kd):
  (∀ d, (Op.equalIn (d + 1) t cx cy).run P w = .ok b w) /\ binOp .eql t cx cy = (do pure (.bool (<- Op.equal t cx cy))) /\ binOp .neq t cx cy = (do pure (.bool (!(<- Op.equal t cx cy)))) /\
   ∀{op:BinOp} {ox:Operand} {cv:Value},(eqGuard op t ox (.const cv) cx cy).run P w= .ok () w:=by
 unfold kindT at ht
 have hyn:(cy= .pointer none/\kd=1)\/(cy= .slice none 0 0/\kd=2)\/(cy= .map none/\kd=3)\/(cy= .nilFunc/\kd=4)\/(cy= .nilIface/\kd=5):=by
  unfold isNil at h2
  split at h2<;>try simp only[Option.some.injEq,Prod.mk.injEq,reduceCtorEq,Bool.false_eq_true,false_and,true_and]at h2
  all_goals first
   |(subst h2;simp only[VRel]at hy;subst hy;simp;done)
   |(split at h2<;>simp at h2;done)
   |(exfalso;simp at h2;done)
 have hxn:(b=true/\cx= .pointer none/\kd=1)\/(b=false/\kd=1/\∃a,cx= .pointer (some a))\/(b=true/\cx= .slice none 0 0/\kd=2)\/(b=false/\kd=2/\∃a n m,cx= .slice (some a) n m)\/
   (b=true/\cx= .map none/\kd=3)\/(b=false/\kd=3/\∃a,cx= .map (some a))\/(b=true/\cx= .nilFunc/\kd=4)\/(b=false/\kd=4/\∃f u v,cx= .func f u v)\/
   (b=true/\cx= .nilIface/\kd=5)\/(b=false/\kd=5/\∃u v,cx= .iface u v):=by
  unfold isNil at h1
  split at h1<;>try simp only[Option.some.injEq,Prod.mk.injEq,reduceCtorEq]at h1
  all_goals try (split at h1)
  all_goals try (simp only[Option.some.injEq,Prod.mk.injEq,reduceCtorEq]at h1)
  all_goals try (cases h1;done)
  all_goals
   obtain⟨rfl,rfl⟩:=h1
   simp only[VRel]at hx
  ·subst hx;simp
  ·grind
  ·grind
  ·subst hx;simp
  ·grind
  ·grind
  ·grind
  ·subst hx;simp
  ·grind
  ·grind
  ·subst hx;simp
  ·grind
  ·grind
  ·subst hx;simp
  ·grind
  ·grind
  ·obtain ⟨⟨cb, C, fr, h1 | ⟨_, l, k, rfl⟩, _⟩ | ⟨hn1, _, _, _, rfl, hn2⟩, hx⟩ := hx
   ·simp_all
   ·simp
   ·rcases hx with ⟨hp, rfl, rfl, h1⟩ | ⟨cb, base, o, cap, C, e', fr, hp, h1, hlc⟩
    ·cases h1;omega
    ·cases h1;simp
 rcases hyn with⟨rfl,rfl⟩|⟨rfl,rfl⟩|⟨rfl,rfl⟩|⟨rfl,rfl⟩|⟨rfl,rfl⟩<;>simp only[Nat.reduceEqDiff,and_false,false_and,or_false,false_or,and_true,true_and,reduceCtorEq]at hxn<;>
  (split at ht<;>first|(simp at ht;done)|skip)<;>rename_i hu<;>
  rcases hxn with⟨rfl,rfl⟩|⟨rfl,hh⟩
 ·exact⟨fun d=>by simp[Op.equalIn,run_underlying hu],rfl,rfl,fun{op ox cv}=>by cases op<;>rfl⟩
 ·obtain ⟨_, rfl⟩ := hh
  exact⟨fun d=>by simp[Op.equalIn,run_underlying hu],rfl,rfl,fun{op ox cv}=>by cases op<;>rfl⟩
 ·exact⟨fun d=>by simp[Op.equalIn,run_underlying hu],rfl,rfl,fun{op ox cv}=>by cases op<;>rfl⟩
 ·obtain ⟨_, _, _, rfl⟩ := hh
  exact⟨fun d=>by simp[Op.equalIn,run_underlying hu],rfl,rfl,fun{op ox cv}=>by cases op<;>rfl⟩
 ·exact⟨fun d=>by simp[Op.equalIn,run_underlying hu],rfl,rfl,fun{op ox cv}=>by cases op<;>rfl⟩
 ·obtain ⟨_, rfl⟩ := hh
  exact⟨fun d=>by simp[Op.equalIn,run_underlying hu],rfl,rfl,fun{op ox cv}=>by cases op<;>rfl⟩
 ·exact⟨fun d=>by simp[Op.equalIn,run_underlying hu],rfl,rfl,fun{op ox cv}=>by cases op<;>rfl⟩
 ·obtain ⟨_, _, _, rfl⟩ := hh
  exact⟨fun d=>by simp[Op.equalIn,run_underlying hu],rfl,rfl,fun{op ox cv}=>by cases op<;>rfl⟩
 ·exact⟨fun d=>by simp[Op.equalIn,run_underlying hu],rfl,rfl,fun{op ox cv}=>by cases op<;>cases ox<;>rfl⟩
 ·obtain ⟨_, _, rfl⟩ := hh
  exact⟨fun d=>by simp[Op.equalIn,run_underlying hu],rfl,rfl,fun{op ox cv}=>by cases op<;>rfl⟩
theorem Qj0 {k:EqK} {op:BinOp} {neg:Bool} {t:TypeId} {ox oy:Operand} {x y v:AV} {cx cy:Value} (hop:op=if neg then .neq else .eql) (hx:VRel c w x cx) (hy:VRel c w y cy)
  (ht:eqT P t k=true) (hc:(∀kind,k= .nil kind->∃v,oy= .const v)) (hm:aEq k neg x y=some v):
  Pure P c w (do eqGuard op t ox oy cx cy;binOp op t cx cy) v:=by
 unfold aEq at hm
 cases k with
 | flat row ks =>
  cases row with
  | true =>
   cases x<;>try (simp at hm;done)
   cases y<;>try (simp at hm;done)
   rename_i xs ys
   simp only at hm
   split at hm
   ·rename_i b hb
    cases hm
    simp only[VRel]at hx hy
    obtain⟨us,rfl,hx⟩:=hx
    obtain⟨vs,rfl,hy⟩:=hy
    simp only[eqT,Bool.and_eq_true,Bool.not_eq_true']at ht
    obtain⟨⟨hr,hg⟩,hk⟩:=ht
    split at hk
    ·rename_i ks' hks
     have:=lk_eq hk
     subst this
     have h1:=eqRun (P:=P) (c:=c) (w:=w) 40 t ks hks xs ys us.toList vs.toList b hx hy hb 10000 (by omega)
     simp only[hr,asVal,if_true,Array.toArray_toList]at h1
     subst hop
     cases neg
     ·exact⟨_,by simp[run_eqGuard_agg,hg,run_eql_struct,h1];rfl,by simp[VRel,Qrj]⟩
     ·exact⟨_,by simp[run_eqGuard_agg,hg,run_neq_struct,h1];rfl,by simp[VRel,Qrk]⟩
    ·simp at hk
   ·cases hm
  | false =>
   cases x<;>try (simp at hm;done)
   cases y<;>try (simp at hm;done)
   rename_i a b
   simp only[Option.some.injEq]at hm
   subst hm
   simp only[VRel]at hx hy
   subst hx;subst hy
   simp only[eqT]at ht
   split at ht
   ·rename_i hu
    have:=QnP (P:=P) (w:=w) (t:=t) (x:= .bool a) (y:= .bool b) (b:=(a==b)) hop rfl rfl (fun d=>run_equalIn_bool' w d t a b hu)
    refine⟨.bool ((a==b) !=neg),?_,?_⟩
    ·simp_all [eqGuard]
    grind [VRel]
   ·cases ht
 | nil kind =>
  obtain⟨cv,rfl⟩:=hc kind rfl
  simp only at hm
  split at hm
  ·rename_i b k1 k2 h1 h2
   split at hm
   ·rename_i hk
    cases hm
    simp only[eqT,beq_iff_eq]at ht
    obtain⟨e0,e1,e2,e3⟩:=Qrl (P:=P) (w:=w) (t:=t) (by rw[hk.1]at h1;exact h1) (by simp_all) hx hy ht
    refine⟨.bool (b !=neg),?_,by simp[VRel]⟩
    rw[Sem.run_bind,e3]
    exact QnP hop e1 e2 e0
   ·cases hm
  ·cases hm
end Go.AM
namespace Go.AM
variable {P:Program} {ok:Okc} {c:Ctx ok} {w:World} {h:Heap}
def ORel (c:Ctx ok) (w:World):Option AV->Option Value->Prop
 |none,none=>True
 |some x,some v=>VRel c w x v
 |_,_=>False
theorem QbN {k:IntKind} {i:Int} {y:Nat} {code:BoundsCode} (h0:0<=i) (h1:i<=y):(Instr.sliceBound (.int k i) y code).run P w= .ok i.toNat w:=by
 simp[Instr.sliceBound,asIntOf,h0,h1]
theorem Qdn {l:Option AV} {cl:Option Value} {lw:Int} (hl:ORel c w l cl) (d:Int) (el:bnd d l=some lw):
  cl=none/\lw=d\/∃k,cl=some (.int k lw):=by
 cases l with
 |none=>
  cases cl with
  |none=>cases el;exact .inl ⟨rfl,rfl⟩
  |some v=>simp[ORel]at hl
 |some x=>
  cases x<;>simp only[bnd,reduceCtorEq,Option.some.injEq]at el
  cases cl with
  |none=>simp[ORel]at hl
  |some v=>simp only[ORel,VRel]at hl;subst el;exact .inr ⟨_,by rw[hl]⟩
theorem QbW {isSlice:Bool} {len cap:Nat} {l h:Option AV} {cl ch:Option Value} {lw hh:Int} (hl:ORel c w l cl) (hh':ORel c w h ch)
    (el:bnd 0 l=some lw) (eh:bnd len h=some hh)
    (h0:0<=lw) (h1:lw<=hh) (h2:hh<=cap):(Instr.sliceBounds isSlice len cap cl ch none).run P w= .ok (lw.toNat,hh.toNat,cap) w:=by
  have hcl:=Qdn hl 0 el
  have hch:=Qdn hh' len eh
  rcases hcl with⟨rfl,rfl⟩|⟨k1,rfl⟩<;>rcases hch with⟨rfl,rfl⟩|⟨k2,rfl⟩
  · simp[Instr.sliceBounds]
  · simp_all [Instr.sliceBounds,QbN]
  · simp_all [QbN,Instr.sliceBounds]
  · have e1 : ((hh.toNat : Nat) : Int) = hh := by omega
    have:=QbN (P:=P) (w:=w) (k:=k1) (y:=hh.toNat) (code:= .sliceB) h0 (by omega)
    simp[Instr.sliceBounds,QbN (P:=P) (w:=w) (by omega:0<=hh) h2,this]
def sliceT (P:Program) (t:TypeId) (sz:Option Nat):Bool:=
 match P.underlying t,sz with
 |some (.slice e),some n=>(match P.info? e with|some i=>i.size==n|none=>false)
 |some .string,none=>true
 |_,_=>false
theorem QcF {t : TypeId} {sz : Option Nat} {x v : AV} {l hi mx : Option AV} {cx : Value} {cl ch cm : Option Value} (hx : VRel c w x cx) (hl : ORel c w l cl) (hh : ORel c w hi ch) (hmx : ORel c w mx cm)
    (ht:sliceT P t sz=true) (hsz:∀b g off len s,x= .sl b g off len s->sz=some s) (hsz2:∀cs len s,x= .fsl cs len s->sz=some s) (hst:(∃s,x= .str s)->sz=none) (hns:(∃s,x= .str s)\/sz≠none)
    (hm:aSlice x l hi mx=some v):Pure P c w (Instr.sliceAt t cx cl ch cm) v:=by
  unfold aSlice at hm
  simp only at hm
  split at hm
  · cases hm
  · rename_i lw el
    have hslice:sz≠none->∃e i n,P.underlying t=some (.slice e)/\P.info? e=some i/\sz=some n/\i.size=n:=by
      intro hne
      unfold sliceT at ht
      grind
    cases mx with
    | some m =>
      cases m<;>simp only[reduceCtorEq]at hm
      rename_i km mm
      cases cm with
      |none=>simp[ORel]at hmx
      | some cmv =>
        simp only[ORel,VRel]at hmx
        subst hmx
        cases hi with
        |none=>simp at hm
        | some hv =>
          cases hv<;>simp only[reduceCtorEq]at hm
          rename_i kh hhv
          cases ch with
          |none=>simp[ORel]at hh
          | some chv =>
            simp only[ORel,VRel]at hh
            subst hh
            split at hm
            · rename_i hcond
              obtain⟨rfl,rfl,rfl⟩:=hcond
              have hbs:∀len cap,(Instr.sliceBounds true len cap cl (some (.int kh 0)) (some (.int km 0))).run P w= .ok (0,0,0) w:=by
                intro len cap
                have b1:=QbN (P:=P) (w:=w) (k:=km) (i:=0) (y:=cap) (code:= .slice3Acap) (by omega) (by omega)
                have b2:=QbN (P:=P) (w:=w) (k:=kh) (i:=0) (y:=0) (code:= .slice3B) (by omega) (by omega)
                rcases Qdn hl 0 el with⟨rfl,_⟩|⟨k1,rfl⟩
                · simp[Instr.sliceBounds,b1,b2]
                simp_all [QbN,Instr.sliceBounds]
              cases x<;>simp only[reduceCtorEq,Option.some.injEq]at hm
              all_goals
                subst hm
                obtain⟨e,i,n,hu,hi',hn,hin⟩:=hslice (hns.resolve_left (by simp))
                simp only[VRel]at hx
              · subst hx
                exact⟨.slice none 0 0,by simp_all [Instr.sliceAt,Instr.slice,run_underlying,QaJ],by simp[VRel]⟩
              · rcases hx with ⟨hp, rfl, rfl, rfl⟩ | ⟨cb, base, o, cap, C, e', fr, hp, rfl, hlc, hC, hcap⟩
                · exact⟨.slice none 0 0,by simp_all [Instr.sliceAt,Instr.slice,run_underlying,QaJ],by simp[VRel]⟩
                · exact⟨.slice (some ⟨cb,o,none⟩) 0 0,by simp_all [Instr.sliceAt,Instr.slice,run_underlying,QaJ],by simp[VRel]⟩
              · rcases hx with ⟨⟨a0, rfl⟩, rfl, rfl⟩ | ⟨cb, off, cap, C, e', fr, rfl, hlc, hlen, hF, hC, hpre⟩
                · exact⟨.slice a0 0 0,by simp_all [Instr.sliceAt,Instr.slice,run_underlying,QaJ],by simp[VRel]⟩
                · exact⟨.slice (some ⟨cb,off,none⟩) 0 0,by simp_all [Instr.sliceAt,Instr.slice,run_underlying,QaJ],by simp[VRel]⟩
              · obtain ⟨a, rfl⟩ := hx
                exact⟨.slice a 0 0,by simp_all [Instr.sliceAt,Instr.slice,run_underlying,QaJ],by simp[VRel]⟩
            · rename_i hne0
              have hbs:∀(len cap:Nat),0<=lw->lw<=hhv->hhv<=mm->mm<=cap->(Instr.sliceBounds true len cap cl (some (.int kh hhv)) (some (.int km mm))).run P w= .ok (lw.toNat,hhv.toNat,mm.toNat) w:=by
                intro len cap q1 q2 q3 q4
                have b1:=QbN (P:=P) (w:=w) (k:=km) (i:=mm) (y:=cap) (code:= .slice3Acap) (by omega) (by omega)
                have b2:=QbN (P:=P) (w:=w) (k:=kh) (i:=hhv) (y:=mm.toNat) (code:= .slice3B) (by omega) (by omega)
                rcases Qdn hl 0 el with⟨rfl,e0⟩|⟨k1,rfl⟩
                · simp_all [Instr.sliceBounds]
                · have b3 := QbN (P := P) (w := w) (k := k1) (i := lw) (y := hhv.toNat) (code := .slice3C) (by omega) (by omega)
                  simp_all [Instr.sliceBounds]
              cases x<;>simp only[reduceCtorEq]at hm
              case sl b g off len s =>
                split at hm
                · rename_i hcond
                  obtain⟨h0,h1,h2,h3⟩:=hcond
                  cases hm
                  obtain⟨e,i,n,hu,hi',hn,hin⟩:=hslice (by simp_all)
                  have:=hsz _ _ _ _ _ rfl
                  rw[hn]at this;cases this
                  subst hin
                  simp only[VRel]at hx
                  rcases hx with⟨hp,rfl,rfl,rfl⟩|⟨cb,base,o,cap,C,e',fr,hp,rfl,hlc,hC,hcap⟩
                  · omega
                  · have hb := hbs len cap h0 h1 h2 (by omega)
                    refine⟨.slice (if mm.toNat=lw.toNat then some ⟨cb,o,none⟩else some (Addr.add ⟨cb,o,none⟩ (lw.toNat*i.size))) (hhv.toNat-lw.toNat) (mm.toNat-lw.toNat),?_,?_⟩
                    · simp_all [Instr.sliceAt,Instr.slice,run_underlying,QaJ]
                    · simp only [VRel]
                      refine .inr ?_
                      by_cases hc:mm.toNat=lw.toNat
                      · rw [if_pos hc]
                        grind
                      · rw [if_neg hc, QbQ]
                        have hc0:cap≠0:=by omega
                        obtain⟨rfl,hbd⟩:=hcap.resolve_left hc0
                        refine⟨cb,base,_,mm.toNat-lw.toNat,C,e',fr,hp,rfl,by omega,hC,.inr ⟨by omega,?_⟩⟩
                        have q1:lw.toNat*i.size+(mm.toNat-lw.toNat)*i.size=mm.toNat*i.size:=by
                          rw[<-Nat.add_mul];congr 1;omega
                        have q2:mm.toNat*i.size<=cap*i.size:=Nat.mul_le_mul_right _ (by omega)
                        omega
                · cases hm
              case fsl cs len s=>
                split at hm
                · rename_i hcond
                  obtain⟨h0,h1,h2,h3⟩:=hcond
                  cases hm
                  obtain⟨e,i,n,hu,hi',hn,hin⟩:=hslice (by simp_all)
                  have:=hsz2 _ _ _ rfl
                  rw[hn]at this;cases this
                  subst hin
                  simp only[VRel]at hx
                  rcases hx with⟨⟨a0,rfl⟩,rfl,rfl⟩|⟨cb,off,cap,C,e',fr,rfl,hlc,hlen,hF,hC,hpre⟩
                  · omega
                  · have hb := hbs len cap h0 h1 h2 (by omega)
                    have a1:lw.toNat*i.size+(hhv.toNat-lw.toNat)*i.size=hhv.toNat*i.size:=by rw[<-Nat.add_mul];congr 1;omega
                    have a2:hhv.toNat*i.size<=len*i.size:=Nat.mul_le_mul_right _ (by omega)
                    refine⟨.slice (if mm.toNat=lw.toNat then some ⟨cb,off,none⟩else some (Addr.add ⟨cb,off,none⟩ (lw.toNat*i.size))) (hhv.toNat-lw.toNat) (mm.toNat-lw.toNat),?_,?_⟩
                    · simp_all [Instr.sliceAt,Instr.slice,run_underlying,QaJ]
                    · simp only [VRel]
                      refine .inr ?_
                      by_cases hc:mm.toNat=lw.toNat
                      · rw [if_pos hc]
                        have e3:hhv.toNat-lw.toNat=0:=by omega
                        exact⟨cb,off,mm.toNat-lw.toNat,C,e',fr,rfl,by omega,by simp[e3],hF,hC,by simp[e3,VPre]⟩
                      · rw [if_neg hc, QbQ]
                        refine⟨cb,_,mm.toNat-lw.toNat,C,e',fr,rfl,by omega,by simp;omega,hF,hC,?_⟩
                        have:=Qb6 ((hhv.toNat-lw.toNat)*i.size) (Qbi (lw.toNat*i.size) hpre)
                        simp_all
                · cases hm
    | none =>
      have hcm:cm=none:=by grind [ORel]
      subst hcm
      simp only at hm
      cases x<;>simp only at hm<;>try (cases hm;done)
      case sl b g off len s =>
        obtain⟨e,i,n,hu,hi',hn,hin⟩:=hslice (by simp_all)
        have:=hsz _ _ _ _ _ rfl
        rw[hn]at this;cases this
        subst hin
        split at hm
        · cases hm
        · rename_i hhv eh
          split at hm
          · rename_i hcond
            obtain⟨h0,h1,h2,_⟩:=hcond
            cases hm
            simp only[VRel]at hx
            rcases hx with⟨hp,rfl,rfl,rfl⟩|⟨cb,base,o,cap,C,e',fr,hp,rfl,hlc,hC,hcap⟩
            · have hb := QbW (P := P) (w := w) (isSlice := true) (cap := 0) hl hh el eh h0 h1 (by omega)
              have e1:lw=0:=by omega
              have e2:hhv=0:=by omega
              subst e1;subst e2
              refine⟨.slice none 0 0,?_,by simp_all [VRel]⟩
              simp_all [Instr.sliceAt,Instr.slice,run_underlying,QaJ]
            · have hb := QbW (P := P) (w := w) (isSlice := true) (cap := cap) hl hh el eh h0 h1 (by omega)
              refine⟨.slice (if cap=lw.toNat then some ⟨cb,o,none⟩else some (Addr.add ⟨cb,o,none⟩ (lw.toNat*i.size))) (hhv.toNat-lw.toNat) (cap-lw.toNat),?_,?_⟩
              · simp_all [Instr.sliceAt,Instr.slice,run_underlying,QaJ]
              · simp only [VRel]
                refine .inr ?_
                by_cases hc:cap=lw.toNat
                · rw [if_pos hc]
                  grind
                · rw [if_neg hc, QbQ]
                  have hc0:cap≠0:=by omega
                  obtain⟨rfl,hbd⟩:=hcap.resolve_left hc0
                  refine⟨cb,base,_,cap-lw.toNat,C,e',fr,hp,rfl,by omega,hC,.inr ⟨by omega,?_⟩⟩
                  have:cap*i.size=lw.toNat*i.size+(cap-lw.toNat)*i.size:=by
                    rw[<-Nat.add_mul];congr 1;omega
                  omega
          · cases hm
      case fsl cs len s =>
        obtain⟨e,i,n,hu,hi',hn,hin⟩:=hslice (by simp_all)
        have:=hsz2 _ _ _ rfl
        rw[hn]at this;cases this
        subst hin
        split at hm
        · cases hm
        · rename_i hhv eh
          split at hm
          · rename_i hcond
            obtain⟨h0,h1,h2⟩:=hcond
            cases hm
            simp only[VRel]at hx
            rcases hx with⟨⟨a0,rfl⟩,rfl,rfl⟩|⟨cb,off,cap,C,e',fr,rfl,hlc,hlen,hF,hC,hpre⟩
            · have hb := QbW (P := P) (w := w) (isSlice := true) (cap := 0) hl hh el eh h0 h1 (by omega)
              have e1:lw=0:=by omega
              have e2:hhv=0:=by omega
              subst e1;subst e2
              refine⟨.slice a0 0 0,?_,by simp_all [VRel]⟩
              simp_all [Instr.sliceAt,Instr.slice,run_underlying,QaJ]
            · have hb := QbW (P := P) (w := w) (isSlice := true) (cap := cap) hl hh el eh h0 h1 (by omega)
              have a1:lw.toNat*i.size+(hhv.toNat-lw.toNat)*i.size=hhv.toNat*i.size:=by rw[<-Nat.add_mul];congr 1;omega
              have a2:hhv.toNat*i.size<=len*i.size:=Nat.mul_le_mul_right _ (by omega)
              refine⟨.slice (if cap=lw.toNat then some ⟨cb,off,none⟩else some (Addr.add ⟨cb,off,none⟩ (lw.toNat*i.size))) (hhv.toNat-lw.toNat) (cap-lw.toNat),?_,?_⟩
              · simp_all [Instr.sliceAt,Instr.slice,run_underlying,QaJ]
              · simp only [VRel]
                refine .inr ?_
                by_cases hc:cap=lw.toNat
                · rw [if_pos hc]
                  have e3:hhv.toNat-lw.toNat=0:=by omega
                  exact⟨cb,off,cap-lw.toNat,C,e',fr,rfl,by omega,by simp[e3],hF,hC,by simp[e3,VPre]⟩
                · rw [if_neg hc, QbQ]
                  refine⟨cb,_,cap-lw.toNat,C,e',fr,rfl,by omega,by simp;omega,hF,hC,?_⟩
                  have:=Qb6 ((hhv.toNat-lw.toNat)*i.size) (Qbi (lw.toNat*i.size) hpre)
                  simp_all
          · cases hm
      case nilsl=>
        simp only[VRel]at hx
        subst hx
        obtain⟨e,i,n,hu,hi',hn,hin⟩:=hslice (hns.resolve_left (by simp))
        split at hm
        · cases hm
        · rename_i hhv eh
          split at hm
          · rename_i hcond
            obtain⟨rfl,rfl⟩:=hcond
            cases hm
            have hb:=QbW (P:=P) (w:=w) (isSlice:=true) (len:=0) (cap:=0) hl hh el eh (by omega) (by omega) (by omega)
            refine⟨.slice none 0 0,?_,by simp[VRel]⟩
            simp_all [Instr.sliceAt,Instr.slice,run_underlying,QaJ]
          · cases hm
      case esl=>
        simp only[VRel]at hx
        obtain⟨a,rfl⟩:=hx
        obtain⟨e,i,n,hu,hi',hn,hin⟩:=hslice (hns.resolve_left (by simp))
        split at hm
        · cases hm
        · rename_i hhv eh
          split at hm
          · rename_i hcond
            obtain⟨rfl,rfl⟩:=hcond
            cases hm
            have hb:=QbW (P:=P) (w:=w) (isSlice:=true) (len:=0) (cap:=0) hl hh el eh (by omega) (by omega) (by omega)
            refine⟨.slice a 0 0,?_,by simp[VRel]⟩
            simp_all [Instr.sliceAt,Instr.slice,run_underlying,QaJ]
          · cases hm
      case str s=>
        simp only[VRel]at hx
        subst hx
        have hu:P.underlying t=some .string:=by
          unfold sliceT at ht
          grind
        split at hm
        · cases hm
        · rename_i hhv eh
          split at hm
          · rename_i hcond
            obtain⟨h0,h1,h2⟩:=hcond
            cases hm
            have hsize:(ByteArray.mk s.toArray).size=s.length:=by simp[ByteArray.size]
            have hb:=QbW (P:=P) (w:=w) (isSlice:=false) (len:=s.length) (cap:=s.length) hl hh el eh h0 h1 h2
            refine⟨.string ((ByteArray.mk s.toArray).extract lw.toNat hhv.toNat),?_,?_⟩
            · simp_all [Instr.sliceAt,Instr.slice,run_underlying]
            simp_all [VRel,ByteArray.extract,ByteArray.copySlice]
          · cases hm
def fieldT (P:Program) (s:TypeId) (field off:Nat) (n:Option Nat):Bool:=
 match P.underlying s with
 |some (.struct fs)=>(match fs[field]? with
  |some f=>f.offset==off&&rowT P f.type n
  |none=>false)
 |_=>false
theorem QlN {s:TypeId} {field off:Nat} {n:Option Nat} {x v:AV} {cx:Value} (hx:VRel c w x cx) (ht:fieldT P s field off n=true) (hm:aField n off x=some v):
  Pure P c w (Instr.field s cx field) v:=by
 unfold aField at hm
 cases x<;>simp only[reduceCtorEq]at hm
 rename_i cs
 simp only[VRel]at hx
 obtain⟨vs,rfl,hx⟩:=hx
 unfold fieldT at ht
 split at ht
 ·rename_i fs hu
  split at ht
  ·rename_i f hf
   simp only[Bool.and_eq_true,beq_iff_eq]at ht
   obtain⟨rfl,hr⟩:=ht
   have hlen:=QaC hx
   simp at hlen
   cases n with
   |none=>
    simp only at hm
    obtain⟨cv,h1,h2⟩:=Qcp f.offset hx hm
    rw[Array.getElem?_toList]at h1
    exact⟨cv,by simp_all [Instr.field,run_underlying,part,QcN,asAgg],h2⟩
   | some n =>
    simp only at hm
    split at hm
    ·rename_i hl
     cases hm
     obtain⟨t1,t2⟩:=QcO hr w
     refine⟨.agg (vs.extract f.offset (f.offset+n)),by simp_all [Instr.field,run_underlying,part,asAgg],?_⟩
     simp only[VRel]
     refine⟨_,rfl,?_⟩
     simp_all [QaF,Qa0]
    ·cases hm
  ·cases ht
 ·cases ht
theorem Qj1 {t : TypeId} {sz : Nat} {x v : AV} {l hi : Option AV} {cx : Value} {cl ch : Option Value} (hx : VRel c w x cx) (hl : ORel c w l cl) (hh : ORel c w hi ch)
    (ht:sliceT P t (some sz)=true) (hm:aSliceK sz x l hi=some v):Pure P c w (Instr.sliceAt t cx cl ch none) v:=by
  obtain⟨e,i,hu,hi',hin⟩:∃e i,P.underlying t=some (.slice e)/\P.info? e=some i/\i.size=sz:=by
    unfold sliceT at ht
    grind
  subst hin
  have core:∀{b g off len m:Nat} {lw hv:Int},VRel c w (.sl b g off len i.size) cx->(∀a k,cx= .slice a len k->m<=k)->bnd 0 l=some lw->bnd len hi=some hv->0<=lw->lw<=hv->hv<=m->lw<m->
      Pure P c w (Instr.sliceAt t cx cl ch none) (.typed 0 (m-lw.toNat+1) (.sl b g (off+lw.toNat*i.size) (hv.toNat-lw.toNat) i.size)):=by
    intro b g off len m lw hv hx hk el eh h0 h1 h2 h3
    simp only[VRel]at hx
    rcases hx with⟨hp,rfl,rfl,rfl⟩|⟨cb,base,o,cap,C,e',fr,hp,rfl,hlc,hC,hcap⟩
    · have := hk _ _ rfl
      omega
    · have hmk := hk _ _ rfl
      have hb:=QbW (P:=P) (w:=w) (isSlice:=true) (cap:=cap) hl hh el eh h0 h1 (by omega)
      refine⟨.slice (if cap=lw.toNat then some ⟨cb,o,none⟩else some (Addr.add ⟨cb,o,none⟩ (lw.toNat*i.size))) (hv.toNat-lw.toNat) (cap-lw.toNat),?_,?_⟩
      · simp_all [Instr.sliceAt,Instr.slice,run_underlying,QaJ]
      · have hc : cap ≠ lw.toNat := by omega
        rw[if_neg hc,QbQ]
        simp only[VRel]
        obtain⟨rfl,hbd⟩:=hcap.resolve_left (by omega)
        refine⟨.inr ⟨by omega,_,_,_,rfl,by omega⟩,.inr ⟨cb,base,_,cap-lw.toNat,C,e',fr,hp,rfl,by omega,hC,.inr ⟨by omega,?_⟩⟩⟩
        have:cap*i.size=lw.toNat*i.size+(cap-lw.toNat)*i.size:=by
          rw[<-Nat.add_mul];congr 1;omega
        omega
  unfold aSliceK at hm
  split at hm
  · rename_i b g off len s
    split at hm
    · rename_i lw hv el eh
      split at hm
      · rename_i hc
        obtain⟨rfl,h0,h1,h2,h3⟩:=hc
        cases hm
        refine core hx (fun a k e=>?_) el eh h0 h1 h2 h3
        subst e
        simp only[VRel]at hx
        rcases hx with⟨_,_,_,e⟩|⟨_,_,_,_,_,_,_,_,e,h,_⟩
        · cases e;omega
        · cases e;exact h
      · cases hm
    · cases hm
  · rename_i tt m b g off len s
    split at hm
    · rename_i lw hv el eh
      split at hm
      · rename_i hc
        obtain⟨rfl,h0,h1,h2,h3⟩:=hc
        cases hm
        simp only[VRel]at hx
        obtain⟨hty,hx⟩:=hx
        refine core (by simpa only[VRel]using hx) (fun a k e=>?_) el eh h0 h1 h2 h3
        subst e
        exact hty.room
      · cases hm
    · cases hm
  · cases hm
def faddrT (P:Program) (s:TypeId) (field off:Nat):Bool:=
 match P.underlying s with
 |some (.struct fs)=>(match fs[field]? with
  |some f=>f.offset==off&&(match P.info? f.type with|some i=>i.size !=0|none=>false)
  |none=>false)
 |_=>false
theorem QlO {s:TypeId} {field off:Nat} {x v:AV} {cx:Value} (hx:VRel c w x cx) (ht:faddrT P s field off=true) (hm:aFAddr off x=some v):
  Pure P c w (Instr.fieldAt s cx field) v:=by
 unfold faddrT at ht
 split at ht
 ·rename_i fs hu
  split at ht
  ·rename_i f hf
   simp only[Bool.and_eq_true,beq_iff_eq]at ht
   obtain⟨rfl,hr⟩:=ht
   split at hr
   ·rename_i i hi
    have hsz:∀w,(sizeOf f.type).run P w= .ok i.size w:=QaJ hi
    have hne:i.size≠0:=by simpa using hr
    have hxx:∃y,VRel c w y cx/\aFAddr f.offset y=some v/\∀t n z,y≠ .typed t n z:=by
     cases x with
     |typed t n y=>
      simp only[VRel]at hx
      cases y<;>simp only[aFAddr,reduceCtorEq]at hm
      exact⟨_,hx.2,hm,fun _ _ _=>by simp⟩
     |_=>exact⟨_,hx,hm,fun _ _ _=>by simp⟩
    clear hx hm
    obtain⟨x,hx,hm,hnt⟩:=hxx
    cases x<;>simp only[aFAddr,reduceCtorEq,Option.some.injEq]at hm<;>try (subst hm;simp only[VRel]at hx)
    rotate_right
    ·simp_all
    ·obtain ⟨cb, base, hp, rfl⟩ := hx
     exact⟨_,by simp[Instr.fieldAt,run_underlying hu,hf,Instr.sureAddr,fieldPlace,hsz,hne];rfl,by simp_all [VRel,QbQ,Nat.add_assoc]⟩
    ·obtain ⟨cb, o, C, e, fr, rfl, hF, hC, hpre⟩ := hx
     refine⟨_,by simp[Instr.fieldAt,run_underlying hu,hf,Instr.sureAddr,fieldPlace,hsz,hne];rfl,?_⟩
     simp only[VRel,QbQ]
     refine⟨cb,_,C,e,fr,rfl,hF,hC,?_⟩
     have:=Qbi f.offset hpre
     simp_all
   ·cases hr
  ·cases ht
 ·cases ht
def iaddrT (P:Program) (t:TypeId) (arr:Option Nat) (sz:Nat):Bool:=
 match P.underlying t,arr with
 |some (.array n e),some m=>n==m&&(match P.info? e with|some i=>i.size==sz|none=>false)
 |some (.slice e),none=>(match P.info? e with|some i=>i.size==sz|none=>false)
 |_,_=>false
theorem QlP {t : TypeId} {arr : Option Nat} {sz : Nat} {x i v : AV} {cx ci : Value} (hx : VRel c w x cx) (hi : VRel c w i ci) (ht : iaddrT P t arr sz = true) (hm : aIAddr arr sz x i = some v) :
    Pure P c w (Instr.indexAt t cx ci) v:=by
  unfold aIAddr at hm
  cases i<;>simp only[reduceCtorEq]at hm
  rename_i k i
  simp only[VRel]at hi
  subst hi
  unfold iaddrT at ht
  split at ht
  · rename_i n e m hu
    simp only[Bool.and_eq_true,beq_iff_eq]at ht
    obtain⟨rfl,ht⟩:=ht
    split at ht
    · rename_i ti hti
      have hsz:=QaJ hti w
      have e1:ti.size=sz:=by simpa using ht
      subst e1
      cases x<;>simp only[reduceCtorEq]at hm
      · split at hm
        · rename_i hc
          cases hm
          simp only[VRel]at hx
          obtain⟨cb,base,hp,rfl⟩:=hx
          refine⟨_,by simp[Instr.indexAt,asIntOf,run_underlying hu,Instr.sureAddr,hc,hsz];rfl,?_⟩
          simp_all [VRel,QbQ,Nat.add_assoc]
        · cases hm
      · split at hm
        · rename_i hc
          cases hm
          simp only[VRel]at hx
          obtain⟨cb,o,C,e',fr,rfl,hF,hC,hpre⟩:=hx
          refine⟨_,by simp[Instr.indexAt,asIntOf,run_underlying hu,Instr.sureAddr,hc,hsz];rfl,?_⟩
          simp only[VRel,QbQ]
          refine⟨cb,_,C,e',fr,rfl,hF,hC,?_⟩
          have:=Qbi (i.toNat*ti.size) hpre
          simp_all
        · cases hm
    · cases ht
  · rename_i e hu
    split at ht
    · rename_i ti hti
      have hsz:=QaJ hti w
      have e1:ti.size=sz:=by simpa using ht
      subst e1
      cases x<;>simp only[reduceCtorEq]at hm
      · split at hm
        · rename_i b g off len s hc
          obtain⟨h0,h1,rfl⟩:=hc
          cases hm
          simp only[VRel]at hx
          rcases hx with⟨hp,rfl,_⟩|⟨cb,base,o,cap,C,e',fr,hp,rfl,hlc,hC,hcap⟩
          · omega
          · obtain ⟨rfl, _⟩ := hcap.resolve_left (by omega)
            refine⟨_,by simp[Instr.indexAt,asIntOf,run_underlying hu,h0,h1,hsz];rfl,?_⟩
            simp_all [VRel,QbQ,Nat.add_assoc]
        · cases hm
      · split at hm
        · rename_i cs len s hc
          obtain⟨h0,h1,rfl⟩:=hc
          cases hm
          simp only[VRel]at hx
          rcases hx with⟨⟨a0,rfl⟩,rfl,rfl⟩|⟨cb,off,cap,C,e',fr,rfl,hlc,hlen,hF,hC,hpre⟩
          · omega
          · refine ⟨_, by simp [Instr.indexAt, asIntOf, run_underlying hu, h0, h1, hsz]; rfl, ?_⟩
            simp only[VRel,QbQ]
            refine⟨cb,_,C,e',fr,rfl,hF,hC,?_⟩
            have:=Qbi (i.toNat*ti.size) hpre
            simp_all
        · cases hm
    · cases ht
  · cases ht
def indexT (P:Program) (t:TypeId) (arr:Option (Nat×Nat×Bool)):Bool:=
 match P.underlying t,arr with
 |some (.array n e),some (m,sz,row)=>n==m&&rowT P e (if row then some sz else none)&&(match P.info? e with|some i=>i.size==sz|none=>false)
 |some .string,none=>true
 |_,_=>false
theorem QlQ {t:TypeId} {arr:Option (Nat×Nat×Bool)} {x i v:AV} {cx ci:Value} (hx:VRel c w x cx) (hi:VRel c w i ci) (ht:indexT P t arr=true) (hm:aIndex arr x i=some v):
  Pure P c w (Instr.index t cx ci) v:=by
 unfold aIndex at hm
 cases i<;>simp only[reduceCtorEq]at hm
 rename_i k i
 simp only[VRel]at hi
 subst hi
 unfold indexT at ht
 split at ht
 ·rename_i n e m sz row hu
  simp only[Bool.and_eq_true,beq_iff_eq]at ht
  obtain⟨⟨rfl,hr⟩,ht⟩:=ht
  split at ht
  ·rename_i ti hti
   have hsz:=QaJ hti w
   have e1:ti.size=sz:=by simpa using ht
   subst e1
   cases x<;>simp only[reduceCtorEq]at hm
   rename_i cs
   simp only[VRel]at hx
   obtain⟨vs,rfl,hx⟩:=hx
   split at hm
   ·rename_i hc
    cases row with
    | true =>
     simp only[if_true]at hm hr
     split at hm
     ·rename_i hl
      cases hm
      obtain⟨t1,t2⟩:=QcO hr w
      refine⟨.agg (vs.extract (i.toNat*ti.size) (i.toNat*ti.size+ti.size)),by simp_all [Instr.index,asIntOf,run_underlying,part],?_⟩
      simp only[VRel]
      refine⟨_,rfl,?_⟩
      simp_all [QaF,Qa0]
     ·cases hm
    |false=>
     simp only[Bool.false_eq_true,if_false]at hm hr
     obtain⟨cv,h1,h2⟩:=Qcp _ hx hm
     rw[Array.getElem?_toList]at h1
     exact⟨cv,by simp_all [Instr.index,asIntOf,run_underlying,part,QcN],h2⟩
   ·cases hm
  ·cases ht
 ·rename_i hu
  cases x<;>simp only[reduceCtorEq]at hm
  rename_i s
  simp only[VRel]at hx
  subst hx
  split at hm
  ·rename_i h0
   split at hm
   ·rename_i b hb
    cases hm
    refine⟨.int .u8 b.toNat,?_,by simp[VRel]⟩
    have:(ByteArray.mk s.toArray)[i.toNat]?=some b:=by
     have hlt:i.toNat<s.length:=by
      grind
     rw[getElem?_pos (ByteArray.mk s.toArray) i.toNat (by simp_all [ByteArray.size])]
     rw[List.getElem?_eq_getElem hlt]at hb
     cases hb
     rfl
    simp_all [Instr.index,asIntOf,run_underlying]
   ·cases hm
  ·cases hm
 ·cases ht
def lenT (P:Program) (t:TypeId) (k:Nat):Bool:=
 match P.underlying t with
 |some .string=>k==0
 |some (.slice _)=>k==1
 |some (.map _ _)=>k==2
 |_=>false
def lenKind:AV->Nat
 | .str _=>0
 | .sl .. | .fsl .. | .nilsl| .esl| .nsl=>1
 | .typed _ _ (.sl ..)=>1
 | .nilmap| .map .. | .fmap .. =>2
 |_=>3
theorem QbO:∀{xs:List (AV×AV)} {es:List MapEntry} {clock:Nat},MRel c w xs es clock->xs.length=es.length
 |[],es,_,hh=>by simp_all [MRel]
 |(k,x)::r,es,clock,hh=>by
  simp only[MRel]at hh
  obtain⟨e,es',rfl,_,_,_,_,h6⟩:=hh
  simp[QbO h6]
theorem QnQ {t ty:TypeId} {x v:AV} {cx:Value} {h':Heap} (H:HRel c h w) (hx:VRel c w x cx) (ht:lenT P t (lenKind x)=true) (hm:(aLen x).run h=some (v,h')):
  Sound P c w (Builtin.len_ #[t] ty #[cx]) v h':=by
 have t0:lenT P t 0=true->P.underlying t=some .string:=by
  grind [lenT]
 have t1:lenT P t 1=true->∃e,P.underlying t=some (.slice e):=by
  unfold lenT;grind
 have t2:lenT P t 2=true->∃k e,P.underlying t=some (.map k e):=by
  unfold lenT;grind
 cases x<;>simp only[aLen]at hm<;>try (cases hm;done)
 case str s=>
  simp only[HM.run,Option.some.injEq,Prod.mk.injEq]at hm
  obtain⟨rfl,rfl⟩:=hm
  simp only[VRel]at hx;subst hx
  have hu:=t0 ht
  have hs:(ByteArray.mk s.toArray).size=s.length:=by simp[ByteArray.size]
  exact .here H (cv:=goInt s.length) (by simp[Builtin.len_,run_underlying hu,hs]) (by simp[VRel,goInt])
 case sl b g off len sz=>
  simp only[HM.run,Option.some.injEq,Prod.mk.injEq]at hm
  obtain⟨rfl,rfl⟩:=hm
  obtain⟨e,hu⟩:=t1 ht
  simp only[VRel]at hx
  rcases hx with⟨hp,rfl,rfl,rfl⟩|⟨cb,base,o,cap,C,e',fr,hp,rfl,hlc,hC,hcap⟩
  ·exact .here H (cv:=goInt 0) (by simp[Builtin.len_,run_underlying hu]) (by simp[VRel,goInt])
  ·exact .here H (cv:=goInt len) (by simp[Builtin.len_,run_underlying hu]) (by simp[VRel,goInt])
 case typed tt nn y=>
  cases y<;>simp only[aLen]at hm<;>try (cases hm;done)
  rename_i b g off len sz
  simp only[HM.run,Option.some.injEq,Prod.mk.injEq]at hm
  obtain⟨rfl,rfl⟩:=hm
  obtain⟨e,hu⟩:=t1 ht
  simp only[VRel]at hx
  rcases hx.2 with⟨hp,rfl,rfl,rfl⟩|⟨cb,base,o,cap,C,e',fr,hp,rfl,hlc,hC,hcap⟩
  ·exact .here H (cv:=goInt 0) (by simp[Builtin.len_,run_underlying hu]) (by simp[VRel,goInt])
  ·exact .here H (cv:=goInt len) (by simp[Builtin.len_,run_underlying hu]) (by simp[VRel,goInt])
 case fsl cs len sz=>
  simp only[HM.run,Option.some.injEq,Prod.mk.injEq]at hm
  obtain⟨rfl,rfl⟩:=hm
  obtain⟨e,hu⟩:=t1 ht
  simp only[VRel]at hx
  rcases hx with⟨⟨a0,rfl⟩,rfl,rfl⟩|⟨cb,off,cap,C,e',fr,rfl,hlc,hlen,hF,hC,hpre⟩
  ·exact .here H (cv:=goInt 0) (by simp[Builtin.len_,run_underlying hu]) (by simp[VRel,goInt])
  ·exact .here H (cv:=goInt len) (by simp[Builtin.len_,run_underlying hu]) (by simp[VRel,goInt])
 case nilsl=>
  simp only[HM.run,Option.some.injEq,Prod.mk.injEq]at hm
  obtain⟨rfl,rfl⟩:=hm
  obtain⟨e,hu⟩:=t1 ht
  simp only[VRel]at hx;subst hx
  exact .here H (cv:=goInt 0) (by simp[Builtin.len_,run_underlying hu]) (by simp[VRel,goInt])
 case esl=>
  simp only[HM.run,Option.some.injEq,Prod.mk.injEq]at hm
  obtain⟨rfl,rfl⟩:=hm
  obtain⟨e,hu⟩:=t1 ht
  simp only[VRel]at hx;obtain⟨a,rfl⟩:=hx
  exact .here H (cv:=goInt 0) (by simp[Builtin.len_,run_underlying hu]) (by simp[VRel,goInt])
 case nsl=>
  simp only[HM.run,Option.some.injEq,Prod.mk.injEq]at hm
  obtain⟨rfl,rfl⟩:=hm
  obtain⟨e,hu⟩:=t1 ht
  simp only[VRel]at hx;obtain⟨a,k,rfl⟩:=hx
  exact .here H (cv:=goInt 0) (by simp[Builtin.len_,run_underlying hu]) (by simp[VRel,goInt])
 case nilmap=>
  simp only[HM.run,Option.some.injEq,Prod.mk.injEq]at hm
  obtain⟨rfl,rfl⟩:=hm
  obtain⟨k,e,hu⟩:=t2 ht
  simp only[VRel]at hx;subst hx
  exact .here H (cv:=goInt 0) (by simp[Builtin.len_,run_underlying hu]) (by simp[VRel,goInt])
 case fmap ks vs=>
  simp only[HM.run,Option.some.injEq,Prod.mk.injEq]at hm
  obtain⟨rfl,rfl⟩:=hm
  obtain⟨k,e',hu⟩:=t2 ht
  simp only[VRel]at hx
  obtain⟨mb,es,clock,rfl,hF,hC,hcl,hst,h6,h7⟩:=hx
  have hl:ks.length=es.size:=by have:=QaC h6;simp_all
  have hg:(getObj mb).run P w= .ok (.map es clock) w:=by simp[getObj,Sem.run,hC]
  exact .here H (cv:=goInt es.size) (by simp[Builtin.len_,run_underlying hu,hg]) (by simp[VRel,goInt];omega)
 case map b g=>
  simp only[HM.run]at hm
  split at hm
  ·rename_i g' es hb
   cases e:Nat.beq g' g with
   |false=>rw[e]at hm;simp[HM.run]at hm
   |true=>
    rw[e]at hm
    have:g'=g:=by simpa using e
    subst this
    simp only[cond_true,HM.run,Option.some.injEq,Prod.mk.injEq]at hm
    obtain⟨rfl,rfl⟩:=hm
    obtain⟨k,e',hu⟩:=t2 ht
    simp only[VRel]at hx
    obtain⟨cb,hp,rfl⟩:=hx
    obtain⟨cb',es',clock,h1,hO,hC,hR,_⟩:=H.blk b _ hb
    rw[hp]at h1;cases h1
    have hl:=QbO hR
    have hg:(getObj cb).run P w= .ok (.map es' clock) w:=by simp[getObj,Sem.run,hC]
    exact .here H (cv:=goInt es'.size) (by simp[Builtin.len_,run_underlying hu,hg]) (by simp_all [VRel,goInt])
  grind [HM.run]
theorem QjP {i:Nat} {x v:AV} {cx:Value} (hx:VRel c w x cx) (hm:aExtract i x=some v):Pure P c w (Instr.extract cx i) v:=by
 unfold aExtract at hm
 cases x<;>simp only[reduceCtorEq]at hm
 simp only[VRel]at hx
 obtain⟨vs,rfl,hx⟩:=hx
 obtain⟨cv,h1,h2⟩:=Qcp i hx hm
 rw[Array.getElem?_toList]at h1
 exact⟨cv,by simp[Instr.extract,h1],h2⟩
def aConv (k:IntKind) (x:AV):Option AV:=
 match x with
 | .int _ n=>some (.int k (wr k n))
 |_=>none
def convT (P:Program) (src dst:TypeId) (k:IntKind):Bool:=
 match P.underlying src,P.underlying dst with
 |some _,some (.int k')=>k==k'
 |_,_=>false
theorem Qna {src dst:TypeId} {k:IntKind} {x v:AV} {cx:Value} (hx:VRel c w x cx) (ht:convT P src dst k=true) (hm:aConv k x=some v):Pure P c w (convert src dst cx) v:=by
 unfold aConv at hm
 cases x<;>simp only[reduceCtorEq,Option.some.injEq]at hm
 subst hm
 simp only[VRel]at hx
 subst hx
 unfold convT at ht
 split at ht
 ·rename_i d k' hs hd
  have:k=k':=by simpa using ht
  subst this
  exact⟨_,by simp[convert,run_underlying hs,run_underlying hd,Conv.intToInt];rfl,by simp[VRel,wr_eq]⟩
 ·cases ht
def aConvS (x:AV):Option AV:=
 match x with
 | .str s=>some (.str s)
 | .int _ n=>if 0<=n/\n<128 then some (.str [UInt8.ofNat n.toNat])else none
 |_=>none
def convST (P:Program) (src dst:TypeId):Bool:=
 match P.underlying src,P.underlying dst with
 |some _,some .string=>true
 |_,_=>false
theorem QlR {src dst:TypeId} {x v:AV} {cx:Value} (hx:VRel c w x cx) (ht:convST P src dst=true) (hm:aConvS x=some v):Pure P c w (convert src dst cx) v:=by
 unfold aConvS at hm
 cases x<;>simp only[reduceCtorEq,Option.some.injEq]at hm
 ·rename_i k n
  split at hm
  ·rename_i hn
   cases hm
   simp only[VRel]at hx
   subst hx
   unfold convST at ht
   split at ht
   ·rename_i d hs hd
    have he:Utf8.encode n=⟨#[UInt8.ofNat n.toNat]⟩:=by
     grind [Utf8.valid,Utf8.encode]
    exact⟨_,by simp[convert,run_underlying hs,run_underlying hd,Conv.intToString,he];rfl,by simp[VRel]⟩
   ·cases ht
  ·cases hm
 subst hm
 simp only[VRel]at hx
 subst hx
 unfold convST at ht
 split at ht
 ·rename_i d hs hd
  exact⟨_,by simp[convert,run_underlying hs,run_underlying hd];rfl,by simp[VRel]⟩
 ·cases ht
def aMax (mn:Bool) (xs:List AV):Option AV:=
 match xs with
 |[.int k a,.int _ b]=>some (.int k (if mn then(if b<a then b else a)else(if a<b then b else a)))
 |_=>none
theorem QiH {mn:Bool} {ats:Array TypeId} {ty:TypeId} {xs:List AV} {v:AV} {cxs:Array Value} (hx:VRels c w xs cxs.toList) (hm:aMax mn xs=some v):
  Pure P c w (if mn then Builtin.min_ ats ty cxs else Builtin.max_ ats ty cxs) v:=by
 unfold aMax at hm
 split at hm
 ·rename_i k a k' b
  cases hm
  simp only[VRels,VRel]at hx
  obtain⟨_,_,e1,rfl,_,_,rfl,rfl,rfl⟩:=hx
  refine⟨_,?_,by simp only[VRel];exact rfl⟩
  cases mn
  ·simp[Builtin.max_,e1,Builtin.max2]
  ·simp[Builtin.min_,e1,Builtin.min2]
 ·cases hm
def aCopy (sz : Nat) (x y : AV) : HM AV :=
 match x with
 | .sl b g off len s =>
  if s = sz then
   aSrc sz y fun ys n=>
    .cells b g fun cs=>
     if off+min n len*sz<=cs.length/\ys.all AV.one=true/\sz≠0 then
      .put b (.cells g (putR cs off (ys.take (min n len*sz)))) (.ret (.int .i64 ((min n len:Nat):Int)))
     else .fail
  else .fail
 | .nilsl=>aSrc sz y fun _ _=> .ret (.int .i64 0)
 | .esl=>aSrc sz y fun _ _=> .ret (.int .i64 0)
 |_=> .fail
theorem Qqn {ys:List AV} {us:List Value} (hr:VRels c w ys us) (hone:ys.all AV.one=true):∀u∈us,u.oneCell'=true:=by
 intro u hu
 obtain⟨j,hj,rfl⟩:=List.mem_iff_getElem.1 hu
 have hul:=QaC hr
 obtain⟨v',hv',hr'⟩:=Qcp j hr (List.getElem?_eq_getElem (by omega:j<ys.length))
 rw[List.getElem?_eq_getElem hj]at hv';cases hv'
 have h1:(ys[j]).one=true:=by
  simp_all
 have h2:=QcZ (x:=ys[j]) hr' (by cases hh:ys[j]<;>simp_all [AV.one,AV.cells])
 have:(us[j]).cells= #[us[j]]\/∃a,us[j]= .agg a:=by cases us[j]<;>simp[Value.cells]
 rcases this with h3|⟨a,h3⟩
 ·simp_all
 ·rw [h3] at hr'
  exfalso
  cases hh:ys[j]<;>rw[hh]at hr' h1<;>simp[AV.one]at h1<;>simp[VRel]at hr'
  rcases hr'.1 with⟨_,_,_,k1,_⟩|⟨_,_,_,_,k1,_⟩<;>simp_all
theorem Qnb {t t2 ty e : TypeId} {sz : Nat} {x y v : AV} {cx cy : Value} {ti : TypeInfo} {h' : Heap} (H : HRel c h w) (hx : VRel c w x cx) (hy : VRel c w y cy)
    (hu:P.underlying t=some (.slice e)) (hi:P.info? e=some ti) (hsz:ti.size=sz) (hm:(aCopy sz x y).run h=some (v,h')):Sound P c w (Builtin.copy_ #[t,t2] ty #[cx,cy]) v h':=by
  subst hsz
  have hs:=QaJ (P:=P) hi
  have nilcase:∀(a:Option Addr) (hm:(aSrc ti.size y fun _ _=> .ret (.int .i64 0)).run h=some (v,h')),Sound P c w (Builtin.copy_ #[t,t2] ty #[.slice a 0 0,cy]) v h':=by
    intro a hm
    replace hm:=QcP (P:=P) H hy hm
    obtain⟨ys,n,us,S,hm⟩:=hm
    simp only[HM.run,Option.some.injEq,Prod.mk.injEq]at hm
    obtain⟨rfl,rfl⟩:=hm
    have hf:=S.firstm w 0 (Nat.zero_le _) rfl
    simp at hf
    refine .here H (cv:=goInt 0) ?_ (by simp[VRel,goInt])
    cases a<;>simp[Builtin.copy_,run_underlying hu,S.lenOf,hs,hf,storeCells]
  cases x<;>simp only[aCopy]at hm<;>try (cases hm;done)
  case nilsl=>simp_all [VRel]
  case esl=>simp only[VRel]at hx;grind
  case sl b g off len s =>
    split at hm
    · rename_i e1; subst e1
      replace hm:=QcP (P:=P) H hy hm
      obtain⟨ys,n,us,S,hm⟩:=hm
      obtain⟨cs,hb,hm⟩:=Qbg hm
      split at hm
      · rename_i hcond
        obtain⟨hl,hone,hne⟩:=hcond
        obtain⟨hlim,hm⟩:=Qa3 hm
        simp only[HM.run,Option.some.injEq,Prod.mk.injEq]at hm
        obtain⟨rfl,rfl⟩:=hm
        have hul:=QaC S.rels
        have hyl:=S.len
        have hmin:min n len*ti.size<=n*ti.size:=Nat.mul_le_mul_right _ (Nat.min_le_left _ _)
        have hf:=S.firstm w (min n len) (Nat.min_le_left _ _) rfl
        have hvr:VRels c w (ys.take (min n len*ti.size)) (us.take (min n len*ti.size)):=by
          have:=QaF (Qa0 S.rels) 0 (min n len*ti.size) (by omega)
          simp_all
        simp only[VRel]at hx
        rcases hx with⟨hp,rfl,rfl,rfl⟩|⟨cb,base,o,cap,C,e',fr,hp,rfl,hlc,hC,hcap⟩
        · -- nothing is written
          have hcs:cs=[]:=by
            rcases H.blk b _ hb with⟨_,h2⟩|⟨_,_,_,_,_,h1,_⟩
            · exact h2
            simp_all
          subst hcs
          obtain⟨E,H'⟩:=H.putNil (b:=b) (g:=g) hlim (fun y hy=>H.later b _ hb y hy) (.inr hp)
          have e0:putR [] 0 (List.take (min n 0*ti.size) ys)=[]:=by simp[putR]
          rw[e0]
          refine⟨goInt 0,_,w,?_,E,H',by simp[VRel,goInt]⟩
          simp at hf
          simp[Builtin.copy_,run_underlying hu,S.lenOf,hs,hf]
        · by_cases h0 : min n len = 0
          · -- nothing is written
            have e0:putR cs off (List.take (min n len*ti.size) ys)=cs:=by simp[putR,h0]
            rw[e0]
            have hst:=Qdd (P:=P) H hb hlim hp (vs:=[]) (us:=[]) (off:=0) (by simp) (by simp[VRels]) (by simp)
            obtain⟨c',w',hr,E,H'⟩:=hst
            have e1:putR cs 0 []=cs:=by simp[putR]
            rw[e1]at H'
            simp only[storeCells,Sem.run_pure]at hr
            cases hr
            refine⟨goInt 0,c',w,?_,E,H',by simp[VRel,goInt,h0]⟩
            simp only[h0,Nat.zero_mul,List.take_zero]at hf
            simp[Builtin.copy_,run_underlying hu,S.lenOf,hs]
            rw[show n.min len=0 from h0,hf]
            simp[storeCells]
          · obtain ⟨rfl, hbd⟩ := hcap.resolve_left (by omega)
            obtain⟨c',w',hr,E,H'⟩:=Qdd (P:=P) H hb hlim hp (vs:=ys.take (min n len*ti.size)) (us:=us.take (min n len*ti.size)) (off:=off) (by simp;omega) hvr
              (fun u hu=>Qqn S.rels hone u (List.mem_of_mem_take hu))
            refine⟨goInt (min n len:Nat),c',w',?_,E,H',by simp[VRel,goInt]⟩
            simp[Builtin.copy_,run_underlying hu,S.lenOf,hs]
            simp_all
      grind [HM.run]
    grind [HM.run]
end Go.AM
namespace Go.AM
variable {P:Program} {ok:Okc} {c:Ctx ok} {w:World} {h:Heap}
def keyEq (row:Bool) (ks:List LK) (k k':AV):Option Bool:=
 match row with
 |true=>match k,k' with
  | .agg xs,.agg ys=>eqCells ks xs ys
  |_,_=>none
 |false=>eqCells ks [k] [k']
def aFind (row:Bool) (ks:List LK) (k:AV):List (AV×AV)->Nat->Option (Option (Nat×AV))
 |[],_=>some none
 |(k',v)::r,i=>
  match keyEq row ks k k' with
  |some true=>some (some (i,v))
  |some false=>aFind row ks k r (i+1)
  |none=>none
def HM.entries {α:Type} (b g:Nat) (k:List (AV×AV)->HM α):HM α:=
 .look b fun x=>match x with
  |some (.map g' es)=>bif Nat.beq g' g then k es else .fail
  |_=> .fail
def keyOK (row:Bool) (ks:List LK) (k:AV):Bool:=
 match keyEq row ks k k with|some _=>true|none=>false
def aLookup (row:Bool) (ks:List LK) (zero:AV) (ok:Bool) (x k:AV):HM AV:=
 if keyOK row ks k then
  match x with
  | .nilmap=> .ret (if ok then .tup [zero,.bool false]else zero)
  | .map b g=> .entries b g fun es=>
   match aFind row ks k es 0 with
   |some (some (_,v))=> .ret (if ok then .tup [v,.bool true]else v)
   |some none=> .ret (if ok then .tup [zero,.bool false]else zero)
   |none=> .fail
  | .fmap ks' vs=>
   match aFind row ks k (ks'.zip vs) 0 with
   |some (some (_,v))=> .ret (if ok then .tup [v,.bool true]else v)
   |some none=> .ret (if ok then .tup [zero,.bool false]else zero)
   |none=> .fail
  |_=> .fail
 else .fail
def aMapUpd (row:Bool) (ks:List LK) (x k v:AV):HM AV:=
 if keyOK row ks k then
  match x with
  | .map b g=> .entries b g fun es=>
   match aFind row ks k es 0 with
   |some (some (i,_))=> .put b (.map g (es.set i (k,v))) (.ret .any)
   |some none=> .put b (.map g (es++[(k,v)])) (.ret .any)
   |none=> .fail
  |_=> .fail
 else .fail
def aMakeMap (s:Site) (i:Nat):HM AV:= .new s i (fun g=> .map g []) fun b g=> .ret (.map b g)
theorem Qfo {row:Bool} {ks:List LK} {k k':AV} {ck ck':Value} {b:Bool} (hk:keyEq row ks k k'=some b) (hr:VRel c w k ck) (hr':VRel c w k' ck'):
  ∃xs ys us vs,ck=asVal row us/\ck'=asVal row vs/\VRels c w xs us/\VRels c w ys vs/\eqCells ks xs ys=some b:=by
 cases row with
 |true=>
  cases k<;>cases k'<;>simp only[keyEq,reduceCtorEq]at hk
  simp only[VRel]at hr hr'
  obtain⟨us,rfl,h1⟩:=hr
  obtain⟨vs,rfl,h2⟩:=hr'
  exact⟨_,_,us.toList,vs.toList,by simp[asVal],by simp[asVal],h1,h2,hk⟩
 |false=>
  exact⟨[k],[k'],[ck],[ck'],by simp[asVal],by simp[asVal],by simp[VRels,hr],by simp[VRels,hr'],hk⟩
theorem Qj2 {ks:List LK} {xs ys:List AV} {b:Bool} (hh:eqCells ks xs ys=some b):(∃b',eqCells ks xs xs=some b')/\∃b',eqCells ks ys ys=some b':=by
 induction ks generalizing xs ys b with
 |nil=>cases xs<;>cases ys<;>simp[eqCells]at hh⊢
 | cons k ks ih =>
  cases xs<;>cases ys<;>simp only[eqCells,reduceCtorEq]at hh⊢
  rename_i x xs y ys
  split at hh
  ·rename_i a b' h1 h2
   obtain⟨⟨b1,e1⟩,⟨b2,e2⟩⟩:=ih h2
   rw[e1,e2]
   have:(∃a',eqCell k x x=some a')/\∃a',eqCell k y y=some a':=by
    cases k<;>cases x<;>cases y<;>simp[eqCell]at h1⊢
   grind
  ·cases hh
theorem Qfp:∀{ks:List LK} {xs ys:List AV} {us vs:List Value},eqCells ks xs ys=some true->VRels c w xs us->VRels c w ys vs->us=vs/\∀u∈us,(∃k n,u= .int k n)\/(∃b,u= .bool b)\/∃s,u= .string s
 |[],xs,ys,us,vs,hh,hx,hy=>by
  cases xs<;>cases ys<;>simp[eqCells]at hh
  simp only[VRels]at hx hy
  simp_all
 | k :: ks, xs, ys, us, vs, hh, hx, hy => by
  cases xs<;>cases ys<;>simp only[eqCells,reduceCtorEq]at hh
  rename_i x xs y ys
  split at hh
  ·rename_i a b h1 h2
   have hab:a=true/\b=true:=by simp_all
   obtain⟨rfl,rfl⟩:=hab
   simp only[VRels]at hx hy
   obtain⟨u,us',rfl,hu,hus⟩:=hx
   obtain⟨v,vs',rfl,hv,hvs⟩:=hy
   obtain⟨rfl,hall⟩:=Qfp h2 hus hvs
   have:u=v/\((∃k n,u= .int k n)\/(∃b,u= .bool b)\/∃s,u= .string s):=by
    cases k<;>cases x<;>cases y<;>simp only[eqCell,reduceCtorEq,Option.some.injEq]at h1<;>simp only[VRel]at hu hv<;>subst hu<;>subst hv
    ·simp_all
    ·simp_all
    simp_all
   grind
  ·cases hh
def CkRun (P:Program) (c:Ctx ok) (w:World) (d:Nat):Prop:=
 ∀(t:TypeId) (ks:List LK),flatK P d t=some ks->∀(xs:List AV) (us:List Value) (b:Bool),VRels c w xs us->eqCells ks xs xs=some b->
  ∀e D,d<=D->(Instr.checkKey e D t (asVal (rowB P t) us)).run P w= .ok () w
def ckFields (D:Nat) (e:Bool) (us:Array Value):List Field->Sem Unit
 |[]=>pure ()
 | f :: fs => if f.name ≠ "_" then do
   let a<-part f.type us f.offset
   Instr.checkKey e D f.type a
   ckFields D e us fs
  else ckFields D e us fs
def ckElems (D:Nat) (e:Bool) (t:TypeId) (n:Nat) (us:Array Value):List Nat->Sem Unit
 |[]=>pure ()
 |i::is=>do
  let a<-part t us (i*n)
  Instr.checkKey e D t a
  ckElems D e t n us is
theorem QjQ (D:Nat) (e:Bool) (t:TypeId) (us:Array Value) (fs:Array Field) (w:World) (ht:P.underlying t=some (.struct fs)):
  (Instr.checkKey e (D+1) t (.agg us)).run P w=(ckFields D e us fs.toList).run P w:=by
 simp only[Instr.checkKey,Sem.run_bind,run_underlying ht,Result.andThen_ok]
 rw[<-Array.forIn_toList]
 generalize fs.toList=l
 clear ht
 induction l generalizing w with
 |nil=>simp[ckFields]
 | cons f l ih =>
  simp only[List.forIn_cons,ckFields,Sem.run_bind,Sem.run_ite]
  split
  ·generalize (part f.type us f.offset).run P w = r1
   cases r1 with
   |ok a w1=>
    simp only[Result.andThen_ok]
    generalize (Instr.checkKey e D f.type a).run P w1=r2
    cases r2 with
    |ok b w2=>simp only[Result.andThen_ok,Sem.run_pure];exact ih w2
    |halt x w2=>simp[Result.andThen]
   |halt x w1=>simp[Result.andThen]
  ·simp_all
theorem Qj3 (D:Nat) (e:Bool) (t el:TypeId) (len n:Nat) (us:Array Value) (w:World) (ht:P.underlying t=some (.array len el)) (hn:∀w,(sizeOf el).run P w= .ok n w):
  (Instr.checkKey e (D+1) t (.agg us)).run P w=(ckElems D e el n us (List.range' 0 len)).run P w:=by
 simp only[Instr.checkKey,Sem.run_bind,run_underlying ht,Result.andThen_ok,hn,Std.Legacy.Range.forIn_eq_forIn_range',Std.Legacy.Range.size,Nat.sub_zero,Nat.add_sub_cancel,Nat.div_one]
 generalize List.range' 0 len=l
 induction l generalizing w with
 |nil=>simp[ckElems]
 | cons i l ih =>
  simp only[List.forIn_cons,ckElems,Sem.run_bind,hn,Result.andThen_ok]
  generalize (part el us (i*n)).run P w=r1
  cases r1 with
  |ok a w1=>
   simp only[Result.andThen_ok]
   generalize (Instr.checkKey e D el a).run P w1=r2
   cases r2 with
   |ok b w2=>simp only[Result.andThen_ok,Sem.run_pure];exact ih w2
   |halt x w2=>simp[Result.andThen]
  |halt x w1=>simp[Result.andThen]
theorem Qfq {d:Nat} (ih:CkRun P c w d):∀(fs:List Field) (off:Nat) (ks:List LK),flatF P (flatK P d) fs off=some ks->
  ∀(xs:List AV) (us:Array Value) (b:Bool),VRels c w xs (us.toList.drop off)->eqCells ks xs xs=some b->off+ks.length<=us.size->
  ∀e D,d<=D->(ckFields D e us fs).run P w= .ok () w
 |[],off,ks,hk,xs,us,b,hx,hb,_,e,D,hD=>by simp[ckFields]
 | f :: fs, off, ks, hk, xs, us, b, hx, hb, hu, e, D, hD => by
  simp only[flatF]at hk
  split at hk
  ·cases hk
  ·rename_i hn
   have hn1:f.name≠ "_" :=fun e=>hn (.inl e)
   have hn2:f.offset=off:=by omega
   split at hk
   ·rename_i k1 hk1
    split at hk
    ·rename_i hc
     split at hk
     ·rename_i r hr
      cases hk
      simp only[List.length_append]at hu
      obtain⟨b1,b2,e1,e2,rfl⟩:=Qck hb
      obtain⟨u,hun⟩:=Qb1 hk1
      obtain⟨i,hi⟩:=Qbt hun
      have hsz:i.size=k1.length:=by simp_all [Program.cellsOf]
      have hlx:=QaC hx
      simp at hlx
      have hp1:=Qdg (P:=P) (cs:=us) (off:=off) w hun hi hsz (Qb7 hk1) (by omega)
      have hx1:=QaF (Qa0 hx) 0 k1.length (by omega)
      simp only[List.drop_zero]at hx1
      have h1:=ih f.type k1 hk1 _ _ b1 hx1 e1 e D hD
      have hx2:VRels c w (xs.drop k1.length) (us.toList.drop (off+k1.length)):=by
       have:=QaF (Qa0 hx) k1.length (xs.length-k1.length) (by omega)
       grind [List.take_of_length_le,List.drop_drop]
      have h2:=Qfq ih fs (off+k1.length) r hr _ us b2 hx2 e2 (by omega) e D hD
      simp_all [ckFields]
     ·cases hk
    ·cases hk
   ·cases hk
theorem Qgn {d:Nat} (ih:CkRun P c w d) {el:TypeId} {ks:List LK} (hk:flatK P d el=some ks) (hc:P.cellsOf el=ks.length):∀(m s:Nat) (xs:List AV) (us:Array Value) (b:Bool),
  VRels c w xs (us.toList.drop (s*ks.length))->eqCells (List.replicate m ks).flatten xs xs=some b->(s+m)*ks.length<=us.size->
  ∀e D,d<=D->(ckElems D e el ks.length us (List.range' s m)).run P w= .ok () w
 |0,s,xs,us,b,hx,hb,_,e,D,hD=>by simp[ckElems]
 | m + 1, s, xs, us, b, hx, hb, hu, e, D, hD => by
  rw[List.replicate_succ,List.flatten_cons]at hb
  obtain⟨b1,b2,e1,e2,rfl⟩:=Qck hb
  obtain⟨u,hun⟩:=Qb1 hk
  obtain⟨i,hi⟩:=Qbt hun
  have hsz:i.size=ks.length:=by simp_all [Program.cellsOf]
  have hlx:=QaC hx
  simp at hlx
  have a1:(s+(m+1))*ks.length=s*ks.length+ks.length+m*ks.length:=by
   grind
  have a2:(s+1)*ks.length=s*ks.length+ks.length:=Nat.succ_mul _ _
  have hp1:=Qdg (P:=P) (cs:=us) (off:=s*ks.length) w hun hi hsz (Qb7 hk) (by omega)
  have hx1:=QaF (Qa0 hx) 0 ks.length (by omega)
  simp only[List.drop_zero]at hx1
  have h1:=ih el ks hk _ _ b1 hx1 e1 e D hD
  have hx2:VRels c w (xs.drop ks.length) (us.toList.drop ((s+1)*ks.length)):=by
   have:=QaF (Qa0 hx) ks.length (xs.length-ks.length) (by omega)
   grind [List.take_of_length_le,List.drop_drop]
  have h2:=Qgn ih hk hc m (s+1) _ us b2 hx2 e2 (by grind) e D hD
  simp_all [List.range'_succ,ckElems]
theorem ckRun : ∀ d, CkRun P c w d
  |0=>fun t ks hk=>by simp[flatK]at hk
  | d + 1 => by
    intro t ks hk xs us b hx hb e D hD
    obtain⟨D',rfl⟩:∃D',D=D'+1:=⟨D-1,by omega⟩
    have hlx:=QaC hx
    obtain⟨hl1,_⟩:=QcB hb
    unfold flatK at hk
    split at hk
    · simp_all [Instr.checkKey,run_underlying]
    · simp_all [Instr.checkKey,run_underlying]
    · simp_all [Instr.checkKey,run_underlying]
    · rename_i fs hu
      split at hk
      · cases hk
      · have hr : rowB P t = true := by simp [rowB, hu]
        simp only[hr,asVal,if_true]
        rw[QjQ D' e t _ fs w hu]
        exact Qfq (ckRun d) fs.toList 0 ks hk xs us.toArray b (by simpa using hx) hb (by simp;omega) e D' (by omega)
    · rename_i n el hu
      split at hk
      · rename_i ks' hk'
        split at hk
        · rename_i hc
          cases hk
          have hr:rowB P t=true:=by simp[rowB,hu]
          obtain⟨u,hun⟩:=Qb1 hk'
          obtain⟨i,hi⟩:=Qbt hun
          have hsz:i.size=ks'.length:=by simp_all [Program.cellsOf]
          simp only[hr,asVal,if_true]
          rw[Qj3 D' e t el n ks'.length _ w hu (fun w=>by simp_all [QaJ])]
          have hfl:(List.replicate n ks').flatten.length=n*ks'.length:=by simp
          exact Qgn (ckRun d) hk' hc n 0 xs us.toArray b (by simpa using hx) hb (by simp;omega) e D' (by omega)
        · cases hk
      · cases hk
    · cases hk
def FoundRel (c:Ctx ok) (w:World):Option (Nat×AV)->Option (Nat×Value)->Prop
 |none,none=>True
 |some (a,x),some (a',x')=>a=a'/\VRel c w x x'
 |_,_=>False
theorem QiI {kt:TypeId} {row:Bool} {ks:List LK} (hk:flatK P 40 kt=some ks) (hr:rowB P kt=row) {k k':AV} {ck ck':Value} {b:Bool} (he:keyEq row ks k k'=some b) (h1:VRel c w k ck) (h2:VRel c w k' ck'):
  (Op.equal kt ck ck').run P w= .ok b w:=by
 obtain⟨xs,ys,us,vs,rfl,rfl,g1,g2,g3⟩:=Qfo he h1 h2
 have:=eqRun (P:=P) (c:=c) (w:=w) 40 kt ks hk _ _ _ _ b g1 g2 g3 10000 (by omega)
 rw[hr]at this
 exact this
theorem Qex {kt:TypeId} {row:Bool} {ks:List LK} (hk:flatK P 40 kt=some ks) (hr:rowB P kt=row) {k:AV} {ck:Value} (hkey:VRel c w k ck):
  ∀(es:List (AV×AV)) (ms:List MapEntry) (clock i:Nat) (r:Option (Nat×AV)),MRel c w es ms clock->aFind row ks k es i=some r->
  ∃r',(Instr.findAsking kt ck ms i).run P w= .ok r' w/\FoundRel c w r r'
 |[],ms,clock,i,r,hm,hf=>by
  simp only[MRel]at hm
  subst hm
  simp only[aFind,Option.some.injEq]at hf
  subst hf
  exact⟨none,by simp[Instr.findAsking],trivial⟩
 | (k', x) :: es, ms, clock, i, r, hm, hf => by
  simp only[MRel]at hm
  obtain⟨e,ms',rfl,h1,h2,h3,h4,h5⟩:=hm
  simp only[aFind]at hf
  split at hf
  ·rename_i hb
   cases hf
   exact⟨some (i,e.val),by simp[Instr.findAsking,QiI hk hr hb hkey h1],rfl,h2⟩
  ·rename_i hb
   obtain⟨r',hr',hrel⟩:=Qex hk hr hkey es ms' clock (i+1) r h5 hf
   exact⟨r',by simp[Instr.findAsking,QiI hk hr hb hkey h1,hr'],hrel⟩
  ·cases hf
theorem Qhx {d:TypeDesc} {x y:AV} {u v:Value} {k:LK} {b:Bool} (hd:(match k with| .b=>d= .bool| .i=>∃kk,d= .int kk| .s=>d= .string)) (he:eqCell k x y=some b) (hu:VRel c w x u) (hv:VRel c w y v):
  Instr.sameNow d u v=some b:=by
 cases k<;>cases x<;>cases y<;>simp only[eqCell,reduceCtorEq,Option.some.injEq]at he<;>simp only[VRel]at hu hv<;>subst hu<;>subst hv<;>simp only at hd
 ·simp_all [Instr.sameNow,Qdf]
 ·obtain ⟨kk, rfl⟩ := hd
  simp_all [Instr.sameNow,Qdf]
 simp_all [Instr.sameNow,beq_toListBytes,Qdf]
theorem Qgo {d:TypeDesc} {lk:LK} (hd:(match lk with| .b=>d= .bool| .i=>∃kk,d= .int kk| .s=>d= .string)) {k:AV} {ck:Value} (hkey:VRel c w k ck):
  ∀(es:List (AV×AV)) (ms:List MapEntry) (clock i:Nat) (r:Option (Nat×AV)),MRel c w es ms clock->aFind false [lk] k es i=some r->
  ∃r',Instr.findNow d ck ms i=some r'/\FoundRel c w r r'
 |[],ms,clock,i,r,hm,hf=>by
  simp only[MRel]at hm
  subst hm
  simp only[aFind,Option.some.injEq]at hf
  subst hf
  exact⟨none,by simp[Instr.findNow],trivial⟩
 | (k', x) :: es, ms, clock, i, r, hm, hf => by
  simp only[MRel]at hm
  obtain⟨e,ms',rfl,h1,h2,h3,h4,h5⟩:=hm
  simp only[aFind,keyEq]at hf
  have one:∀b,eqCells [lk] [k] [k']=some b->eqCell lk k k'=some b:=by
   grind [eqCells]
  split at hf
  ·rename_i hb
   cases hf
   exact⟨some (i,e.val),by grind [Instr.findNow,Qhx],rfl,h2⟩
  ·rename_i hb
   obtain⟨r',hr',hrel⟩:=Qgo hd hkey es ms' clock (i+1) r h5 hf
   grind [Instr.findNow,Qhx]
  ·cases hf
structure MapT (P:Program) (t:TypeId) (row:Bool) (ks:List LK) (kt et:TypeId):Prop where
 hu:P.underlying t=some (.map kt et)
 hk:flatK P 40 kt=some ks
 hr:rowB P kt=row
theorem QbC {t kt et:TypeId} {row:Bool} {ks:List LK} (T:MapT P t row ks kt et) {k:AV} {ck:Value} (hkey:VRel c w k ck) {es:List (AV×AV)} {ms:List MapEntry} {clock:Nat} {r:Option (Nat×AV)} (hm:MRel c w es ms clock)
  (hf:aFind row ks k es 0=some r):∃r',(Instr.findKey kt ck ms).run P w= .ok r' w/\FoundRel c w r r':=by
 obtain⟨u,hu⟩:=Qb1 T.hk
 have hdef:(Instr.findKey kt ck ms).run P w=(match Instr.findNow u ck ms 0 with|some r=> .ok r w|none=>(Instr.findAsking kt ck ms).run P w):=by
  simp only[Instr.findKey,Sem.run_bind,run_underlying hu,Result.andThen_ok]
  cases Instr.findNow u ck ms 0<;>rfl
 rw[hdef]
 cases row with
 | true =>
  have hn:Instr.findNow u ck ms 0=none\/(ms=[]/\Instr.findNow u ck ms 0=some none):=by
   cases ms with
   |nil=>exact .inr ⟨rfl,rfl⟩
   |cons e ms=>
    left
    have hr:=T.hr
    unfold rowB at hr
    rw[hu]at hr
    cases u<;>simp at hr<;>simp[Instr.findNow,Instr.sameNow]
  rcases hn with hn|⟨rfl,hn⟩
  ·rw[hn];exact Qex T.hk T.hr hkey es ms clock 0 r hm hf
  ·rw [hn]
   have:es=[]:=by
    cases es with
    |nil=>rfl
    |cons a es=>obtain⟨a1,a2⟩:=a;simp[MRel]at hm
   subst this
   simp only[aFind,Option.some.injEq]at hf
   subst hf
   exact⟨none,rfl,trivial⟩
 | false =>
  have hlk:∃lk,ks=[lk]/\(match lk with| .b=>u= .bool| .i=>∃kk,u= .int kk| .s=>u= .string):=by
   have hk:=T.hk
   have hr:=T.hr
   unfold rowB at hr
   rw[hu]at hr
   unfold flatK at hk
   grind
  obtain⟨lk,rfl,hd⟩:=hlk
  obtain⟨r',h1,h2⟩:=Qgo hd hkey es ms clock 0 r hm hf
  rw[h1]
  exact⟨r',rfl,h2⟩
theorem QdQ {t kt et:TypeId} {row:Bool} {ks:List LK} (T:MapT P t row ks kt et) {k:AV} {ck:Value} (hkey:VRel c w k ck) (hok:keyOK row ks k=true) (e:Bool):(Instr.checkKey e 10000 kt ck).run P w= .ok () w:=by
 unfold keyOK at hok
 split at hok
 ·rename_i b hb
  obtain⟨xs,ys,us,vs,h1,h2,g1,g2,g3⟩:=Qfo hb hkey hkey
  obtain⟨⟨b',hb'⟩,_⟩:=Qj2 g3
  have:=ckRun (P:=P) (c:=c) (w:=w) 40 kt ks T.hk xs us b' g1 hb' e 10000 (by omega)
  rw[T.hr,<-h1]at this
  exact this
 ·cases hok
theorem Qcm {α:Type} {b g:Nat} {k:List (AV×AV)->HM α} {r:α×Heap} (hm:(HM.entries b g k).run h=some r):
  ∃es,h.get b=some (.map g es)/\(k es).run h=some r:=by
 simp only[HM.entries,HM.run]at hm
 split at hm
 ·rename_i g' es hb
  cases e:Nat.beq g' g with
  |false=>rw[e]at hm;simp[HM.run]at hm
  |true=>
   rw[e]at hm
   have:g'=g:=by simpa using e
   subst this
   exact⟨es,hb,hm⟩
 grind [HM.run]
theorem HRel.atMap (H:HRel c h w) {b g:Nat} {es:List (AV×AV)} (hb:h.get b=some (.map g es)) {cb base:Nat} (hp:c.ρ b g=some (.loc cb base)):
  ∃ms clock,c.O cb/\w.heap[cb]?=some (.map ms clock)/\MRel c w es ms.toList clock/\clock=es.length:=by
 obtain⟨cb',es',clock,h1,h2,h3,h4⟩:=H.blk b _ hb
 rw[hp]at h1;cases h1
 exact⟨es',clock,h2,h3,h4⟩
theorem QbM {cb:Nat} {ms:Array MapEntry} {clock:Nat} (hh:w.heap[cb]?=some (.map ms clock)):(getObj cb).run P w= .ok (.map ms clock) w:=by
 simp[getObj,Sem.run,hh]
theorem Ql8:∀{ks vs:List AV} {es:List MapEntry} {clock:Nat},MStamp es clock->VRels c w ks (es.map (·.key))->VRels c w vs (es.map (·.val))->MRel c w (ks.zip vs) es clock
 |[],vs,es,clock,_,h1,_=>by
  simp_all [MRel,VRels]
 |k::ks,[],es,clock,_,h1,h2=>by
  simp_all [VRels]
 | k :: ks, v :: vs, es, clock, hs, h1, h2 => by
  cases es with
  |nil=>simp[VRels]at h1
  |cons e es=>
   simp only[VRels,List.map_cons]at h1 h2
   obtain⟨x,xs,e1,h1,h1'⟩:=h1
   obtain⟨y,ys,e2,h2,h2'⟩:=h2
   cases e1;cases e2
   simp only[MStamp]at hs
   have ih:=Ql8 hs.2.2 h1' h2'
   rw[List.zip_cons_cons]
   refine⟨e,es,rfl,h1,h2,hs.1,?_,ih⟩
   have:=QbO ih
   rw[this];exact hs.2.1
theorem Qih:∀{l:List (AV×AV)} {es:List MapEntry} {clock:Nat},MRel c w l es clock->MStamp es clock/\VRels c w (l.map (·.1)) (es.map (·.key))/\VRels c w (l.map (·.2)) (es.map (·.val))
 |[],es,clock,h=>by simp_all [MRel,MStamp,VRels]
 |(k,x)::r,es,clock,h=>by
  have hlen:=QbO h
  simp only[MRel]at h
  obtain⟨e,es',rfl,h1,h2,h3,h4,h5⟩:=h
  obtain⟨g1,g2,g3⟩:=Qih h5
  have hl:=QbO h5
  refine⟨⟨h3,by omega,g1⟩,?_,?_⟩
  ·simp only[List.map_cons,VRels];grind
  ·simp only[List.map_cons,VRels];grind
theorem Qj4 {t kt et:TypeId} {row:Bool} {ks:List LK} {zero x k v:AV} {ok:Bool} {cx ck zv:Value} {ti:TypeInfo} {h':Heap} (H:HRel c h w) (T:MapT P t row ks kt et) (hx:VRel c w x cx) (hkey:VRel c w k ck)
  (hi:P.info? et=some ti) (hz:ti.zero=some zv) (hc:cOK zero zv=true) (hm:(aLookup row ks zero ok x k).run h=some (v,h')):Sound P c w (Instr.lookup t cx ck ok) v h':=by
 unfold aLookup at hm
 split at hm
 ·rename_i hok
  have hck:=fun e=>QdQ (P:=P) T hkey hok e
  have hzr:VRel c w zero zv:=QdJ _ _ hc
  cases x<;>simp only at hm<;>try (cases hm;done)
  case nilmap=>
   simp only[HM.run,Option.some.injEq,Prod.mk.injEq]at hm
   obtain⟨rfl,rfl⟩:=hm
   simp only[VRel]at hx
   subst hx
   obtain⟨r',h1,h2⟩:=QbC (P:=P) (w:=w) T hkey (es:=[]) (ms:=[]) (clock:=0) (r:=none) (by simp[MRel]) rfl
   have:r'=none:=by grind [FoundRel]
   subst this
   refine .here H (cv:=if ok then .tuple #[zv,.bool false]else zv) ?_ ?_
   ·simp[Instr.lookup,run_underlying T.hu,hck,h1,zeroValue,typeInfo,hi,hz]
   grind [VRel,VRels]
  case map b g=>
   obtain⟨es,hb,hm⟩:=Qcm hm
   simp only[VRel]at hx
   obtain⟨cb,hp,rfl⟩:=hx
   obtain⟨ms,clock,hO,hC,hR,hcl⟩:=H.atMap hb hp
   split at hm
   ·rename_i i x hf
    simp only[HM.run,Option.some.injEq,Prod.mk.injEq]at hm
    obtain⟨rfl,rfl⟩:=hm
    obtain⟨r',h1,h2⟩:=QbC (P:=P) (w:=w) T hkey hR hf
    cases r' with
    |none=>simp[FoundRel]at h2
    |some r'=>
     obtain⟨i',xv⟩:=r'
     simp only[FoundRel]at h2
     refine .here H (cv:=if ok then .tuple #[xv,.bool true]else xv) ?_ ?_
     ·simp[Instr.lookup,run_underlying T.hu,QbM hC,hck,h1]
     ·grind [VRel,VRels]
   ·rename_i hf
    simp only[HM.run,Option.some.injEq,Prod.mk.injEq]at hm
    obtain⟨rfl,rfl⟩:=hm
    obtain⟨r',h1,h2⟩:=QbC (P:=P) (w:=w) T hkey hR hf
    have:r'=none:=by grind [FoundRel]
    subst this
    refine .here H (cv:=if ok then .tuple #[zv,.bool false]else zv) ?_ ?_
    ·simp[Instr.lookup,run_underlying T.hu,QbM hC,hck,h1,zeroValue,typeInfo,hi,hz]
    grind [VRel,VRels]
   grind [HM.run]
  case fmap ks' vs'=>
   simp only[VRel]at hx
   obtain⟨mb,ms,clock,rfl,hF,hC,hcl,hst,h6,h7⟩:=hx
   have hR:=Ql8 hst h6 h7
   split at hm
   ·rename_i i x hf
    simp only[HM.run,Option.some.injEq,Prod.mk.injEq]at hm
    obtain⟨rfl,rfl⟩:=hm
    obtain⟨r',h1,h2⟩:=QbC (P:=P) (w:=w) T hkey hR hf
    cases r' with
    |none=>simp[FoundRel]at h2
    |some r'=>
     obtain⟨i',xv⟩:=r'
     simp only[FoundRel]at h2
     refine .here H (cv:=if ok then .tuple #[xv,.bool true]else xv) ?_ ?_
     ·simp[Instr.lookup,run_underlying T.hu,QbM hC,hck,h1]
     ·grind [VRel,VRels]
   ·rename_i hf
    simp only[HM.run,Option.some.injEq,Prod.mk.injEq]at hm
    obtain⟨rfl,rfl⟩:=hm
    obtain⟨r',h1,h2⟩:=QbC (P:=P) (w:=w) T hkey hR hf
    have:r'=none:=by grind [FoundRel]
    subst this
    refine .here H (cv:=if ok then .tuple #[zv,.bool false]else zv) ?_ ?_
    ·simp[Instr.lookup,run_underlying T.hu,QbM hC,hck,h1,zeroValue,typeInfo,hi,hz]
    grind [VRel,VRels]
   grind [HM.run]
 grind [HM.run]
theorem QdR:∀{es:List (AV×AV)} {ms:List MapEntry} {clock:Nat} (i:Nat) {p:AV×AV},MRel c w es ms clock->es[i]?=some p->∃e,ms[i]?=some e/\VRel c w p.1 e.key/\VRel c w p.2 e.val
 |[],ms,clock,i,p,_,hi=>by simp at hi
 |(k,x)::es,ms,clock,i,p,hm,hi=>by
  simp only[MRel]at hm
  obtain⟨e,ms',rfl,h1,h2,h3,h4,h5⟩:=hm
  cases i with
  |zero=>simp at hi;subst hi;exact⟨e,by simp,h1,h2⟩
  |succ i=>simp at hi;simpa using QdR i h5 hi
theorem Qg4 {row:Bool} {ks:List LK} {k:AV}:∀{es:List (AV×AV)} {i j:Nat} {v:AV},aFind row ks k es i=some (some (j,v))->i<=j/\∃k',es[j-i]?=some (k',v)/\keyEq row ks k k'=some true
 |[],i,j,v,hf=>by simp[aFind]at hf
 | (k', x) :: es, i, j, v, hf => by
  simp only[aFind]at hf
  split at hf
  ·simp_all
  ·obtain ⟨h1, k2, h2, h3⟩ := Qg4 hf
   grind
  ·cases hf
theorem Qhy {row:Bool} {ks:List LK} {k k':AV} {ck ck':Value} (hk:keyEq row ks k k'=some true) (h1:VRel c w k ck) (h2:VRel c w k' ck') (hrow:row=true\/∃lk,ks=[lk]):
  ck=ck'/\Instr.sameBits 10000 ck ck=true:=by
 obtain⟨xs,ys,us,vs,rfl,rfl,g1,g2,g3⟩:=Qfo hk h1 h2
 obtain⟨rfl,hall⟩:=Qfp g3 g1 g2
 refine⟨rfl,?_⟩
 have hs:∀n u,((∃k n,u= .int k n)\/(∃b,u= .bool b)\/∃s,u= .string s)->Instr.sameBits n u u=true:=by
  intro n u hu
  rcases hu with⟨k,m,rfl⟩|⟨b,rfl⟩|⟨s,rfl⟩
  ·simp[Instr.sameBits]
  ·simp[Instr.sameBits]
  simp_all [Instr.sameBits,beq_toListBytes]
 cases row with
 |true=>
  simp only[asVal,if_true]
  show Instr.sameBits (9999+1) _ _=true
  simp only[Instr.sameBits,Bool.and_eq_true,beq_self_eq_true,true_and,List.all_eq_true]
  intro p hp
  obtain⟨i,hi,rfl⟩:=List.mem_iff_getElem.1 hp
  simp at hi
  simp only[List.getElem_zip]
  exact hs _ _ (hall _ (by simp))
 | false =>
  rcases hrow with h|⟨lk,rfl⟩
  ·cases h
  ·have hl := (QcB g3).1
   have hu:=QaC g1
   match us,hall,hu with
   |[u],hall,_=>simp only[asVal,Bool.false_eq_true,if_false,List.headD_cons];exact hs _ _ (hall u (by simp))
   |[],_,hu=>simp only[List.length_cons,List.length_nil]at hu hl;omega
   |_::_::_,_,hu=>simp only[List.length_cons,List.length_nil]at hu hl;omega
theorem Qj5 {k v:AV} {ck cv:Value} (hk:VRel c w k ck) (hv:VRel c w v cv):∀{es:List (AV×AV)} {ms:List MapEntry} {clock:Nat} (i:Nat),MRel c w es ms clock->
  MRel c w (es.set i (k,v)) (ms.modify i fun e=>{e with key:=ck,val:=cv}) clock
 |[],ms,clock,i,hm=>by
  simp_all [MRel]
 | (k', x) :: es, ms, clock, i, hm => by
  simp only[MRel]at hm
  obtain⟨e,ms',rfl,h1,h2,h3,h4,h5⟩:=hm
  cases i with
  |zero=>
   simp only[List.set_cons_zero,List.modify_zero_cons,MRel]
   exact⟨_,_,rfl,hk,hv,h3,h4,h5⟩
  |succ i=>
   simp only[List.set_cons_succ,List.modify_succ_cons,MRel]
   exact⟨_,_,rfl,h1,h2,h3,by simpa using h4,Qj5 hk hv i h5⟩
theorem Qfr {k v:AV} {ck cv:Value} (hk:VRel c w k ck) (hv:VRel c w v cv):∀{es:List (AV×AV)} {ms:List MapEntry} {clock:Nat},MRel c w es ms clock->
  MRel c w (es++[(k,v)]) (ms++[{key:=ck,val:=cv,born:=clock}]) (clock+1)
 |[],ms,clock,hm=>by
  simp only[MRel]at hm
  subst hm
  simp only[List.nil_append,MRel]
  grind
 |(k',x)::es,ms,clock,hm=>by
  simp only[MRel]at hm
  obtain⟨e,ms',rfl,h1,h2,h3,h4,h5⟩:=hm
  simp only[List.cons_append,MRel]
  exact⟨_,_,rfl,h1,h2,by omega,by simp;omega,Qfr hk hv h5⟩
theorem HRel.setMap (H:HRel c h w) {b g:Nat} {es es':List (AV×AV)} (hlim:b<lim) (hb:h.get b=some (.map g es)) {cb:Nat} (hp:c.ρ b g=some (.loc cb 0)) {ms':Array MapEntry} {clock':Nat}
  (hm:∀c' w',Evo c w c' w'->MRelT c' w' es' ms'.toList clock'):
  ∃c',Evo c w c' (upd w cb (.map ms' clock'))/\HRel c' (h.set b (.map g es')) (upd w cb (.map ms' clock')):=by
 obtain⟨ms,clock,hO,hC,hR,hcl⟩:=H.atMap hb hp
 have hlt:=Qbd hC
 have:=H.put (b:=b) (cb:=cb) (base:=0) (x:= .map g es') (w':=upd w cb (.map ms' clock')) hlim
  (fun y hy=>H.later b _ hb y hy) (.inr hp) (.inr ⟨g,0,⟨_,hb,rfl,fun k=>by simp⟩,hp⟩) rfl rfl rfl (by simp[upd]) (by simp_all [upd])
  (fun k _ hne=>Qfm hne)
  (fun C2 e2 fr2 h2=>by simp_all)
  (fun E=>⟨cb,ms',clock',Qa6,.inr rfl,Qdb hlt,hm _ _ E⟩)
 grind
theorem Qc0 {cb:Nat} {ms ms':Array MapEntry} {clock clock':Nat} (hh:w.heap[cb]?=some (.map ms clock)):(setObj cb (.map ms' clock')).run P w= .ok () (upd w cb (.map ms' clock')):=by
 simp[setObj,Sem.run,hh,upd]
theorem Qfs {t kt et:TypeId} {row:Bool} {ks:List LK} {x k v r:AV} {cx ck cv:Value} {h':Heap} (H:HRel c h w) (T:MapT P t row ks kt et) (hx:VRel c w x cx) (hkey:VRel c w k ck) (hv:VRel c w v cv)
  (hm:(aMapUpd row ks x k v).run h=some (r,h')):SoundU P c w (Instr.mapUpdate t cx ck cv) h':=by
 unfold aMapUpd at hm
 split at hm
 ·rename_i hok
  have hck:=fun e=>QdQ (P:=P) T hkey hok e
  cases x<;>simp only at hm<;>try (cases hm;done)
  case map b g =>
   obtain⟨es,hb,hm⟩:=Qcm hm
   simp only[VRel]at hx
   obtain⟨cb,hp,rfl⟩:=hx
   obtain⟨ms,clock,hO,hC,hR,hcl⟩:=H.atMap hb hp
   split at hm
   ·rename_i i xo hf
    obtain⟨hlim,hm⟩:=Qa3 hm
    simp only[HM.run,Option.some.injEq,Prod.mk.injEq]at hm
    obtain⟨_,rfl⟩:=hm
    obtain⟨r',h1,h2⟩:=QbC (P:=P) (w:=w) T hkey hR hf
    cases r' with
    |none=>simp[FoundRel]at h2
    | some r' =>
     obtain⟨i',xv⟩:=r'
     simp only[FoundRel]at h2
     obtain⟨rfl,_⟩:=h2
     obtain⟨_,k',hk1,hk2⟩:=Qg4 hf
     simp only[Nat.sub_zero]at hk1
     obtain⟨e,he,hke,_⟩:=QdR i hR hk1
     have hrow:row=true\/∃lk,ks=[lk]:=by
      cases hrw:row with
      |true=>exact .inl rfl
      |false=>
       have hkk:=T.hk
       have hr:=T.hr
       rw[hrw]at hr
       have hl:=Qb7 hkk hr
       match ks,hl with
       |[lk],_=>exact .inr ⟨lk,rfl⟩
     obtain⟨hsame,hbits⟩:=Qhy hk2 hkey hke hrow
     have hkeep:(Instr.keyThatStays e.key ck).run P w= .ok ck w:=by
      simp_all [Instr.keyThatStays]
     rw[Array.getElem?_toList]at he
     obtain ⟨c', E, H'⟩ := H.setMap hlim hb hp (es' := es.set i (k, v)) (ms' := ms.modify i fun e => { e with key := ck, val := cv }) (clock' := clock)
      (fun c' w' E => by
       have:=Qj5 (VRel.mono (E.ext H.disj) _ _ hkey) (VRel.mono (E.ext H.disj) _ _ hv) i (MRel.mono (E.ext H.disj) _ _ _ hR)
       exact⟨by simp_all,by simpa using hcl⟩)
     refine⟨c',_,?_,E,H'⟩
     simp[Instr.mapUpdate,run_underlying T.hu,QbM hC,hck,h1,he,hkeep,Qc0 hC]
   ·rename_i hf
    obtain⟨hlim,hm⟩:=Qa3 hm
    simp only[HM.run,Option.some.injEq,Prod.mk.injEq]at hm
    obtain⟨_,rfl⟩:=hm
    obtain⟨r',h1,h2⟩:=QbC (P:=P) (w:=w) T hkey hR hf
    have:r'=none:=by grind [FoundRel]
    subst this
    obtain ⟨c', E, H'⟩ := H.setMap hlim hb hp (es' := es ++ [(k, v)]) (ms' := ms.push { key := ck, val := cv, born := clock }) (clock' := clock + 1)
     (fun c' w' E => by
      have:=Qfr (VRel.mono (E.ext H.disj) _ _ hkey) (VRel.mono (E.ext H.disj) _ _ hv) (MRel.mono (E.ext H.disj) _ _ _ hR)
      exact⟨by simp_all,by simpa using hcl⟩)
    refine⟨c',_,?_,E,H'⟩
    simp[Instr.mapUpdate,run_underlying T.hu,QbM hC,hck,h1,Qc0 hC]
   grind [HM.run]
 grind [HM.run]
theorem QjR {t:TypeId} {s:Site} {i:Nat} {v:AV} {h':Heap} {reserve:Option Value} (hres:∀r,reserve=some r->(∃k n,r= .int k n)/\∃kt et,P.underlying t=some (.map kt et)) (H:HRel c h w) (hm:(aMakeMap s i).run h=some (v,h')):
  Sound P c w (Instr.makeMap t reserve) v h':=by
 unfold aMakeMap at hm
 obtain⟨b,g,hlim,hg,hm⟩:=Qde hm
 simp only[HM.run,Option.some.injEq,Prod.mk.injEq]at hm
 obtain⟨rfl,rfl⟩:=hm
 have hnone:∀y,g<=y->c.ρ b y=none:=by
  intro y hy
  rcases hg with⟨h1,h2⟩|⟨z,h1,h2⟩
  ·exact H.fresh b h1 y
  ·exact H.later b z h1 y (by omega)
 have hat:(w.alloc (.map #[] 0)).heap[w.heap.size]?=some (.map #[] 0):=by show(w.heap.push _)[w.heap.size]?=_;simp
 have:=H.put (b:=b) (cb:=w.heap.size) (base:=0) (x:= .map g []) (w':=w.alloc (.map #[] 0)) hlim
  (fun y hy=>hnone y (Nat.le_of_lt hy)) (.inl (hnone g (Nat.le_refl _))) (.inl rfl) rfl rfl rfl (by simp) (by simp)
  (fun k hk _=>Go.RowKit.Below.heap_alloc w _ k hk)
  (fun C2 e2 fr2 h2=>by simp_all)
  (fun E=>⟨w.heap.size, #[],0,Qa6,.inr rfl,hat,by simp[MRel],rfl⟩)
 refine⟨.map (some w.heap.size),_,_,?_,this.1,this.2,?_⟩
 ·cases reserve with
  |none=>simp[Instr.makeMap]
  |some r=>
   obtain⟨⟨k,n,rfl⟩,kt,et,hu⟩:=hres r rfl
   simp[Instr.makeMap,run_underlying hu,asInt,asIntOf]
 ·simp only [VRel]
  exact⟨_,Qa6,rfl⟩
end Go.AM
