/- A part of the proof of CatalogueSynthesisCardSaid: lemmas on the way (AnZm, AmQa, AmQb, AmQd, AmQw, AmQe, AmTa, AnZn, AnGa, AmTc, AmTd, AmTe, AmTb, AmTw, AmTf, AmTg, AmTh, AmTj, AmTk, AmTl, AmTi, AmTn, AnCx, AnDa, AnDb). Conditions: none of ours. -/
import Derived.Test.YteiijgolpigjdaaGreatDoorProg
import Derived.KernelRfl
import Derived.Test.YteiijgolpigjdaaGreatDoorAmS10
set_option linter.unusedSectionVars false
set_option maxHeartbeats 32000000
set_option maxRecDepth 100000
set_option linter.unusedVariables false
set_option linter.unusedSimpArgs false
namespace Go.AM.KN
open Go.Proofs
set_option maxHeartbeats 4000000
noncomputable section
def cf:YA.Cf:={}
noncomputable def ft:FT2:=YA.tre Tryz.prog cf 20 [5,7,8,14,15,16,18,19,20,21,22,23,24,25,35,36,37,38,39,73,74,75,106,107,108,109,110,111,112,113,114,115,116,117,144,145,146,147,148,149,150,151,152,153,170,171,172,173,174,177,178]
theorem ft_ok:ft.OK Tryz.prog:=YA.QfQ _ _ (YA.Qe4 (by kernel_rfl))
end
end Go.AM.KN
namespace Go.AM
variable{P:Program}
section
variable{N:NM}{n:Nat}{d:Option Nat}{af dead:List Nat}{r:List SOper}{T:Tmps}{h:Heap}{Q:QC}{fs:List Fr}
def wL(P:Program)(N:NM)(o:Option (List AV))(len:Nat)(v:AV)(d:Option Nat)(ops:List SOper)(dead:List Nat)(fs:List Fr)(n:Nat)(T:Tmps)(h:Heap)(Q:QC):Prop:=∃cs,o=some cs/\cs.length=len/\wN P N cs v d ops dead fs n T h Q
theorem Qiz{cs:List AV}{len:Nat}{v:AV}:wL P N (some cs) len v d r dead fs n T h Q=if cs.length=len then wN P N cs v d r dead fs n T h Q else False:=by simp_all[wL]
theorem wN_go{x:List AV}{v:AV}(a:n<1099511627775):wN P N x v d r dead fs n T h Q=if h.get n=none then wR P N r dead fs (n+1) (putD T d v) (h.set n (.cells 0 x)) Q else False:=by
 split;·rename_i b;exact QrW b a
 simp_all[wN]
theorem wB_go{x:Blk}{b:Nat}{v:AV}(a:b<1099511627775):wB P N (some x) b v d r dead fs n T h Q=wR P N r dead fs (n+1) (putD T d v) (h.set b x) Q:=Qit a
theorem QaA{k:Nat}{x:Blk}(a:k<1099511627775):(h.set k x).get k=some x:=by rw[Tr.Qa2 h a];simp
theorem QaE{j k:Nat}{x:Blk}(b:k<1099511627775)(a:j≠k):(h.set k x).get j=h.get j:=by rw[Tr.Qa2 h b];simp[a]
theorem QfR{x:Nat->Blk}{y:List AV}(i:x 0=.cells 0 y){w:Nat->Nat->AV}:wM P N (HM.new .dyn n x fun b g=>.ret (w b g)) d r dead fs n T h Q=wN P N y (w n 0) d r dead fs n T h Q:=by
 apply propext;constructor;·rintro⟨k,h1,hm,a⟩;unfold HM.new at hm;simp only[HM.run]at hm;cases c:h.get n with|none=>rw[c]at hm;obtain⟨j,hm⟩:=Qa3 hm;simp only[HM.run,Option.some.injEq,Prod.mk.injEq]at hm;obtain⟨rfl,rfl⟩:=hm;rw[i]at a;exact⟨c,j,a⟩|some z=>rw[c]at hm;cases hm
 rintro⟨c,j,a⟩;refine⟨_,_,?_,by rw[<-i]at a;exact a⟩;unfold HM.new;simp only[HM.run,c];have f:Nat.blt n lim=true:=by simp_all
 rw[f];rfl
theorem QkZ{x:AV}:wM P N (aBox .dyn n x) d r dead fs n T h Q=if x.boxable=true then wN P N x.cells (.ptr n 0 0) d r dead fs n T h Q else False:=by
 split;·simp_all[Qqd]
 simp_all[aBox,QdO]
theorem Qei{sz len:Nat}{z:List AV}{a:List (Nat×Nat×AV)}:wM P N (aBuildSlice false .dyn n sz len z a) d r dead fs n T h Q=wL P N (fillA z a) (len*sz) (.sl n 0 0 len sz) d r dead fs n T h Q:=by unfold aBuildSlice;cases fillA z a with|none=>simp[QdO,wL]|some cs=>
 simp only[Qiz,Bool.false_eq_true,if_false];split;·exact QfR rfl
 exact QdO
theorem QeI{sz bytes:Nat}{z:List AV}{a b:IntKind}{l c:Int}:wM P N (aMakeSlice .dyn n sz bytes z (.int a l) (.int b c)) d r dead fs n T h Q=if 0<=l/\l<=c/\bytes*c<=140737488355328/\c<=140737488355328 then wN P N (List.replicate c.toNat z).flatten (.sl n 0 0 l.toNat sz) d r dead fs n T h Q else False:=by
 by_cases hc:0<=l/\l<=c/\bytes*c<=140737488355328/\c<=140737488355328;·simp only[aMakeSlice,if_pos hc];exact QfR (x:=fun g=>.cells g (List.replicate c.toNat z).flatten) rfl
 simp_all[aMakeSlice,if_neg,QdO]
theorem Qjn{cs:List AV}:fillA cs []=some cs:=rfl
theorem Qh0{cs:List AV}{off size:Nat}{v:AV}{r:List (Nat×Nat×AV)}:fillA cs ((off,size,v)::r)=if v.cells.length=size/\off+size<=cs.length/\v.boxable=true then fillA (putR cs off v.cells) r else none:=rfl
theorem Qjo{z:List AV}{a:List (Nat×Nat×AV)}:aBuild z a=(fillA z a).map AV.agg:=by grind[aBuild]
theorem Qjp{k:IntKind}{a:Int}:(AV.int k a).cells=[.int k a]:=rfl
theorem Qjq{cs:List AV}:(AV.agg cs).cells=cs:=rfl
theorem Qk0{b g off len sz:Nat}:(AV.sl b g off len sz).cells=[.sl b g off len sz]:=rfl
theorem Qjr{cs:List AV}{len sz:Nat}:(AV.fsl cs len sz).cells=[.fsl cs len sz]:=rfl
theorem QgP:AV.nilsl.cells=[.nilsl]:=rfl
theorem QmS{k:IntKind}{a:Int}:(AV.int k a).boxable=true:=rfl
theorem QmT{cs:List AV}:(AV.agg cs).boxable=true:=rfl
theorem QoV{b g off len sz:Nat}:(AV.sl b g off len sz).boxable=true:=rfl
theorem QmU{cs:List AV}{len sz:Nat}:(AV.fsl cs len sz).boxable=true:=rfl
theorem Qjs:AV.nilsl.boxable=true:=rfl
theorem QmV{k:IntKind}{a:Int}:(AV.int k a).one=true:=rfl
theorem QoW{b g off len sz:Nat}:(AV.sl b g off len sz).one=true:=rfl
theorem QmW{cs:List AV}{len sz:Nat}:(AV.fsl cs len sz).one=true:=rfl
theorem Qjt:AV.nilsl.one=true:=rfl
theorem Qk1{cs:List AV}{off:Nat}{v:AV}:putR cs off [v]=cs.set off v:=rfl
theorem Qju{cs:List AV}{off:Nat}{v w:AV}{vs:List AV}:putR cs off (v::w::vs)=cs.take off++(v::w::vs)++cs.drop (off+(v::w::vs).length):=rfl
def srcB(o:Option Blk)(g off len sz:Nat):Option (List AV):=match o with|some (.cells a cs)=>if a=g/\off+len*sz<=cs.length then some ((cs.drop off).take (len*sz))else none|_=>none
theorem QcR{g a off len sz:Nat}{cs:List AV}:srcB (some (.cells a cs)) g off len sz=if a=g/\off+len*sz<=cs.length then some ((cs.drop off).take (len*sz))else none:=rfl
theorem Qmj{sz bytes b g off len:Nat}:wM P N (aAppend .dyn n sz bytes .nilsl (.sl b g off (len+1) sz)) d r dead fs n T h Q=∃ys,srcB (h.get b) g off (len+1) sz=some ys/\((len+1)*bytes<=140737488355328/\len+1<=140737488355328)/\ys.all AV.one=true/\wN P N ys (.sl n 0 0 (len+1) sz) d r dead fs n T h Q:=by
 simp only[aAppend,aSrc,if_true,slLen,Nat.zero_add,Qdh,Qc3];apply propext;constructor;·rintro⟨cs,i,h1,a,f⟩;rw[i,QcR,if_pos ⟨rfl,h1⟩];exact⟨_,rfl,⟨a.1,a.2.1⟩,a.2.2,by rw[QfR rfl]at f;exact f⟩
 rintro⟨ys,c,a,f,j⟩;unfold srcB at c;split at c
 ·rename_i k cs i;split at c;·rename_i e;obtain⟨rfl,e⟩:=e;cases c;exact⟨cs,i,e,⟨a.1,a.2,f⟩,by rw[QfR rfl];exact j⟩
  cases c
 cases c
theorem QnO{sz bytes b g off len b2 f c a:Nat}:wM P N (aAppend .dyn n sz bytes (.sl b2 f c a sz) (.sl b g off len sz)) d r dead fs n T h Q=∃ys i,srcB (h.get b) g off len sz=some ys/\srcB (h.get b2) f c a sz=some i/\((a+len)*bytes<=140737488355328/\a+len<=140737488355328)/\ys.all AV.one=true/\wB P N (some (.cells (f+1) (i++ys))) b2 (.sl b2 (f+1) 0 (a+len) sz) d r dead fs n T h Q:=by
 simp only[aAppend,aSrc,if_true,slLen,Qdh,Qc3,QfK];apply propext;constructor;·rintro⟨cs,s,h1,q,p,j,k,o⟩;rw[s,j,QcR,QcR,if_pos ⟨rfl,h1⟩,if_pos ⟨rfl,k⟩];simp_all
 rintro⟨ys,i,m,l,q,k,o⟩;unfold srcB at m l;grind
end
def Fresh(n:Nat)(h:Heap):Prop:=∀b,n<=b->h.get b=none
theorem Fresh.e{n:Nat}:Fresh n .e:=fun b _=>by simp[Tr.get]
theorem Fresh.le{n m:Nat}{h:Heap}(hf:Fresh n h)(a:n<=m):Fresh m h:=fun b c=>hf b (Nat.le_trans a c)
theorem Fresh.set{n k:Nat}{h:Heap}{x:Blk}(hf:Fresh n h)(a:k<1099511627775)(d:k<n):Fresh n (h.set k x):=fun b c=>by rw[QaE a (by omega)];exact hf b c
end Go.AM
namespace Go.AM
variable{P:Program}
def FrzTo(h:Heap)(x y:AV):Prop:=∀(ok:Okc)(c:Ctx ok)(w:World)(v:Value),HRel c h w->VRel c w x v->VRel (lent c) w y v
def FrzL(h:Heap):List AV->List AV->Prop|[],[]=>True|x::xs,y::a=>FrzTo h x y/\FrzL h xs a|_,_=>False
variable{h:Heap}
theorem FrzTo.same(x:AV):FrzTo h x x:=fun _ c w v _ a=>VRel.mono (Qhc c w) _ _ a
theorem FrzL.same:∀(xs:List AV),FrzL h xs xs|[]=>trivial|x::xs=>⟨.same x,FrzL.same xs⟩
theorem FrzL.length:∀{xs ys:List AV},FrzL h xs ys->ys.length=xs.length|[],[],_=>rfl|[],_::_,a=>a.elim|_::_,[],a=>a.elim|x::xs,y::ys,a=>by simp[FrzL.length a.2]
theorem FrzL.pre{ok:Okc}{c:Ctx ok}{w:World}(H:HRel c h w):∀{xs ys:List AV}{vs:List Value},FrzL h xs ys->VPre c w xs vs->VPre (lent c) w ys vs|[],[],_,_,_=>by simp[VPre]|[],_::_,_,a,_=>a.elim|_::_,[],_,a,_=>a.elim|x::xs,y::ys,vs,a,d=>by simp only[VPre]at d⊢;obtain⟨v,b,rfl,f,g⟩:=d;exact⟨v,b,rfl,a.1 _ c w v H f,FrzL.pre H a.2 g⟩
theorem FrzL.rels{ok:Okc}{c:Ctx ok}{w:World}(H:HRel c h w):∀{xs ys:List AV}{vs:List Value},FrzL h xs ys->VRels c w xs vs->VRels (lent c) w ys vs|[],[],_,_,b=>by grind[VRels]|[],_::_,_,a,_=>a.elim|_::_,[],_,a,_=>a.elim|x::xs,y::ys,vs,a,b=>by simp only[VRels]at b⊢;obtain⟨v,d,rfl,f,g⟩:=b;exact⟨v,d,rfl,a.1 _ c w v H f,FrzL.rels H a.2 g⟩
theorem FrzTo.sl{b g off len sz:Nat}{cs ys:List AV}(r:h.get b=some (.cells g cs))(G:off+len*sz<=cs.length)(p:FrzL h ((cs.drop off).take (len*sz)) ys):FrzTo h (.sl b g off len sz) (.fsl ys len sz):=fun _ c w v H m=>by
 have hlen:=p.length;simp only[VRel]at m;rcases m with⟨hp,rfl,rfl,rfl⟩|⟨y,base,o,cap,C,e,A,hp,rfl,j,q,f⟩;·simp_all[VRel]
 obtain⟨C',F,x,E,d,s,t,i⟩:=H.here r hp;rw[q]at d;cases d;by_cases u:cap=0
 ·have k:len=0:=by omega
  subst k;have l:ys=[]:=by simp_all
  subst l;simp only[VRel];simp_all
 obtain⟨rfl,B⟩:=f.resolve_left u;have a:=Qb6 (len*sz) (Qbj off i);rw[List.drop_drop]at a;simp only[VRel];exact .inr ⟨y,base+off,cap,C,e,A,rfl,j,by grind,.inr E,q,p.pre H a⟩
section
variable{N:NM}{n:Nat}{d:Option Nat}{af dead:List Nat}{r:List SOper}{T:Tmps}{Q:QC}{fs:List Fr}
end
end Go.AM
namespace Go.AM
variable{P:Program}
abbrev HL:=List (Nat×Blk)
def hp:HL->Heap|[]=>.e|p::r=>(hp r).set p.1 p.2
theorem Qk2:hp []=.e:=rfl
theorem Qa4{b:Nat}{x:Blk}{r:HL}:hp ((b,x)::r)=(hp r).set b x:=rfl
theorem get_e{b:Nat}:Tr.get (α:=Blk) .e b=none:=by simp[Tr.get]
def lkS:List (Nat×Src)->Nat->Option Src|[],_=>none|(b,s)::r,k=>if k=b then some s else lkS r k
def srcNew(s:Src):List (Nat×Src)->Bool|[]=>true|(_,t)::r=>(match s,t with|.blk b _,.blk a _=>!Nat.beq b a|_,_=>true)&&srcNew s r
def okPs(m:Nat):List (Nat×Src)->HL->Bool|[],[]=>true|(b,s)::r,(a,_)::l=>Nat.beq b a&&Nat.blt b 1099511627775&&(Nat.blt b m||((match s with|.blk k _=>Nat.ble m k|.nil=>true)&&srcNew s r))&&(r.all fun p=>!Nat.beq p.1 b)&&okPs m r l|_,_=>false
def ow(m:Nat)(a:List (Nat×Src)):Nat->Option Src:=fun b=>if b<m then none else lkS a b
def RB(m:Nat)(π:Nat->Option Src)(h:Heap):HL->Prop|[]=>True|(a,x)::r=>((a<m/\BRn m π h (some (.blk a x.gen)) x)\/(m<=a/\x.gen=0/\(∀g,x≠.dead g)/\BRn m π h (π a) x))/\RB m π h r
section
variable{m:Nat}{π:Nat->Option Src}{h:Heap}
theorem QoX:∀{L:HL}{d:List (Nat×Src)},okPs m d L=true->∀{b:Nat}{x:Blk},(hp L).get b=some x->(b,x)∈L
 |[],[],_,b,x,c=>by simp[hp,Tr.get]at c|[],_::_,a,_,_,_=>by simp[okPs]at a|(i,f)::L,[],a,_,_,_=>by simp[okPs]at a|(i,f)::L,(k,s)::d,a,b,x,c=>by
  simp only[okPs,Bool.and_eq_true,Nat.blt_eq,Nat.beq_eq]at a;obtain⟨⟨⟨⟨rfl,g⟩,_⟩,_⟩,h⟩:=a;simp only[hp]at c;by_cases e:b=k;·simp_all[QaA]
  rw[QaE g e]at c;simp[QoX h c]
theorem QmX:∀{L:HL}{d:List (Nat×Src)},okPs m d L=true->∀{b:Nat},(hp L).get b=none->lkS d b=none
 |[],[],_,b,_=>rfl|[],_::_,a,_,_=>by simp[okPs]at a|(i,f)::L,[],a,_,_=>by simp[okPs]at a|(i,f)::L,(k,s)::d,a,b,c=>by
  simp only[okPs,Bool.and_eq_true,Nat.blt_eq,Nat.beq_eq]at a;obtain⟨⟨⟨⟨rfl,g⟩,_⟩,_⟩,h⟩:=a;simp only[hp]at c;by_cases e:b=k;·simp_all[QaA]
  rw[QaE g e]at c;simp only[lkS,if_neg e];exact QmX h c
theorem RB.mem:∀{L:HL},RB m π h L->∀{b:Nat}{x:Blk},(b,x)∈L->(b<m/\BRn m π h (some (.blk b x.gen)) x)\/(m<=b/\x.gen=0/\(∀g,x≠.dead g)/\BRn m π h (π b) x)
 |[],_,_,_,hm=>by cases hm|(d,c)::L,a,b,x,hm=>by
  rcases List.mem_cons.1 hm with e|hm;·cases e;exact a.1
  exact RB.mem a.2 hm
theorem Qk3:∀{d:List (Nat×Src)}{L:HL},okPs m d L=true->∀{b f g:Nat},m<=b->lkS d b=some (.blk f g)->m<=f
 |[],_,_,_,_,_,_,a=>by simp[lkS]at a|_::_,[],c,_,_,_,_,_=>by simp[okPs]at c|(k,s)::d,(l,o)::L,c,b,f,g,j,a=>by
  simp only[okPs,Bool.and_eq_true,Bool.or_eq_true,Nat.blt_eq]at c;obtain⟨⟨⟨_,h⟩,_⟩,i⟩:=c;simp only[lkS]at a;split at a
  ·rename_i e;cases a;rcases h with h|h;·omega
   simp_all
  exact Qk3 i j a
theorem QfS:∀{d:List (Nat×Src)}{b g c h k:Nat},srcNew (.blk b g) d=true->lkS d k=some (.blk c h)->b≠c
 |[],_,_,_,_,_,_,a=>by simp[lkS]at a|(j,s)::d,b,g,c,h,k,f,a=>by
  simp only[srcNew,Bool.and_eq_true]at f;simp only[lkS]at a;split at a;·cases a;have:=f.1;simp only[Bool.not_eq_true']at this;intro e;simp_all
  exact QfS f.2 a
theorem Qk4:∀{f:List (Nat×Src)}{L:HL},okPs m f L=true->∀{h b2 b g i:Nat},m<=h->m<=b2->lkS f h=some (.blk b g)->lkS f b2=some (.blk b i)->h=b2
 |[],_,_,_,_,_,_,_,_,_,p,_=>by simp[lkS]at p|_::_,[],d,_,_,_,_,_,_,_,_,_=>by simp[okPs]at d|(k,s)::f,(t,u)::L,d,h,b2,b,g,i,q,l,h1,c=>by
  simp only[okPs,Bool.and_eq_true,Bool.or_eq_true,Nat.blt_eq]at d;obtain⟨⟨⟨_,a⟩,_⟩,o⟩:=d;simp only[lkS]at h1 c;split at h1<;>split at c;·omega
  ·rename_i j r;cases h1;rcases a with a|a;·omega
   exact absurd rfl (QfS a.2 c)
  ·rename_i j r;cases c;rcases a with a|a;·omega
   exact absurd rfl (QfS a.2 h1)
  exact Qk4 o q l h1 c
theorem QmY:∀{d:List (Nat×Src)}{L:HL},okPs m d L=true->∀{b:Nat}{s:Src},lkS d b=some s->∃x,(b,x)∈L
 |[],_,_,_,_,a=>by simp[lkS]at a|_::_,[],c,_,_,_=>by simp[okPs]at c|(k,t)::d,(h,i)::L,c,b,s,a=>by
  simp only[okPs,Bool.and_eq_true,Nat.beq_eq]at c;obtain⟨⟨⟨⟨rfl,_⟩,_⟩,_⟩,f⟩:=c;simp only[lkS]at a;split at a;·simp_all
  obtain⟨x,g⟩:=QmY f a;grind
def RO(m:Nat)(L:HL)(h:Heap):Prop:=∀b,b<m->(∀p∈L,p.1≠b)->h.get b=none
theorem RO.zero{L:HL}:RO 0 L h:=fun b a=>absurd a (Nat.not_lt_zero _)
theorem RO.e{L:HL}:RO m L .e:=fun b _ _=>get_e
theorem RO.set{L:HL}{k:Nat}{x:Blk}(a:(Nat.blt k 1099511627775&&(Nat.ble m k||L.any fun p=>Nat.beq p.1 k))=true)(c:RO m L h):RO m L (h.set k x):=fun b f d=>by
 simp only[Bool.and_eq_true,Bool.or_eq_true,Nat.blt_eq,Nat.ble_eq,List.any_eq_true,Nat.beq_eq]at a;obtain⟨h1,g⟩:=a;have:b≠k:=by grind
 rw[QaE h1 this];exact c b f d
def Rec(m:Nat)(T':Tmps)(L:HL)(T:Tmps)(h:Heap):Prop:=∃a,okPs m a L=true/\RO m L h/\RB m (ow m a) h L/\RT m (ow m a) h T' T
theorem ow_ge{a:List (Nat×Src)}{b:Nat}(c:m<=b):ow m a b=lkS a b:=if_neg (by omega)
theorem Rec.maps{c:List (Nat×Src)}{L:HL}(ho:okPs m c L=true)(r:RB m (ow m c) h L):Maps m (ow m c) h:=by
 refine⟨fun w b g hm d=>?_,fun t b2 b g u l j h1 o=>Qk4 ho l j (by rw[<-ow_ge l];exact h1) (by rw[<-ow_ge j];exact o)⟩;rw[ow_ge hm]at d;refine⟨?_,Qk3 ho hm d⟩;obtain⟨x,s⟩:=QmY ho d;rcases r.mem s with⟨v,_⟩|⟨_,q1,q2,f⟩;·omega
 rw[ow_ge hm,d]at f;cases x with|cells i cs=>obtain⟨q,_,a,_⟩:=f;exact⟨_,a,rfl,fun k=>by simp⟩|map i es=>obtain⟨q,a,_⟩:=f;exact⟨_,a,rfl,fun k=>by simp⟩|loop i N T c p body st=>obtain⟨T0,a,_⟩:=f;exact⟨_,a,rfl,fun k=>by simp⟩|dead i=>exact absurd rfl (q2 i)
theorem Rec.heap{a:List (Nat×Src)}{L:HL}(ho:okPs m a L=true)(b:RB m (ow m a) h L):RH m (ow m a) h (hp L):=fun d f c=>b.mem (QoX ho c)
theorem QoY:∀{L:HL}{f:List (Nat×Src)},okPs m f L=true->∀{b:Nat},(hp L).get b=none->∀p∈L,p.1≠b
 |[],_,_,_,_,p,hp=>by cases hp|(i,j)::L,[],c,_,_,_,_=>by simp[okPs]at c|(i,j)::L,(k,s)::f,c,b,d,p,a=>by
  simp only[okPs,Bool.and_eq_true,Nat.blt_eq,Nat.beq_eq]at c;obtain⟨⟨⟨⟨rfl,g⟩,_⟩,_⟩,h⟩:=c;simp only[hp]at d;by_cases e:b=k;·simp_all[QaA]
  rw[QaE g e]at d;rcases List.mem_cons.1 a with rfl|a;·omega
  exact QoY h d p a
theorem Rec.dom{b:List (Nat×Src)}{L:HL}(ho:okPs m b L=true)(f:RO m L h):RD m (ow m b) h (hp L):=fun g d=>⟨fun a=>f g a (QoY ho d),fun c=>by grind[ow_ge,QmX]⟩
theorem W2.recL{c:SCode}{n:Nat}{Q:SX->St->Prop}{T T':Tmps}{L:HL}(f:Rec m T' L T h)(hw:W2 P ⟨n,m⟩ c Q ⟨T',hp L⟩):W2 P ⟨n,m⟩ c Q ⟨T,h⟩:=by obtain⟨g,ho,a,b,d⟩:=f;exact W2.recast (N:=⟨n,m⟩) (Rec.maps ho b) (Rec.heap ho b) (Rec.dom ho a) d hw
theorem W2.post{j:SCode}{k:Nat}{Q:SX->St->Prop}{A:St}(hw:W2 P ⟨k,m⟩ j (fun e B=>Q e B\/∃T' L,Rec m T' L B.T B.h/\Q e ⟨T',hp L⟩) A):W2 P ⟨k,m⟩ j Q A:=by
 intro code g c a w S ro b Q' q;refine hw code g c a w S ro b Q' ?_;rintro e B d r f(l|⟨T',L,⟨h,ho,b,o,p⟩,l⟩)S' E';·grind
 have M:=Rec.maps ho o;exact q e ⟨T',hp L⟩ (nctx m (ow m h) B.h d) r f l ⟨(Rec.heap ho o).hrel (Rec.dom ho b) M S'.heap,fun i=>p i _ d f _ S'.heap M (S'.tmps i),S'.size,S'.defers.mono2 (Qd0 (m:=m) (π:=ow m h) (h:=B.h) d f)⟩ (E'.trans (Qd0 d f))
theorem RT.nil{T:Tmps}:RT m π h [] T:=fun _=>Rn.any
theorem RT.cons{T' T:Tmps}{j:Nat}{v:AV}(b:Rn m π h v (lk T j))(a:RT m π h T' T):RT m π h ((j,v)::T') T:=by
 intro i;rw[QaX];split;·simp_all
 exact a i
theorem RB.nil:RB m π h []:=trivial
theorem RB.cells{b a g:Nat}{cs ds:List AV}{r:HL}(hm:Nat.ble m a=true)(hp:π a=some (.blk b g))(c:h.get b=some (.cells g ds))(hc:RnL m π h cs ds)(d:RB m π h r):RB m π h ((a,.cells 0 cs)::r):=⟨.inr ⟨Nat.le_of_ble_eq_true hm,rfl,fun _=>by simp,by rw[hp];exact⟨ds,ds.length,c,by simp_all⟩⟩,d⟩
theorem RB.newnil{a:Nat}{r:HL}(hm:Nat.ble m a=true)(hp:π a=some .nil)(b:RB m π h r):RB m π h ((a,.cells 0 [])::r):=⟨.inr ⟨Nat.le_of_ble_eq_true hm,rfl,fun _=>by simp,by rw[hp];rfl⟩,b⟩
theorem RB.map{b a g:Nat}{es fs:List (AV×AV)}{r:HL}(hm:Nat.ble m a=true)(hp:π a=some (.blk b g))(c:h.get b=some (.map g fs))(hc:RnM m π h es fs)(d:RB m π h r):RB m π h ((a,.map 0 es)::r):=⟨.inr ⟨Nat.le_of_ble_eq_true hm,rfl,fun _=>by simp,by rw[hp];exact⟨fs,c,hc⟩⟩,d⟩
theorem RB.cellsB{b g:Nat}{cs ds:List AV}{r:HL}(hm:Nat.blt b m=true)(a:h.get b=some (.cells g ds))(hc:RnL m π h cs ds)(c:RB m π h r):RB m π h ((b,.cells g cs)::r):=⟨.inl ⟨by simpa using hm,ds,ds.length,a,by simp_all⟩,c⟩
theorem RB.mapB{b g:Nat}{es fs:List (AV×AV)}{r:HL}(hm:Nat.blt b m=true)(a:h.get b=some (.map g fs))(hc:RnM m π h es fs)(c:RB m π h r):RB m π h ((b,.map g es)::r):=⟨.inl ⟨by simpa using hm,fs,a,hc⟩,c⟩
theorem QiA{s:Src}:∀{g:List (Nat×Src)},srcNew s g=true->∀d c,lkS g d=some c->(match s,c with|.blk b _,.blk b2 _=>b≠b2|_,_=>True)
 |[],_,d,c,a=>by simp[lkS]at a|(j,t)::g,f,d,c,a=>by
  simp only[srcNew,Bool.and_eq_true]at f;simp only[lkS]at a;split at a;·cases a;have:=f.1;cases s<;>cases t<;>simp_all;intro e;simp_all
  exact QiA f.2 d c a
theorem RnL.nil{m:Nat}{π:Nat->Option Src}{h:Heap}:RnL m π h [] []:=trivial
theorem RnL.cons{m:Nat}{π:Nat->Option Src}{h:Heap}{x y:AV}{xs ys:List AV}(h1:Rn m π h x y)(a:RnL m π h xs ys):RnL m π h (x::xs) (y::ys):=⟨h1,a⟩
theorem Rn.fz{a:List (Nat×Src)}{b g len sz:Nat}{cs ds:List AV}(d:h.get b=some (.cells g ds))(f:srcNew (.blk b g) a=true)(hm:Nat.ble m b=true)(j:ds.length=len*sz)(l:RnL m (ow m a) h cs ds):Rn m (ow m a) h (.fsl cs len sz) (.sl b g 0 len sz):=by
 refine Rn.frz d (by simpa using hm) (fun i k c e=>?_) (by omega) ?_;·rw[ow_ge c]at e;exact QiA f i _ e rfl
 grind
theorem Rn.fzm{a:List (Nat×Src)}{b g len sz k:Nat}{cs ds:List AV}(c:h.get b=some (.cells g ds))(i:srcNew (.blk b g) a=true)(hm:Nat.ble m b=true)(d:k=len)(f:ds.length=len*sz)(j:RnL m (ow m a) h cs ds):Rn m (ow m a) h (.fsl cs k sz) (.sl b g 0 len sz):=by simp_all[Rn.fz]
theorem Rn.fz0{b g len sz:Nat}{cs ds:List AV}(a:h.get b=some (.cells g ds))(c:ds.length=len*sz)(f:RnL 0 π0 h cs ds):Rn 0 π0 h (.fsl cs len sz) (.sl b g 0 len sz):=by refine Rn.frz a (Nat.zero_le _) (fun i d _ e=>by simp[π0]at e) (by omega) ?_;grind
end
theorem Rn.slot{m:Nat}{π:Nat->Option Src}{h:Heap}{T:Tmps}{j:Nat}{v:AV}(a:lk T j=v)(b:noRef v=true):Rn m π h v (lk T j):=by simp_all[Rn.same]
section
variable{m:Nat}{π:Nat->Option Src}{h:Heap}
theorem Rn.x1{a b g off len sz:Nat}(hm:Nat.ble m a=true)(hp:π a=some (.blk b g)):Rn m π h (.sl a 0 off len sz) (.sl b g off len sz):=Rn.sl (Nat.le_of_ble_eq_true hm) hp
theorem Rn.x2{a b g off:Nat}(hm:Nat.ble m a=true)(hp:π a=some (.blk b g)):Rn m π h (.ptr a 0 off) (.ptr b g off):=Rn.ptr (Nat.le_of_ble_eq_true hm) hp
theorem Rn.x3{a b g:Nat}(hm:Nat.ble m a=true)(hp:π a=some (.blk b g)):Rn m π h (.map a 0) (.map b g):=Rn.map (Nat.le_of_ble_eq_true hm) hp
theorem Rn.x4{a sz:Nat}(hm:Nat.ble m a=true)(hp:π a=some .nil):Rn m π h (.sl a 0 0 0 sz) .nilsl:=Rn.slnil (Nat.le_of_ble_eq_true hm) hp
theorem Rn.x5{b g off len sz:Nat}(hm:Nat.ble (b+1) m=true):Rn m π h (.sl b g off len sz) (.sl b g off len sz):=Rn.slB (Nat.le_of_ble_eq_true hm)
theorem Rn.x6{b g off:Nat}(hm:Nat.ble (b+1) m=true):Rn m π h (.ptr b g off) (.ptr b g off):=Rn.ptrB (Nat.le_of_ble_eq_true hm)
theorem Rn.x7{b g:Nat}(hm:Nat.ble (b+1) m=true):Rn m π h (.map b g) (.map b g):=Rn.mapB (Nat.le_of_ble_eq_true hm)
end
section
variable{k m n:Nat}{T:Tmps}{h:Heap}{Q:QC}{fs:List Fr}{α:Type}{env:α->Tmps}{H:α->HL}{I:α->Prop}{μ:α->Nat}{a:α}
def loopR(P:Program)(k m:Nat){α:Type}(env:α->Tmps)(H:α->HL)(I:α->Prop)(μ:α->Nat)(a:α)(fs:List Fr)(Q:QC):QC:=fun e T h n=>match e with|.normal=>∃b,μ b<μ a/\I b/\Rec m (env b) (H b) T h|e=>wX P ⟨k,m⟩ e fs n T h Q
theorem QfT:loopR P k m env H I μ a fs Q .normal T h n=∃b,μ b<μ a/\I b/\Rec m (env b) (H b) T h:=rfl
theorem Qh1{i:Nat}:loopR P k m env H I μ a fs Q (.exit i) T h n=wX P ⟨k,m⟩ (.exit i) fs n T h Q:=rfl
theorem Qjv:loopR P k m env H I μ a fs Q .ret T h n=wX P ⟨k,m⟩ .ret fs n T h Q:=rfl
theorem Qbi{b:SCode}(r:Nat)(env:α->Tmps)(H:α->HL)(I:α->Prop)(μ:α->Nat)(c:α)(p:Rec m (env c) (H c) T h)(j:I c)(round:∀a,I a->wS P ⟨k,m⟩ b [] r (env a) (hp (H a)) (loopR P k m env H I μ a fs Q)):wS P ⟨k,m⟩ (.loop b) fs n T h Q:=by show W2 P ⟨k,m⟩ (.loop b) (fun e B=>∃n,ct P ⟨k,m⟩ fs Q e B.T B.h n) ⟨T,h⟩;refine W2.loop (fun q B=>∃a,μ a=q/\I a/\Rec m (env a) (H a) B.T B.h) (μ c) ⟨c,rfl,j,p⟩ ?_;rintro q B⟨a,rfl,hi,l⟩;refine W2.recL l ((wpC.toW (round a hi)).mono ?_);rintro e C⟨f,d⟩;cases e with|normal=>obtain⟨g,h1,s,o⟩:=d;exact⟨μ g,h1,g,rfl,s,o⟩|exit i=>exact⟨f,d⟩|ret=>exact⟨f,d⟩
def loopX(P:Program)(k m:Nat){α β:Type}(env:α->Tmps)(H:α->HL)(I:α->Prop)(μ:α->Nat)(i:Nat)(T1:β->Tmps)(L1:β->HL)(J:β->Prop)(a:α)(fs:List Fr)(Q:QC):QC:=fun e T h n=>match e with|.normal=>∃c,μ c<μ a/\I c/\Rec m (env c) (H c) T h|.exit j=>if j=i then∃b,J b/\Rec m (T1 b) (L1 b) T h else wX P ⟨k,m⟩ (.exit j) fs n T h Q|.ret=>wX P ⟨k,m⟩ .ret fs n T h Q
section
variable{β:Type}{i:Nat}{T1:β->Tmps}{L1:β->HL}{J:β->Prop}
theorem QfU:loopX P k m env H I μ i T1 L1 J a fs Q .normal T h n=∃b,μ b<μ a/\I b/\Rec m (env b) (H b) T h:=rfl
theorem Qe5{j:Nat}:loopX P k m env H I μ i T1 L1 J a fs Q (.exit j) T h n=if j=i then∃b,J b/\Rec m (T1 b) (L1 b) T h else wX P ⟨k,m⟩ (.exit j) fs n T h Q:=rfl
theorem Qjw:loopX P k m env H I μ i T1 L1 J a fs Q .ret T h n=wX P ⟨k,m⟩ .ret fs n T h Q:=rfl
end
theorem Qay{b:SCode}{β:Type}(v:Nat)(env:α->Tmps)(H:α->HL)(I:α->Prop)(μ:α->Nat)(d:α)(i o:Nat)(T1:β->Tmps)(L1:β->HL)(J:β->Prop)(r:Rec m (env d) (H d) T h)(s:I d)(round:∀a,I a->wS P ⟨k,m⟩ b [] v (env a) (hp (H a)) (loopX P k m env H I μ i T1 L1 J a fs Q))(cont:∀b,J b->wX P ⟨k,m⟩ (.exit i) fs o (T1 b) (hp (L1 b)) Q):wS P ⟨k,m⟩ (.loop b) fs n T h Q:=by
 show W2 P ⟨k,m⟩ (.loop b) (fun e B=>∃n,ct P ⟨k,m⟩ fs Q e B.T B.h n) ⟨T,h⟩;refine W2.post ?_;refine W2.loop (fun q B=>∃a,μ a=q/\I a/\Rec m (env a) (H a) B.T B.h) (μ d) ⟨d,rfl,s,r⟩ ?_;rintro q B⟨a,rfl,hi,g⟩;refine W2.recL g ((wpC.toW (round a hi)).mono ?_);rintro e C⟨f,c⟩
 cases e with|normal=>obtain⟨l,h1,p,t⟩:=c;exact⟨μ l,h1,l,rfl,p,t⟩|exit j=>
  replace c:loopX P k m env H I μ i T1 L1 J a fs Q (.exit j) C.T C.h f:=c;rw[Qe5]at c;split at c;·rename_i e;subst e;obtain⟨b,u,g⟩:=c;exact .inr ⟨_,_,g,o,cont b u⟩
  exact .inl ⟨f,c⟩|ret=>exact .inl ⟨f,c⟩
end
section
variable{N:NM}{n:Nat}{d:Option Nat}{af dead:List Nat}{r:List SOper}{T:Tmps}{h:Heap}{Q:QC}{fs:List Fr}
def wA(P:Program)(N:NM)(c ys:Option (List AV))(g a len sz bytes b:Nat)(d:Option Nat)(ops:List SOper)(dead:List Nat)(fs:List Fr)(n:Nat)(T:Tmps)(h:Heap)(Q:QC):Prop:=∃y z,ys=some y/\c=some z/\((a+len)*bytes<=140737488355328/\a+len<=140737488355328)/\y.all AV.one=true/\wB P N (some (.cells (g+1) (z++y))) b (.sl b (g+1) 0 (a+len) sz) d ops dead fs n T h Q
theorem QgQ{sz bytes b g off len b2 f c a:Nat}:wM P N (aAppend .dyn n sz bytes (.sl b2 f c a sz) (.sl b g off len sz)) d r dead fs n T h Q=wA P N (srcB (h.get b2) f c a sz) (srcB (h.get b) g off len sz) f a len sz bytes b2 d r dead fs n T h Q:=by
 rw[QnO];apply propext;constructor;·rintro⟨k,i,h1,l,j,m,o⟩;exact⟨k,i,h1,l,j,m,o⟩
 rintro⟨k,i,h1,l,j,m,o⟩;simp_all
theorem QmZ{c ys:List AV}{g a len sz bytes b:Nat}(h1:(a+len)*bytes<=140737488355328)(k:a+len<=140737488355328):wA P N (some c) (some ys) g a len sz bytes b d r dead fs n T h Q=if ys.all AV.one=true then wB P N (some (.cells (g+1) (c++ys))) b (.sl b (g+1) 0 (a+len) sz) d r dead fs n T h Q else False:=by
 by_cases ho:ys.all AV.one=true
 ·rw[if_pos ho];apply propext;constructor;·rintro⟨y,z,i,j,_,_,f⟩;simp_all
  intro f;exact⟨ys,c,rfl,rfl,⟨h1,k⟩,ho,f⟩
 rw[if_neg ho];apply propext;constructor;·rintro⟨y,z,i,j,_,l,f⟩;grind
 simp_all
theorem Qk5{g len sz:Nat}{cs:List AV}(a:cs.length=len*sz):srcB (some (.cells g cs)) g 0 len sz=some cs:=by rw[QcR,if_pos ⟨rfl,by omega⟩,List.drop_zero,<-a,List.take_length]
end
end Go.AM
namespace Go.AM
theorem words:type_of%@Qmv/\type_of%@Qox/\type_of%@Qmw/\type_of%@Qi2/\type_of%@Qoy/\type_of%@Qmx/\type_of%@Qkv/\type_of%@Qmy/\type_of%@Qkw/\type_of%@Qmz/\type_of%@Qoz/\type_of%@wX_sq/\type_of%@Qi3/\type_of%@QhL/\type_of%@QoA/\type_of%@QhM/\type_of%@QgB/\type_of%@QfO/\type_of%@QhW/\type_of%@Qjj/\type_of%@ev_t/\type_of%@ev_c/\type_of%@ev_f/\type_of%@QoB/\type_of%@QaX/\type_of%@Qis/\type_of%@QoC/\type_of%@QoD/\type_of%@rm_no/\type_of%@QmA/\type_of%@Qi4/\type_of%@Qi5/\type_of%@Qkx/\type_of%@Qi6/\type_of%@QmB/\type_of%@Qky/\type_of%@Qkz/\type_of%@QkA/\type_of%@QgC/\type_of%@QfJ/\type_of%@QoE/\type_of%@QkB/\type_of%@QmC/\type_of%@QmD/\type_of%@QoF/\type_of%@QmE/\type_of%@QmF/\type_of%@QkC/\type_of%@Qi7/\type_of%@QoG/\type_of%@wR_eq/\type_of%@wR_un/\type_of%@QmG/\type_of%@Qe1/\type_of%@QkE/\type_of%@QkF/\type_of%@QkG/\type_of%@QkH/\type_of%@QkI/\type_of%@QhN/\type_of%@Qi8/\type_of%@QkJ/\type_of%@QoI/\type_of%@Qi9/\type_of%@QmH/\type_of%@QkK/\type_of%@QkL/\type_of%@QhO/\type_of%@Qja/\type_of%@QmI/\type_of%@QoJ/\type_of%@Qjb/\type_of%@QmJ/\type_of%@QmK/\type_of%@QdN/\type_of%@QkM/\type_of%@QoK/\type_of%@Qcp/\type_of%@Qit/\type_of%@Qje/\type_of%@QgD/\type_of%@QgE/\type_of%@QhP/\type_of%@Qjf/\type_of%@QkO/\type_of%@Qjg/\type_of%@QgF/\type_of%@Qjh/\type_of%@Qjc/\type_of%@Qjd/\type_of%@Qhg/\type_of%@Qhh/\type_of%@Qhi/\type_of%@Qhj/\type_of%@QkP/\type_of%@QkQ/\type_of%@Qd1/\type_of%@Qd2/\type_of%@Qd3/\type_of%@Qd4/\type_of%@Qd5/\type_of%@Qd6/\type_of%@QmM/\type_of%@QmN/\type_of%@QfL/\type_of%@QhR/\type_of%@QgG/\type_of%@QhQ/\type_of%@QfM/\type_of%@QkR/\type_of%@QkS/\type_of%@QfN/\type_of%@wr_u8/\type_of%@QoM/\type_of%@QoN/\type_of%@QoL/\type_of%@QoO/\type_of%@QhS/\type_of%@Qji/\type_of%@QhT/\type_of%@QgH/\type_of%@QhU/\type_of%@QgI/\type_of%@QgJ/\type_of%@QgK/\type_of%@List.elem_cons.{0}/\type_of%@List.elem_nil.{0}/\type_of%@Bool.false_eq_true/\type_of%@Bool.true_eq_false/\type_of%@List.getElem?_cons_zero.{0}/\type_of%@List.getElem?_cons_succ.{0}/\type_of%@decide_eq_true_eq/\type_of%@decide_eq_false_iff_not/\type_of%@decide_true/\type_of%@decide_false/\type_of%@Bool.not_true/\type_of%@Bool.not_false/\type_of%@Bool.not_eq_true'/\type_of%@Bool.not_eq_eq_eq_not/\type_of%@List.nil_append.{0}/\type_of%@List.append_nil.{0}/\type_of%@List.cons_append.{0}/\type_of%@and_true/\type_of%@true_and/\type_of%@Int.natCast_nonneg/\type_of%@Int.toNat_natCast/\type_of%@Nat.mul_one/\type_of%@Nat.zero_add/\type_of%@Int.toNat_zero/\type_of%@QhX/\type_of%@QkT/\type_of%@QmO/\type_of%@QhV:=⟨@Qmv,@Qox,@Qmw,@Qi2,@Qoy,@Qmx,@Qkv,@Qmy,@Qkw,@Qmz,@Qoz,@wX_sq,@Qi3,@QhL,@QoA,@QhM,@QgB,@QfO,@QhW,@Qjj,@ev_t,@ev_c,@ev_f,@QoB,@QaX,@Qis,@QoC,@QoD,@rm_no,@QmA,@Qi4,@Qi5,@Qkx,@Qi6,@QmB,@Qky,@Qkz,@QkA,@QgC,@QfJ,@QoE,@QkB,@QmC,@QmD,@QoF,@QmE,@QmF,@QkC,@Qi7,@QoG,@wR_eq,@wR_un,@QmG,@Qe1,@QkE,@QkF,@QkG,@QkH,@QkI,@QhN,@Qi8,@QkJ,@QoI,@Qi9,@QmH,@QkK,@QkL,@QhO,@Qja,@QmI,@QoJ,@Qjb,@QmJ,@QmK,@QdN,@QkM,@QoK,@Qcp,@Qit,@Qje,@QgD,@QgE,@QhP,@Qjf,@QkO,@Qjg,@QgF,@Qjh,@Qjc,@Qjd,@Qhg,@Qhh,@Qhi,@Qhj,@QkP,@QkQ,@Qd1,@Qd2,@Qd3,@Qd4,@Qd5,@Qd6,@QmM,@QmN,@QfL,@QhR,@QgG,@QhQ,@QfM,@QkR,@QkS,@QfN,@wr_u8,@QoM,@QoN,@QoL,@QoO,@QhS,@Qji,@QhT,@QgH,@QhU,@QgI,@QgJ,@QgK,@List.elem_cons.{0},@List.elem_nil.{0},@Bool.false_eq_true,@Bool.true_eq_false,@List.getElem?_cons_zero.{0},@List.getElem?_cons_succ.{0},@decide_eq_true_eq,@decide_eq_false_iff_not,@decide_true,@decide_false,@Bool.not_true,@Bool.not_false,@Bool.not_eq_true',@Bool.not_eq_eq_eq_not,@List.nil_append.{0},@List.append_nil.{0},@List.cons_append.{0},@and_true,@true_and,@Int.natCast_nonneg,@Int.toNat_natCast,@Nat.mul_one,@Nat.zero_add,@Int.toNat_zero,@QhX,@QkT,@QmO,@QhV⟩
theorem wordsN:type_of%@QkZ/\type_of%@QeI/\type_of%@Qei/\type_of%@Qjo/\type_of%@Option.map_some.{0,0}/\type_of%@Qiz/\type_of%@wN_go/\type_of%@wB_go/\type_of%@QaA/\type_of%@QaE/\type_of%@Qjn/\type_of%@Qh0/\type_of%@Qjp/\type_of%@Qjq/\type_of%@Qk0/\type_of%@Qjr/\type_of%@QgP/\type_of%@QmS/\type_of%@QmT/\type_of%@QoV/\type_of%@QmU/\type_of%@Qjs/\type_of%@QmV/\type_of%@QoW/\type_of%@QmW/\type_of%@Qjt/\type_of%@Qk1/\type_of%@List.set_cons_zero.{0}/\type_of%@List.set_cons_succ.{0}/\type_of%@List.length_cons.{0}/\type_of%@List.length_nil.{0}/\type_of%@List.all_cons.{0}/\type_of%@List.all_nil.{0}/\type_of%@Bool.and_true/\type_of%@Bool.true_and/\type_of%@List.drop_zero.{0}/\type_of%@List.drop_succ_cons.{0}/\type_of%@List.take_succ_cons.{0}/\type_of%@List.take_zero.{0}/\type_of%@List.head?_cons.{0}/\type_of%@Qju/\type_of%@Nat.le_refl/\type_of%@Int.cast_ofNat_Int/\type_of%@Int.natCast_zero/\type_of%@Int.natCast_one:=⟨@QkZ,@QeI,@Qei,@Qjo,@Option.map_some.{0,0},@Qiz,@wN_go,@wB_go,@QaA,@QaE,@Qjn,@Qh0,@Qjp,@Qjq,@Qk0,@Qjr,@QgP,@QmS,@QmT,@QoV,@QmU,@Qjs,@QmV,@QoW,@QmW,@Qjt,@Qk1,@List.set_cons_zero.{0},@List.set_cons_succ.{0},@List.length_cons.{0},@List.length_nil.{0},@List.all_cons.{0},@List.all_nil.{0},@Bool.and_true,@Bool.true_and,@List.drop_zero.{0},@List.drop_succ_cons.{0},@List.take_succ_cons.{0},@List.take_zero.{0},@List.head?_cons.{0},@Qju,@Nat.le_refl,@Int.cast_ofNat_Int,@Int.natCast_zero,@Int.natCast_one⟩
theorem wordsR:type_of%@Qk2/\type_of%@Qa4/\type_of%@get_e/\type_of%@QfT/\type_of%@Qh1/\type_of%@Qjv/\type_of%@QfU/\type_of%@Qe5/\type_of%@Qjw/\type_of%@QgQ/\type_of%@QmZ/\type_of%@Qk5/\type_of%@Int.ofNat_lt/\type_of%@Int.ofNat_le/\type_of%@Int.ofNat_inj/\type_of%@Int.natCast_pos/\type_of%@Int.natCast_add/\type_of%@List.length_map.{0,0}/\type_of%@List.length_append.{0}/\type_of%@List.take_length.{0}/\type_of%@Nat.zero_mul/\type_of%@Nat.one_mul/\type_of%@Nat.add_zero/\type_of%@Int.zero_add/\type_of%@Nat.not_lt_zero/\type_of%@Int.le_refl/\type_of%@not_true/\type_of%@not_false_iff/\type_of%@Nat.lt_irrefl/\type_of%@Int.lt_irrefl:=⟨@Qk2,@Qa4,@get_e,@QfT,@Qh1,@Qjv,@QfU,@Qe5,@Qjw,@QgQ,@QmZ,@Qk5,@Int.ofNat_lt,@Int.ofNat_le,@Int.ofNat_inj,@Int.natCast_pos,@Int.natCast_add,@List.length_map.{0,0},@List.length_append.{0},@List.take_length.{0},@Nat.zero_mul,@Nat.one_mul,@Nat.add_zero,@Int.zero_add,@Nat.not_lt_zero,@Int.le_refl,@not_true,@not_false_iff,@Nat.lt_irrefl,@Int.lt_irrefl⟩
end Go.AM
namespace Go.AM
variable{P:Program}
def FSpec(P:Program)(f:Nat)(args:List AV)(v:AV):Prop:=Callable P f/\noRefs args=true/\noRef v=true/\∀(F:Nat->Prop)(w:World)(a:Array Value),(∀k,F k->k<w.heap.size)->VRels (only (ok:=okc P) F) w args a.toList->Calls P f a w fun e b=>∃c F',e=.returned c/\Evo2 0 (only (ok:=okc P) F) w (only (ok:=okc P) fun k=>F k\/F' k) b/\(∀k,F' k->w.heap.size<=k/\k<b.heap.size)/\VRel (only (ok:=okc P) F') b v c
def RnO(h:Heap)(x y:AV):Prop:=∀(ok:Okc)(c:Ctx ok)(w:World)(v:Value),HRel c h w->VRel c w y v->VRel (only (ok:=ok) c.O) w x v
def RnOL(h:Heap):List AV->List AV->Prop|[],[]=>True|x::xs,y::a=>RnO h x y/\RnOL h xs a|_,_=>False
section
variable{h:Heap}
theorem RnO.flat{x:AV}(hf:flatV x=true):RnO h x x:=fun _ c w v _ a=>VRel.flat _ _ hf a
theorem RnOL.nil:RnOL h [] []:=trivial
theorem RnOL.cons{x y:AV}{xs ys:List AV}(h1:RnO h x y)(a:RnOL h xs ys):RnOL h (x::xs) (y::ys):=⟨h1,a⟩
theorem RnOL.rels{ok:Okc}{c:Ctx ok}{w:World}(H:HRel c h w):∀{xs ys:List AV}{vs:List Value},RnOL h xs ys->VRels c w ys vs->VRels (only (ok:=ok) c.O) w xs vs|[],[],_,_,b=>by grind[VRels]|[],_::_,_,a,_=>a.elim|_::_,[],_,a,_=>a.elim|x::xs,y::ys,vs,a,b=>by simp only[VRels]at b⊢;obtain⟨v,d,rfl,f,g⟩:=b;exact⟨v,d,rfl,a.1 _ c w v H f,RnOL.rels H a.2 g⟩
theorem RnO.tup{xs ys:List AV}(d:RnOL h xs ys):RnO h (.tup xs) (.tup ys):=fun _ c w v H a=>by simp only[VRel]at a⊢;obtain⟨b,rfl,a⟩:=a;exact⟨b,rfl,d.rels H a⟩
theorem RnO.sl{b g len sz:Nat}{ds:List AV}(p:h.get b=some (.cells g ds))(hf:flatVs ds=true)(m:ds.length=len*sz):RnO h (.fsl ds len sz) (.sl b g 0 len sz):=fun _ c w v H j=>by
 simp only[VRel]at j;rcases j with⟨hp,rfl,_,rfl⟩|⟨x,base,o,cap,C,e,t,hp,rfl,f,k,d⟩;·simp_all[VRel]
 obtain⟨C',B,s,A,a,u,q,l⟩:=H.here p hp;rw[k]at a;cases a;by_cases y:cap=0
 ·have i:len=0:=by omega
  subst i;have:ds=[]:=List.eq_nil_of_length_eq_zero (by rw[m];simp);subst this;simp only[VRel];simp_all
 obtain⟨ho,r⟩:=d.resolve_left y;simp only[VRel];exact .inr ⟨x,o,cap,C,e,t,rfl,f,m,A,k,by grind[VPre.flat]⟩
theorem RnO.slm{b g len k sz:Nat}{ds es:List AV}(d:h.get b=some (.cells g ds))(he:es=ds)(c:k=len)(hf:flatVs ds=true)(a:ds.length=len*sz):RnO h (.fsl es k sz) (.sl b g 0 len sz):=by simp_all[RnO.sl]
end
theorem FSpec.of_W2{f:Nat}{sf:SFn}{args:List AV}{v:AV}(c:okFn P f sf=true)(s:args.length<=sf.n)(m:noRefs args=true)(q:noRef v=true)(hw:W2 P ⟨sf.n,0⟩ sf.body (fun e B=>(e=.normal\/e=.ret)/\∃vs,resV B.T B.h sf.res=some vs/\RnO B.h v (resOf vs)) ⟨argT 0 args,.e⟩):FSpec P f args v:=by
 obtain⟨_,_,_,_,_,_,_,hc⟩:=Qb8 c;refine⟨hc,m,q,fun F w j t m=>(Qc2 (R:=fun vs k=>RnO k v (resOf vs)) c s hw (HRel.only t) m).mono ?_⟩;rintro e u⟨o,l,vs,k,rfl,E,H',V,a⟩;have d:∀k,l.O k->w.heap.size<=k:=fun k i=>(E.own k i).elim (fun h=>h.elim) id;refine⟨o,l.O,rfl,?_,fun k i=>⟨d k i,H'.inO k i⟩,a _ l u o H' V⟩;refine⟨E.os,E.tape,E.output,E.size,E.shape,fun k a _=>E.keep k a (fun h=>h),fun b g p r=>absurd r (Nat.not_lt_zero _),fun k a=>.inl a,fun k a=>?_,fun k a=>a.elim,rfl⟩;rcases a with a|a;·exact .inl a
 simp_all
theorem FSpec.of_wS{f:Nat}{sf:SFn}{args:List AV}{v:AV}(n:Nat)(a:okFn P f sf=true)(c:Nat.ble args.length sf.n=true)(d:noRefs args=true)(b:noRef v=true)(hw:wS P ⟨sf.n,0⟩ sf.body [] n (argT 0 args) .e fun e T h _=>(e=.normal\/e=.ret)/\∃vs,resV T h sf.res=some vs/\RnO h v (resOf vs)):FSpec P f args v:=FSpec.of_W2 a (Nat.le_of_ble_eq_true c) d b ((wpC.toW hw).mono fun e B⟨_,h⟩=>h)
section
variable{h:Heap}
theorem FrzTo.fn{f:Nat}{xs ys us vs:List AV}(j:FrzL h xs ys)(i:FrzL h us vs):FrzTo h (.fn f xs us) (.fn f ys vs):=fun _ c w v H a=>by simp only[VRel]at a⊢;obtain⟨g,d,rfl,h1,b⟩:=a;exact⟨g,d,rfl,j.rels H h1,i.rels H b⟩
theorem FrzTo.ptr{b g off:Nat}{cs ys:List AV}(r:h.get b=some (.cells g cs))(p:FrzL h (cs.drop off) ys):FrzTo h (.ptr b g off) (.fptr ys):=fun _ c w v H j=>by simp only[VRel]at j;obtain⟨l,base,hp,rfl⟩:=j;obtain⟨C',q,f,o,i,k,m,d⟩:=H.here r hp;have a:=Qbj off d;rw[List.drop_drop]at a;simp only[VRel];exact⟨l,base+off,C',q,f,rfl,.inr o,i,p.pre H a⟩
theorem FrzTo.map{b g:Nat}{es:List (AV×AV)}{ks vs:List AV}(f:h.get b=some (.map g es))(j:FrzL h (es.map (·.1)) ks)(p:FrzL h (es.map (·.2)) vs):FrzTo h (.map b g) (.fmap ks vs):=fun _ c w v H d=>by simp only[VRel]at d;obtain⟨o,hp,rfl⟩:=d;obtain⟨ms,clock,q,l,a,m⟩:=H.atMap f hp;obtain⟨r,i,k⟩:=Qip a;have s:=QbO a;simp only[VRel];exact⟨o,ms,clock,rfl,.inr q,l,by simp_all,r,j.rels H i,p.rels H k⟩
theorem HSpec.lend{f:Nat}{args b:List AV}{v:AV}(i:FrzL h args b)(hp:PSpec P f b v)(d:flatV v=true):HSpec P f args h v h:=by obtain⟨j,hc,_⟩:=hp.2.2;exact⟨hc,fun c w a H g=>(hp.borrow d H (i.rels H g)).2⟩
theorem HSpec.of_F{f:Nat}{args g:List AV}{v:AV}(r:FrzL h args g)(hp:FSpec P f g v):HSpec P f args h v h:=by
 obtain⟨hc,o,i,p⟩:=hp;refine⟨hc,fun c w b H q=>?_⟩;have s:∀k,(c.F k\/c.O k)->k<w.heap.size:=fun k a=>a.elim (H.inF k) (H.inO k);refine(p (fun k=>c.F k\/c.O k) w b s (VRels.noRef (c:=lent c) (c':=only fun k=>c.F k\/c.O k) (fun _ h=>h) _ _ o (r.rels H q))).mono ?_;rintro e l⟨j,F',rfl,E,d,V⟩;have a:∀k,k<w.heap.size->l.heap[k]?=w.heap[k]?:=fun k a=>E.keep k a (fun h=>h);obtain⟨E1,H1⟩:=H.grow E.os E.tape E.output E.size a;refine⟨j,{c with F:=fun k=>c.F k\/F' k},rfl,?_,H1.frozen (fun k=>c.F k\/F' k) (fun k a=>.inl a) (fun k a=>?_),VRel.noRef (c:=only F') (c':={c with F:=fun k=>c.F k\/F' k}) (fun _ h=>.inr h) _ _ i V⟩;·refine⟨E1.os,E1.tape,E1.output,E1.size,E1.shape,E1.keep,E1.rho,fun k a=>.inl a,fun k a=>?_,E1.own,rfl⟩;grind
 rcases a with a|a;·exact⟨fun m=>H.disj k a m,Nat.lt_of_lt_of_le (H.inF k a) E.size⟩
 grind
end
end Go.AM
namespace Go.AM
variable{P:Program}
def noLoop:SCode->Bool|.loop _|.mloop ..=>false|.seq a b=>noLoop a&&noLoop b|.cond _ a b=>noLoop a&&noLoop b|.block _ b=>noLoop b|.rfunc ..=>false|_=>true
theorem wpC.toW1{N:NM}:∀{c:SCode}{n:Nat}{T:Tmps}{h:Heap}{Q:QC},noLoop c=true->wpC P N c n T h Q->W P N.n c (fun e B=>∃n,Q e B.T B.h n) ⟨T,h⟩
 |.skip,n,T,h,Q,_,d=>W.skip ⟨n,d⟩|.ret,n,T,h,Q,_,d=>W.ret ⟨n,d⟩|.exit i,n,T,h,Q,_,d=>W.exit ⟨n,d⟩|.bad,_,_,_,_,_,d=>d.elim|.mloop ..,n,T,h,Q,f,d=>by simp[noLoop]at f|.rfunc ..,n,T,h,Q,f,d=>by simp[noLoop]at f|.loop _,n,T,h,Q,f,d=>by simp[noLoop]at f|.region ops [] dead,n,T,h,Q,_,d=>by have:=wpR.toWR (i:=0) d;exact W.regionR n (this|>fun h=>by simpa using(show _ from(wpC.toW.wr_mono h)))|.region ops (p::q) dead,n,T,h,Q,_,d=>by obtain⟨fs,T',m,h1,l,o⟩:=wpRF.toF (i:=0) d;grind[W.regionF]|.seq a b,n,T,h,Q,f,d=>by simp only[wpC]at d;simp only[noLoop,Bool.and_eq_true]at f;refine W.seq ((wpC.toW1 (c:=a) f.1 d).mono ?_);rintro e B⟨j,g⟩;cases e with|normal=>exact wpC.toW1 f.2 g|exit i=>exact⟨j,g⟩|ret=>exact⟨j,g⟩
 |.cond x a b,n,T,h,Q,f,⟨t,k,d⟩=>by
  simp only[noLoop,Bool.and_eq_true]at f;refine W.cond k ?_ ?_;·intro e;rw[if_pos e]at d;exact wpC.toW1 f.1 d
  intro e;rw[if_neg (by simp[e])]at d;exact wpC.toW1 f.2 d|.block i b,n,T,h,Q,f,d=>by simp only[wpC]at d;refine W.block ((wpC.toW1 (c:=b) f d).mono ?_);grind
section
variable{N:NM}{n:Nat}{T L:Tmps}{h:Heap}{Q:QC}{fs:List Fr}{b2:Nat}{G:Prop}
end
end Go.AM
namespace Go.AM.KN
open Go.Proofs
noncomputable section
def isTrue:AV->Bool|.bool true=>true|_=>false
theorem QoZ:∀u,isTrue u=true->u=.bool true:=by
 intro u h;unfold isTrue at h;split at h;·rfl
 cases h
theorem known5:PSpec Tryz.prog 5 [] (.bool true):=QdB (t:=ft) ft_ok Qe3 (d:=100000) isTrue QoZ (by kernel_rfl)
end
end Go.AM.KN
namespace Go.AM.TP
open Go.Proofs
set_option maxHeartbeats 4000000
noncomputable section
def cf:YA.Cf:={most:=.pure,always:=[43].map fun k=>(k,.heap)}
def s10:SFn:=by
 refine(?f:YA.Yt Tryz.prog cf 10 [[0,3,4],[6,7],[8],[1,5,9,10,11],[1,5,9,12,13,14,15,16,17,18]]) ?s ?h;case h=>exact YA.rr
 exact fun s _=>s
def s30:SFn:=by
 refine(?f:YA.Yt Tryz.prog cf 30 [[3,4],[17,18],[19],[0,5,20,21,22],[3,4,0,5,20,23,24],[25,26,27],[29,30,28,31,32],[8,33],[6,7,34,35],[4,34,36,37],[7,38,39,40,41],[],[42,43,44],[45,48,49,50,51,52],[53,54,55,56,57,58,59],[53,60],[],[64,65,66],[68,69,70,71,72,73,74,67,75,76],[14,77],[78,80,81,82,83,79,84,85],[16,86],[15,87,88,89],[6,9,10,61,62,63,12,13,90,91],[4,90,92,93],[94,95,96,97],[13,98,99,100,101],[12,15,13,87,102,103,104,105,106,107,108,109,110],[111],[61,62,63,46,47],[6,9,10,112,113,114],[115,116]]) ?s ?h;case h=>exact YA.rr
 exact fun s _=>s
def s31:SFn:=by
 refine(?f:YA.Yt Tryz.prog cf 31 [[2],[],[0],[],[9,10,11],[5,12,13,14,15,16],[17],[3,6,7,8,18]]) ?s ?h;case h=>exact YA.rr
 exact fun s _=>s
def s64:SFn:=by
 refine(?f:YA.Yt Tryz.prog cf 64 [[2],[6,7],[0,8],[2,0,8],[],[12,13,14],[4,15,16],[17],[9,10,11,5,18,19],[2,5,18,20],[9,10,11]]) ?s ?h;case h=>exact YA.rr
 exact fun s _=>s
def s65:SFn:=by
 refine(?f:YA.Yt Tryz.prog cf 65 [[],[9,10,11,12],[0],[],[16,17,18],[19],[5,20],[],[24,25,26],[8,27,28,29,30,31,32,33,34],[35],[6,21,22,23,36,37,38,39,40,41],[42],[3,13,14,15,43]]) ?s ?h;case h=>exact YA.rr
 exact fun s _=>s
def s66:SFn:=by
 refine(?f:YA.Yt Tryz.prog cf 66 [[0,2,3],[6],[],[10,11,12],[5,13,14],[1,7,8,9,15],[2,3,15,16],[1,7,8,9,17,18,19,20]]) ?s ?h;case h=>exact YA.rr
 exact fun s _=>s
def s68:SFn:=by
 refine(?f:YA.Yt Tryz.prog cf 68 [[0,4],[2,7],[],[11,12,13,14],[6,5,15,16,17,18,19,20,21],[1,8,9,10,22],[4,22,23],[1,8,9,10]]) ?s ?h;case h=>exact YA.rr
 exact fun s _=>s
def s69:SFn:=by
 refine(?f:YA.Yt Tryz.prog cf 69 [[0,6,7],[13,14],[15],[],[19,20,21,22],[10,23,24,25,26],[27,29,30,31,32,33,34,35,36,37,38,39,40,28,41,42],[12,43],[1,2,3,8,16,17,18,9,11,44],[6,7,9,11,44,45,46,47,48],[49],[1,2,3,8,16,17,18,50]]) ?s ?h;case h=>exact YA.rr
 exact fun s _=>s
def s102:SFn:=by
 refine(?f:YA.Yt Tryz.prog cf 102 [[2],[],[0],[],[9,10,11],[5,12,13,14,15],[16],[3,6,7,8,17]]) ?s ?h;case h=>exact YA.rr
 exact fun s _=>s
def s104:SFn:=by
 refine(?f:YA.Yt Tryz.prog cf 104 [[4],[0,1,8,9,10,7,11,12,5],[6,13]]) ?s ?h;case h=>exact YA.rr
 exact fun s _=>s
theorem ok10:okFn Tryz.prog 10 s10=true:=by kernel_rfl
theorem ok30:okFn Tryz.prog 30 s30=true:=by kernel_rfl
theorem ok31:okFn Tryz.prog 31 s31=true:=by kernel_rfl
theorem ok64:okFn Tryz.prog 64 s64=true:=by kernel_rfl
theorem ok65:okFn Tryz.prog 65 s65=true:=by kernel_rfl
theorem ok66:okFn Tryz.prog 66 s66=true:=by kernel_rfl
theorem ok68:okFn Tryz.prog 68 s68=true:=by kernel_rfl
theorem ok69:okFn Tryz.prog 69 s69=true:=by kernel_rfl
theorem ok102:okFn Tryz.prog 102 s102=true:=by kernel_rfl
theorem ok104:okFn Tryz.prog 104 s104=true:=by kernel_rfl
end
end Go.AM.TP
namespace Go.AM
variable{P:Program}
section
variable{N:NM}{n:Nat}{d:Option Nat}{dead:List Nat}{r:List SOper}{T:Tmps}{h:Heap}{Q:QC}{fs:List Fr}
theorem QgR{sz bytes len b2 g b a:Nat}{cs:List AV}:wM P N (aAppend .dyn n sz bytes (.sl b2 g b a sz) (.fsl cs len sz)) d r dead fs n T h Q=wA P N (srcB (h.get b2) g b a sz) (some cs) g a len sz bytes b2 d r dead fs n T h Q:=by
 simp only[aAppend,aSrc,if_true,slLen,Qdh,Qc3,QfK];apply propext;constructor;·rintro⟨c,m,f,j,i⟩;rw[f,QcR,if_pos ⟨rfl,j⟩];exact⟨_,_,rfl,rfl,⟨c.1,c.2.1⟩,c.2.2,i⟩
 rintro⟨o,p,k,l,c,j,i⟩;cases k;unfold srcB at l;grind
theorem Qez{sz bytes b2 g b a:Nat}:wM P N (aAppend .dyn n sz bytes (.sl b2 g b a sz) .nilsl) d r dead fs n T h Q=wA P N (srcB (h.get b2) g b a sz) (some []) g a 0 sz bytes b2 d r dead fs n T h Q:=by
 simp only[aAppend,aSrc,if_true,slLen,Qdh,Qc3,QfK];apply propext;constructor;·rintro⟨c,m,f,j,i⟩;rw[f,QcR,if_pos ⟨rfl,j⟩];exact⟨_,_,rfl,rfl,⟨c.1,c.2.1⟩,c.2.2,i⟩
 rintro⟨o,p,k,l,c,j,i⟩;cases k;unfold srcB at l;grind
end
theorem QgS{cs:List AV}{len sz:Nat}{k:IntKind}{a:Int}:aSliceC (some sz) (.fsl cs len sz) (some (.int k a)) none none=if 0<=a/\a<=len then some (.fsl ((cs.drop (a.toNat*sz)).take ((len-a.toNat)*sz)) (len-a.toNat) sz)else none:=by simp_all[aSliceC,aSlice,bnd]
theorem QgT{cs:List AV}{len sz:Nat}{k:IntKind}{b:Int}:aSliceC (some sz) (.fsl cs len sz) none (some (.int k b)) none=if 0<=b/\b<=len then some (.fsl (cs.take (b.toNat*sz)) b.toNat sz)else none:=by simp_all[aSliceC,aSlice,bnd]
theorem QgU{cs:List AV}{len sz:Nat}{k c:IntKind}{a b:Int}:aSliceC (some sz) (.fsl cs len sz) (some (.int k a)) (some (.int c b)) none=if 0<=a/\a<=b/\b<=len then some (.fsl ((cs.drop (a.toNat*sz)).take ((b.toNat-a.toNat)*sz)) (b.toNat-a.toNat) sz)else none:=by simp_all[aSliceC,aSlice,bnd]
theorem Qh2{b g off len sz:Nat}{k:IntKind}{a:Int}:aSliceC (some sz) (.sl b g off len sz) (some (.int k a)) none none=if 0<=a/\a<=len then some (.sl b g (off+a.toNat*sz) (len-a.toNat) sz)else none:=by simp_all[aSliceC,aSlice,bnd]
theorem Qh3{b g off len sz:Nat}{k:IntKind}{c:Int}:aSliceC (some sz) (.sl b g off len sz) none (some (.int k c)) none=if 0<=c/\c<=len then some (.sl b g off c.toNat sz)else none:=by simp_all[aSliceC,aSlice,bnd]
theorem Qh4{b g off len sz:Nat}{k d:IntKind}{a c:Int}:aSliceC (some sz) (.sl b g off len sz) (some (.int k a)) (some (.int d c)) none=if 0<=a/\a<=c/\c<=len then some (.sl b g (off+a.toNat*sz) (c.toNat-a.toNat) sz)else none:=by simp_all[aSliceC,aSlice,bnd]
end Go.AM
namespace Go.AM
variable{P:Program}
def HM.tch{α:Type}(B:Nat->Prop):HM α->Prop|.ret _=>True|.fail=>True|.look b k=>B b/\∀x,(k x).tch B|.put b _ k=>B b/\k.tch B
theorem HM.QrY{α:Type}{B:Nat->Prop}(m:HM α):m.tch B->∀h b,b∈(m.fp h).1\/b∈(m.fp h).2->B b:=by induction m with
 |ret a=>intro _ h b c;simp[HM.fp]at c|fail=>intro _ h b c;simp[HM.fp]at c|look b k g=>
  rintro⟨h1,f⟩h d c;simp only[HM.fp,List.mem_cons]at c;rcases c with(rfl|c)|c;·exact h1
  ·grind
  grind|put b x k g=>
  rintro⟨h1,f⟩h d c;simp only[HM.fp,List.mem_cons]at c;rcases c with c|rfl|c;·grind
  ·exact h1
  grind
theorem HM.Qqg{α β:Type}{B:Nat->Prop}{m:HM α}{f:α->HM β}(h1:m.tch B)(d:∀a,(f a).tch B):(m.bind f).tch B:=by induction m with|ret a=>exact d a|fail=>trivial|look b k c=>exact⟨h1.1,fun x=>c x (h1.2 x)⟩|put b x k c=>exact⟨h1.1,c h1.2⟩
theorem Qm0{α:Type}{B:Nat->Prop}(o:Option α):(HM.opt o).tch B:=by cases o<;>trivial
theorem Qdw{α:Type}{B:Nat->Prop}{b g:Nat}{k:List AV->HM α}(d:B b)(a:∀cs,(k cs).tch B):(HM.cells b g k).tch B:=by refine⟨d,fun x=>?_⟩;match x with
 |some (.cells c cs)=>simp only;cases Nat.beq c g<;>first|exact trivial|exact a cs
 |some (.map _ _)=>trivial|some (.dead _)=>trivial|some (.loop ..)=>trivial|none=>trivial
theorem QiB{α:Type}{B:Nat->Prop}{i:Nat}{x:Nat->Blk}{k:Nat->Nat->HM α}(a:B i)(c:∀b g,(k b g).tch B):(HM.new .dyn i x k).tch B:=by refine⟨a,fun y=>?_⟩;match y with|none=>exact⟨a,c _ _⟩|some z=>trivial
def blks:AV->Option (List Nat)|.ptr b _ _=>some [b]|.sl b _ _ _ _=>some [b]|.map b _=>some [b]|.any=>none|.agg _=>none|.tup []=>some []|.tup _=>none|.fn _ _ _=>none|.ifc _ _=>none|.typed _ _ _=>none|_=>some []
def Pts(v:AV)(a:List Nat):Prop:=∃cs,blks v=some cs/\∀b∈cs,b∈a
abbrev Abs:=List (Nat×Option (List Nat))
def absT(T:Tmps):Abs->Nat->Option (List Nat)|[],i=>blks (lk T i)|(j,a)::r,i=>bif Nat.beq j i then a else absT T r i
def absO(T:Tmps)(A:Abs):Opd->Option (List Nat)|.t i=>absT T A i|.c v=>blks v|_=>none
def SOp.absV(i:Nat)(ax:Opd->Option (List Nat)):SOp->Option (List Nat)|.mov x=>ax x|.slice _ x _ _ _=>ax x|.iaddr _ _ x _=>ax x|.faddr _ x=>ax x|.alloc .dyn _=>some [i]|.box .dyn _=>some [i]|.bslice false .dyn _ _ _ _=>some [i]|.mkslice .dyn _ _ _ _ _=>some [i]|.mkmap .dyn=>some [i]|.append .dyn _ _ x _=>(ax x).map fun a=>i::a|_=>none
def SOp.touch(i:Nat)(ax:Opd->Option (List Nat)):SOp->Option (List Nat)
 |.load _ x=>ax x|.store _ x _=>ax x|.len _ x=>ax x|.alloc .dyn _=>some [i]|.box .dyn _=>some [i]|.bslice _ .dyn _ _ _ _=>some [i]|.mkslice .dyn _ _ _ _ _=>some [i]|.mkmap .dyn=>some [i]|.append .dyn _ _ x y=>match ax x,ax y with|some a,some b=>some (i::(a++b))|_,_=>none
 |.copy _ x y=>match ax x,ax y with|some a,some b=>some (a++b)|_,_=>none
 |.lookup _ _ _ _ x _=>ax x|.mupd _ _ x _ _=>ax x|s=>bif Nat.beq s.cls 0 then some []else none
def touches(n:Nat)(T:Tmps):List SOper->Abs->List (Option (List Nat))|[],_=>[]|s::r,A=>s.op.touch n (absO T A)::touches (n+1) T r (match s.dst with|some d=>(d,s.op.absV n (absO T A))::A|none=>A)
def pairsOK(c:List (Option (List Nat)))(d:List (Nat×Nat)):Bool:=d.all fun p=>match c.getD p.1 none,c.getD p.2 none with|some a,some b=>a.all fun x=>!b.elem x|_,_=>false
section
variable{i:Nat}{T:Tmps}{ax:Opd->Option (List Nat)}{B:Nat->Prop}
theorem Qqh{n:Option Nat}{v:AV}{a:List Nat}(h:Pts v a):(aLoad n v).tch (·∈a):=by
 obtain⟨cs,h1,b⟩:=h;unfold aLoad;split
 ·simp only[blks,Option.some.injEq]at h1;subst h1;refine Qdw (b _ (by simp)) fun cs=>?_;split;·exact Qm0 _
  split<;>trivial
 ·split;·exact Qm0 _
  split<;>trivial
 trivial
theorem Qo0{n:Nat}{v u:AV}{b:List Nat}(h:Pts v b):(aStore n v u).tch (·∈b):=by
 obtain⟨cs,h1,c⟩:=h;unfold aStore;split
 ·simp only[blks,Option.some.injEq]at h1;subst h1;have a:=c _ (List.mem_singleton.2 rfl);refine Qdw a fun cs=>?_;split;·exact⟨a,trivial⟩
  trivial
 trivial
theorem Qra{k:Nat}{v:AV}{a:List Nat}(h:Pts v a):(aLenC k v).tch (·∈a):=by
 obtain⟨cs,h1,b⟩:=h;unfold aLenC;split
 ·unfold aLen;split<;>try trivial
  simp only[blks,Option.some.injEq]at h1;subst h1;refine⟨b _ (by simp),fun y=>?_⟩;match y with|some (.map c es)=>simp only;generalize Nat.beq c _=t;cases t<;>trivial|some (.cells _ _)=>trivial|some (.dead _)=>trivial|some (.loop ..)=>trivial|none=>trivial
 trivial
theorem Qgh{sz:Nat}{v:AV}{c:List Nat}{k:List AV->Nat->HM AV}(h:Pts v c)(d:∀b∈c,B b)(a:∀ys n,(k ys n).tch B):(aSrc sz v k).tch B:=by
 obtain⟨cs,h1,f⟩:=h;unfold aSrc;split
 ·simp only[blks,Option.some.injEq]at h1;subst h1;split
  ·refine Qdw (d _ (f _ (by simp))) fun cs=>?_;split;·exact a _ _
   trivial
  trivial
 ·split;·exact a _ _
  trivial
 ·exact a _ _
 ·exact a _ _
 ·exact a _ _
 ·split;·exact a _ _
  trivial
 trivial
theorem QnP{sz bytes:Nat}{x y:AV}{a b:List Nat}(g:Pts x a)(f:Pts y b):(aAppend .dyn i sz bytes x y).tch (·∈i::(a++b)):=by
 unfold aAppend;refine Qgh f (fun c hc=>by simp[hc]) fun j n=>?_;split
 ·obtain⟨cs,h1,h⟩:=g;split
  ·split;·trivial
   exact QiB (by simp) fun _ _=>trivial
  ·split;·trivial
   exact QiB (by simp) fun _ _=>trivial
  ·split<;>trivial
  ·simp only[blks,Option.some.injEq]at h1;subst h1;have d:=h _ (List.mem_singleton.2 rfl);split
   ·refine Qdw (by simp[d]) fun cs=>?_;split;·exact⟨by simp[d],trivial⟩
    trivial
   trivial
  ·simp[blks]at h1
  trivial
 trivial
theorem Qqi{sz:Nat}{x y:AV}{a b:List Nat}(h:Pts x a)(d:Pts y b):(aCopy sz x y).tch (·∈a++b):=by
 obtain⟨cs,h1,i⟩:=h;unfold aCopy;split
 ·simp only[blks,Option.some.injEq]at h1;subst h1;have f:=i _ (List.mem_singleton.2 rfl);split
  ·refine Qgh d (fun c hc=>by simp[hc]) fun g n=>?_;refine Qdw (by simp[f]) fun cs=>?_;split;·exact⟨by simp[f],trivial⟩
   trivial
  trivial
 ·exact Qgh d (fun c hc=>by simp[hc]) fun g n=>trivial
 ·exact Qgh d (fun c hc=>by simp[hc]) fun g n=>trivial
 trivial
theorem QgV{α:Type}{b g:Nat}{k:List (AV×AV)->HM α}(d:B b)(a:∀es,(k es).tch B):(HM.entries b g k).tch B:=by refine⟨d,fun x=>?_⟩;match x with
 |some (.map c es)=>simp only;cases Nat.beq c g<;>first|exact trivial|exact a es
 |some (.cells _ _)=>trivial|some (.dead _)=>trivial|some (.loop ..)=>trivial|none=>trivial
theorem QnQ{row ok:Bool}{ks:List LK}{z x k:AV}{a:List Nat}(h:Pts x a):(aLookup row ks z ok x k).tch (·∈a):=by
 obtain⟨cs,h1,b⟩:=h;unfold aLookup;split
 ·split;·trivial
  ·simp only[blks,Option.some.injEq]at h1;subst h1;refine QgV (b _ (by simp)) fun es=>?_;split<;>trivial
  ·split<;>trivial
  trivial
 trivial
theorem Qqj{row:Bool}{ks:List LK}{x k v:AV}{b:List Nat}(h:Pts x b):(aMapUpd row ks x k v).tch (·∈b):=by
 obtain⟨cs,h1,c⟩:=h;unfold aMapUpd;split
 ·split
  ·simp only[blks,Option.some.injEq]at h1;subst h1;have a:=c _ (List.mem_singleton.2 rfl);refine QgV a fun es=>?_;split;·exact⟨a,trivial⟩
   ·exact⟨a,trivial⟩
   trivial
  trivial
 trivial
theorem QbL{m:HM AV}(h:m.tch B):(hval m).tch B:=HM.Qqg h fun _=>trivial
theorem Qqk{s:SOp}{q:List Nat}(d:∀x p,ax x=some p->Pts (ev T x) p)(h:s.touch i ax=some q):s.cls≠0->(aop i T s).tch (·∈q)/\∀m x j,s≠.call m x j:=by
 intro t;have f:∀{x:Nat->Blk}{r:Nat->Nat->AV},(HM.new .dyn i x fun b g=>.ret (r b g)).tch (·∈[i]):=fun{x r}=>QiB (by simp) fun _ _=>trivial;cases s<;>try(exact absurd rfl t)
 ·rename_i s z;cases s<;>simp only[SOp.touch,SOp.cls,show Nat.beq 2 0=false from rfl,cond_false,reduceCtorEq,Option.some.injEq]at h;subst h;refine⟨QbL ?_,fun _ _ _=>by simp⟩;unfold aBox;split;·exact f
  trivial
 ·simp only[SOp.touch,SOp.cls,show Nat.beq 2 0=false from rfl,cond_false,reduceCtorEq]at h
 ·rename_i s z;cases s<;>simp only[SOp.touch,SOp.cls,show Nat.beq 2 0=false from rfl,cond_false,reduceCtorEq,Option.some.injEq]at h;subst h;refine⟨QbL ?_,fun _ _ _=>by simp⟩;unfold aBox;split;·exact f
  trivial
 ·rename_i fz s sz len z u;cases s<;>simp only[SOp.touch,SOp.cls,show Nat.beq 2 0=false from rfl,cond_false,reduceCtorEq,Option.some.injEq]at h;subst h;refine⟨QbL ?_,fun _ _ _=>by simp⟩;unfold aBuildSlice;split
  ·split
   ·split;·split<;>trivial
    exact f
   trivial
  trivial
 ·exact⟨QbL (Qqh (d _ _ h)),fun _ _ _=>by simp⟩
 ·exact⟨QbL (Qo0 (d _ _ h)),fun _ _ _=>by simp⟩
 ·simp only[SOp.touch,SOp.cls,show Nat.beq 1 0=false from rfl,cond_false,reduceCtorEq]at h
 ·simp only[SOp.touch,SOp.cls,show Nat.beq 2 0=false from rfl,cond_false,reduceCtorEq]at h
 ·simp only[SOp.touch,SOp.cls,show Nat.beq 2 0=false from rfl,cond_false,reduceCtorEq]at h
 ·simp only[SOp.touch,SOp.cls,show Nat.beq 2 0=false from rfl,cond_false,reduceCtorEq]at h
 ·simp only[SOp.touch,SOp.cls,show Nat.beq 2 0=false from rfl,cond_false,reduceCtorEq]at h
 ·simp only[SOp.touch,SOp.cls,show Nat.beq 2 0=false from rfl,cond_false,reduceCtorEq]at h
 ·simp only[SOp.touch,SOp.cls,show Nat.beq 2 0=false from rfl,cond_false,reduceCtorEq]at h
 ·simp only[SOp.touch,SOp.cls,show Nat.beq 1 0=false from rfl,cond_false,reduceCtorEq]at h
 ·rename_i s;cases s<;>simp only[SOp.touch,SOp.cls,show Nat.beq 2 0=false from rfl,cond_false,reduceCtorEq,Option.some.injEq]at h;subst h;exact⟨QbL f,fun _ _ _=>by simp⟩
 ·rename_i s sz b z l c;cases s<;>simp only[SOp.touch,SOp.cls,show Nat.beq 2 0=false from rfl,cond_false,reduceCtorEq,Option.some.injEq]at h;subst h;refine⟨QbL ?_,fun _ _ _=>by simp⟩;unfold aMakeSlice;split
  ·split;·exact f
   trivial
  trivial
 ·exact⟨QbL (QnQ (d _ _ h)),fun _ _ _=>by simp⟩
 ·exact⟨QbL (Qqj (d _ _ h)),fun _ _ _=>by simp⟩
 ·exact⟨QbL (Qra (d _ _ h)),fun _ _ _=>by simp⟩
 ·rename_i s sz b x y;cases s<;>simp only[SOp.touch,SOp.cls,show Nat.beq 2 0=false from rfl,cond_false,reduceCtorEq]at h;split at h;·rename_i a b o k;cases h;exact⟨QbL (QnP (d _ _ o) (d _ _ k)),fun _ _ _=>by simp⟩
  cases h
 ·rename_i sz x y;simp only[SOp.touch]at h;split at h;·rename_i a b o k;cases h;exact⟨QbL (Qqi (d _ _ o) (d _ _ k)),fun _ _ _=>by simp⟩
  cases h
 rename_i m x j;exfalso;simp only[SOp.touch]at h;have:Nat.beq (SOp.call m x j).cls 0=false:=by cases m<;>rfl
 simp_all
theorem QgW{s:SOper}{h h1:Heap}{v:AV}{f:FP}{d:List Nat}(g:∀x q,ax x=some q->Pts (ev T x) q)(w:s.op.touch i ax=some d)(o:StepV P i s T h v h1 f):f.all=false/\∀b,b∈f.R\/b∈f.W->b∈d:=by
 by_cases y:s.op.cls=0;·obtain⟨E,C,B⟩:=o.cls (by omega);simp_all
 obtain⟨t,p⟩:=Qqk g w y;have key:∀{k:SOp},k=s.op->StepX P i k T h v h1 f->f.all=false/\∀b,b∈f.R\/b∈f.W->b∈d:=by
  rintro k rfl⟨out,H,hm,ho⟩;have fin:f=fpOf ((aop i T s.op).fp h)->f.all=false/\∀b,b∈f.R\/b∈f.W->b∈d:=by rintro rfl;exact⟨rfl,fun b A=>HM.QrY _ t h b A⟩
  match out,ho with
  |.val u,ho=>exact fin ho.2.2|.call .pure l args,ho=>exact fin ho.2.2|.call .borrow l args,ho=>exact fin ho.2.2.2|.call .heap l args,ho=>exfalso;cases a:s.op with|call m x c=>exact p m x c a|_=>rw[a]at hm;first|(obtain⟨u,j,he⟩:=QaU hm;cases he)|(obtain⟨u,r,j,he⟩:=QaS hm;cases he)|(simp[aop,HM.run]at hm)
  |.round G F args,ho=>exfalso;cases a:s.op with|call m x c=>exact p m x c a|_=>rw[a]at hm;first|(obtain⟨u,j,he⟩:=QaU hm;cases he)|(obtain⟨u,r,j,he⟩:=QaS hm;cases he)|(simp[aop,HM.run]at hm)
 unfold StepV at o;grind
theorem Pts.slice{n:Option Nat}{x v:AV}{l h m:Option AV}{c:List Nat}(f:Pts x c)(a:aSliceC n x l h m=some v):Pts v c:=by
 obtain⟨cs,h1,d⟩:=f;have key:aSlice x l h m=some v->Pts v c:=by
  intro a;unfold aSlice at a;have nil:∀{v:AV},blks v=some []->Pts v c:=fun h=>⟨[],h,fun b g=>by cases g⟩;split at a;·cases a
  split at a
  ·split at a
   ·split at a;·split at a<;>first|(cases a;exact nil rfl)|cases a
    split at a<;>first|(split at a<;>first|(cases a;first|exact⟨cs,h1,d⟩|exact nil rfl)|cases a)|cases a
   cases a
  ·cases a
  split at a
  ·split at a;·cases a
   split at a;·cases a;exact⟨cs,h1,d⟩
   cases a
  ·split at a;·cases a
   split at a;·cases a;exact nil rfl
   cases a
  ·split at a;·cases a
   split at a;·cases a;exact nil rfl
   cases a
  ·split at a;·cases a
   split at a;·cases a;exact nil rfl
   cases a
  ·split at a;·cases a
   split at a;·cases a;exact nil rfl
   cases a
  cases a
 unfold aSliceC at a;grind
theorem Pts.iaddr{a:Option Nat}{sz:Nat}{x j v:AV}{d:List Nat}(g:Pts x d)(c:aIAddr a sz x j=some v):Pts v d:=by
 obtain⟨cs,h1,i⟩:=g;have nil:∀{v:AV},blks v=some []->Pts v d:=fun h=>⟨[],h,fun b f=>by cases f⟩;unfold aIAddr at c;split at c;·split at c<;>first|(split at c<;>first|(cases c;first|exact⟨cs,h1,i⟩|exact nil rfl)|cases c)|cases c
 cases c
theorem Pts.faddr{off:Nat}{x v:AV}{c:List Nat}(f:Pts x c)(a:aFAddr off x=some v):Pts v c:=by
 obtain⟨cs,h1,g⟩:=f;have nil:∀{v:AV},blks v=some []->Pts v c:=fun h=>⟨[],h,fun b d=>by cases d⟩;unfold aFAddr at a;split at a;·cases a;exact⟨cs,h1,g⟩
 ·cases a;exact nil rfl
 ·simp[blks]at h1
 cases a
def HM.gives{α:Type}(R:α->Prop):HM α->Prop|.ret a=>R a|.fail=>True|.look _ k=>∀x,(k x).gives R|.put _ _ k=>k.gives R
theorem HM.Qo1{α:Type}{R:α->Prop}(m:HM α):m.gives R->∀h a h1,m.run h=some (a,h1)->R a:=by induction m with|ret a=>intro c h b h1 hm;simp only[HM.run,Option.some.injEq,Prod.mk.injEq]at hm;rw[<-hm.1];exact c|fail=>intro _ h b h1 hm;simp[HM.run]at hm|look b k d=>intro c h a h1 hm;exact d _ (c _) h a h1 hm|put b x k d=>intro c h a h1 hm;exact d c _ a h1 (Qa3 hm).2
theorem QgX{α:Type}{R:α->Prop}{b g:Nat}{k:List AV->HM α}(a:∀cs,(k cs).gives R):(HM.cells b g k).gives R:=by intro x;match x with
 |some (.cells c cs)=>simp only;cases Nat.beq c g<;>first|exact trivial|exact a cs
 |some (.map _ _)=>trivial|some (.dead _)=>trivial|some (.loop ..)=>trivial|none=>trivial
theorem Qcq{α:Type}{R:α->Prop}{i:Nat}{x:Nat->Blk}{k:Nat->Nat->HM α}(a:(k i 0).gives R):(HM.new .dyn i x k).gives R:=by intro y;match y with|none=>exact a|some z=>trivial
theorem Qo2{R:AV->Prop}{sz:Nat}{v:AV}{k:List AV->Nat->HM AV}(a:∀ys n,(k ys n).gives R):(aSrc sz v k).gives R:=by
 unfold aSrc;split
 ·split
  ·refine QgX fun cs=>?_;split;·exact a _ _
   trivial
  trivial
 ·split;·exact a _ _
  trivial
 ·exact a _ _
 ·exact a _ _
 ·exact a _ _
 ·split;·exact a _ _
  trivial
 trivial
theorem Qk6{sz bytes:Nat}{x y:AV}{a:List Nat}(d:Pts x a):(aAppend .dyn i sz bytes x y).gives fun v=>Pts v (i::a):=by
 have nil:∀{v:AV},blks v=some []->Pts v (i::a):=fun h=>⟨[],h,fun b c=>by cases c⟩;unfold aAppend;refine Qo2 fun g n=>?_;split
 ·obtain⟨cs,h1,f⟩:=d;split
  ·split;·exact nil rfl
   exact Qcq ⟨_,rfl,fun b c=>by simp_all⟩
  ·split;·exact nil rfl
   exact Qcq ⟨_,rfl,fun b c=>by simp_all⟩
  ·split;·exact nil rfl
   trivial
  ·simp only[blks,Option.some.injEq]at h1;subst h1;split
   ·refine QgX fun cs=>?_;split;·exact⟨_,rfl,fun b c=>List.mem_cons_of_mem _ (f b c)⟩
    trivial
   trivial
  ·simp[blks]at h1
  trivial
 trivial
theorem Qe6{s:SOper}{h h1:Heap}{v:AV}{f:FP}{j:List Nat}(g:∀x j,ax x=some j->Pts (ev T x) j)(d:s.op.absV i ax=some j)(k:StepV P i s T h v h1 f):Pts v j:=by
 have self:∀{v:AV},blks v=some [i]->Pts v [i]:=fun h=>⟨_,h,fun b A=>A⟩;have key:∀{q:SOp},q.absV i ax=some j->StepX P i q T h v h1 f->Pts v j:=by
  rintro q d⟨out,E,hm,ho⟩;have p:∀{m:HM AV},aop i T q=hval m->(m.gives fun v=>Pts v j)->Pts v j:=by grind[QaS,HM.Qo1]
  have w:∀{o:Option AV},aop i T q=lift o->(∀u,o=some u->Pts u j)->Pts v j:=by grind[QaU]
  cases q<;>try(simp only[SOp.absV,reduceCtorEq]at d;done)
  ·simp only[aop,HM.run,Option.some.injEq,Prod.mk.injEq]at hm;obtain⟨rfl,rfl⟩:=hm;rw[ho.1];exact g _ _ d
  ·rename_i s z;cases s<;>simp only[SOp.absV,reduceCtorEq,Option.some.injEq]at d;subst d;refine p rfl ?_;unfold aBox;split;·exact Qcq (self rfl)
   trivial
  ·rename_i s z;cases s<;>simp only[SOp.absV,reduceCtorEq,Option.some.injEq]at d;subst d;refine p rfl ?_;unfold aBox;split;·exact Qcq (self rfl)
   trivial
  ·rename_i fz s sz len z C;cases fz<;>cases s<;>simp only[SOp.absV,reduceCtorEq,Option.some.injEq]at d;subst d;refine p rfl ?_;unfold aBuildSlice;split
   ·split;·rw[if_neg (by simp)];exact Qcq (self rfl)
    trivial
   trivial
  ·rename_i s;cases s<;>simp only[SOp.absV,reduceCtorEq,Option.some.injEq]at d;subst d;exact p rfl (Qcq (self rfl))
  ·rename_i s sz b z l c;cases s<;>simp only[SOp.absV,reduceCtorEq,Option.some.injEq]at d;subst d;refine p rfl ?_;unfold aMakeSlice;split
   ·split;·exact Qcq (self rfl)
    trivial
   trivial
  ·exact w rfl fun u r=>(g _ _ d).slice r
  ·exact w rfl fun u r=>(g _ _ d).faddr r
  ·exact w rfl fun u r=>(g _ _ d).iaddr r
  rename_i s sz b x y;cases s<;>simp only[SOp.absV,reduceCtorEq,Option.map_eq_some_iff]at d;obtain⟨a,B,rfl⟩:=d;exact p rfl (Qk6 (g _ _ B))
 unfold StepV at k;split at k;·exact key d k
 obtain⟨t,_,k⟩:=k;split at k;·exact key d k
 obtain⟨rfl,_⟩:=k;exact⟨[],rfl,fun b A=>by cases A⟩
end
def AbsOK(T0:Tmps)(A:Abs)(T:Tmps):Prop:=∀j a,absT T0 A j=some a->Pts (lk T j) a
theorem AbsOK.opd{T0 T:Tmps}{A:Abs}(h:AbsOK T0 A T):∀x a,absO T0 A x=some a->Pts (ev T x) a:=by intro x a c;cases x with|t i=>exact h i a c|c v=>exact⟨a,c,fun b d=>d⟩|f n=>cases c|g n=>cases c
theorem AbsOK.nil{T:Tmps}:AbsOK T [] T:=fun j c h=>⟨c,h,fun b a=>a⟩
theorem AbsOK.up{T0 T:Tmps}{A:Abs}{d:Nat}{v:AV}{a:Option (List Nat)}(h:AbsOK T0 A T)(f:∀b,a=some b->Pts v b):AbsOK T0 ((d,a)::A) (up T d v):=by
 intro j b c;rw[lk_up];simp only[absT]at c;by_cases e:d=j;·simp_all
 have :Nat.beq d j=false:=by simp_all[Bool.eq_false_iff]
 rw[this]at c;rw[if_neg (fun h=>e h.symm)];exact h j b c
theorem Qm1{T0:Tmps}:∀{r:List SOper}{n:Nat}{A:Abs}{T:Tmps}{h:Heap}{K:Tmps->Heap->Nat->Prop}(hA:AbsOK T0 A T)(K':List FP->Tmps->Heap->Nat->Prop),(∀fs T h n',fs.length=r.length->(∀(j:Nat)a,(touches n T0 r A).getD j none=some a->(fs.getD j ⟨false,[],[]⟩).all=false/\∀b,b∈(fs.getD j ⟨false,[],[]⟩).R\/b∈(fs.getD j ⟨false,[],[]⟩).W->b∈a)->K T h n'->K' fs T h n')->wpR P n r T h K->wpRF P n r T h K'
 |[],n,A,T,h,K,hA,K',g,hw=>g [] T h n rfl (fun j a c=>by simp_all) hw|s::r,n,A,T,h,K,hA,K',g,hw=>by
  obtain⟨v,h1,f,i,m⟩:=hw;refine⟨v,h1,f,i,?_⟩;have k:AbsOK T0 (match s.dst with|some d=>(d,s.op.absV n (absO T0 A))::A|none=>A) (putD T s.dst v):=by cases s.dst with|none=>exact hA|some d=>exact AbsOK.up hA fun q l=>Qe6 hA.opd l i
  refine Qm1 k (fun fs T h n=>K' (f::fs) T h n) (fun fs T h n' p hf o=>?_) m;refine g (f::fs) T h n' (by simp[p]) (fun j a c=>?_) o;cases j with|zero=>simp only[touches,List.getD_cons_zero]at c⊢;exact QgW hA.opd c i|succ j=>simp only[touches,List.getD_cons_succ]at c⊢;exact hf j a c
inductive PairsOK(n:Nat)(T:Tmps)(ops:List SOper)(ps:List (Nat×Nat)):Prop|mk(h:pairsOK (touches n T ops []) ps=true)
theorem Qh5{N:NM}{ops:List SOper}{p:Nat×Nat}{j:List (Nat×Nat)}{dead:List Nat}{fs:List Fr}{n:Nat}{T:Tmps}{h:Heap}{Q:QC}(hp:PairsOK n T ops (p::j)):wS P N (.region ops (p::j) dead) fs n T h Q=wR P N ops dead fs n T h Q:=by
 obtain⟨hp⟩:=hp;apply propext;constructor
 ·intro hw;have:∀{r:List SOper}{n:Nat}{T:Tmps}{h:Heap}{K:List FP->Tmps->Heap->Nat->Prop}{K':Tmps->Heap->Nat->Prop},(∀fs T h n,K fs T h n->K' T h n)->wpRF P n r T h K->wpR P n r T h K':=by intro r;induction r with|nil=>intro n T h K K' g hw;exact g _ _ _ _ hw|cons s r l=>rintro n T h K K' g⟨v,h1,f,u,t⟩;exact⟨v,h1,f,u,l (fun fs T h n c=>g _ _ _ _ c) t⟩
  exact this (fun i T h n c=>c.2) hw
 intro hw;refine Qm1 AbsOK.nil _ (fun i T h E G hf c=>⟨?_,c⟩) hw;rw[List.all_eq_true];intro q m;have:=List.all_eq_true.1 hp q m;split at this
 ·rename_i a b o k;obtain⟨C,H⟩:=hf _ _ o;obtain⟨F,B⟩:=hf _ _ k;have w:∀x y,x∈a->y∈b->x≠y:=by grind
  have A:∀xs d:List Nat,(∀x∈xs,∀y∈d,x≠y)->disj xs d=true:=by intro xs d I;unfold disj;grind
  grind[FP.apart]
 cases this
theorem FrzL.nil{h:Heap}:FrzL h [] []:=trivial
theorem FrzL.cons{h:Heap}{x y:AV}{xs ys:List AV}(h1:FrzTo h x y)(a:FrzL h xs ys):FrzL h (x::xs) (y::ys):=⟨h1,a⟩
end Go.AM
namespace Go.AM
variable{P:Program}
def setL:HL->Heap->Heap|[],h=>h|(k,x)::r,h=>(setL r h).set k x
theorem Qk7{h:Heap}:setL [] h=h:=rfl
theorem Qjx{k:Nat}{x:Blk}{r:HL}{h:Heap}:setL ((k,x)::r) h=(setL r h).set k x:=rfl
theorem Qk8{b:Nat}{h:Heap}(hf:Fresh b h):∀{L:HL},(L.all fun p=>Nat.ble b p.1&&Nat.blt p.1 1099511627775)=true->∀k,(setL L h).get k=if k<b then h.get k else(hp L).get k
 |[],_,k=>by
  simp only[setL,hp];split;·rfl
  rw[hf k (by omega),get_e]|(j,x)::r,a,k=>by
  simp only[List.all_cons,Bool.and_eq_true,Nat.ble_eq,Nat.blt_eq]at a;obtain⟨⟨h1,d⟩,c⟩:=a;have f:=Qk8 hf (L:=r) (by simpa using c) k;simp only[setL,hp];by_cases e:k=j;·simp_all[QaA,if_neg]
  simp_all[QaE]
theorem HSpec.of_O{f b:Nat}{args:List AV}{v:AV}{h:Heap}{L:HL}(hn:noRefs args=true)(S:HSpec P f args .e v (hp L))(hf:Fresh b h)(hL:(L.all fun p=>Nat.ble b p.1&&Nat.blt p.1 1099511627775)=true):HSpec P f args h v (setL L h):=by
 obtain⟨hc,S⟩:=S;refine⟨hc,fun c w B H ha=>?_⟩;refine(S (only c.F) w B (HRel.only H.inF) (VRels.noRef (c:=c) (c':=only c.F) (fun _ h=>h) _ _ hn ha)).mono ?_;rintro e J⟨cv,o,rfl,E,H',V⟩;have i:∀k,o.O k->w.heap.size<=k:=fun k d=>(E.own k d).elim (fun h=>h.elim) id;have m:∀k,o.F k->c.F k\/w.heap.size<=k:=fun k G=>(E.frzNew k G).elim .inl fun h=>h.elim (fun h=>h.elim) .inr;have l:∀k,k<w.heap.size->J.heap[k]?=w.heap[k]?:=fun k a=>E.keep k a (fun h=>h);have N:=Qk8 hf hL;have Z:∀k,(hp L).get k≠none->b<=k:=fun k a=>by
  rcases Nat.lt_or_ge k b with h1|h1
  ·exfalso;apply a;have:∀{M:HL},(M.all fun p=>Nat.ble b p.1&&Nat.blt p.1 1099511627775)=true->(hp M).get k=none:=by intro M;induction M with|nil=>intro _;exact get_e|cons q M ih=>obtain⟨j,x⟩:=q;intro hM;simp only[List.all_cons,Bool.and_eq_true,Nat.ble_eq,Nat.blt_eq]at hM;rw[Qa4,QaE hM.1.2 (by omega)];exact ih (by grind)
   exact this hL
  exact h1
 have T:∀k g,k<b->o.ρ k g=none:=fun k g a=>by
  have:(hp L).get k=none:=by grind
  exact H'.fresh k this g
 have K:∀k g,b<=k->c.ρ k g=none:=fun k g a=>H.fresh k (hf k a) g;let s:Ctx (okc P):={ρ:=fun k g=>if k<b then c.ρ k g else o.ρ k g,F:=o.F,O:=fun k=>c.O k\/o.O k,base:=c.base};have F:∀k g,k<b->s.ρ k g=c.ρ k g:=fun k g a=>if_pos a;have y:∀k g,b<=k->s.ρ k g=o.ρ k g:=fun k g a=>if_neg (by omega);have X:∀k g p,c.ρ k g=some p->s.ρ k g=some p:=fun k g p hp=>by grind
 have U:∀k g p,o.ρ k g=some p->s.ρ k g=some p:=fun k g p hp=>by grind
 have E2:Evo c w s J:=⟨E.os,E.tape,E.output,E.size,E.shape,fun k a _=>l k a,X,fun k a=>E.frz k a,fun k a=>(m k a).elim .inl fun h=>.inr (.inr h),fun k a=>a.elim .inl fun h=>.inr (i k h),rfl⟩;have X2:Ext o J s J:=⟨U,fun _ h=>h,fun k _ _ h=>h,fun k C e fr h=>⟨C,fr,h,rfl⟩⟩;refine⟨cv,s,rfl,E2,?_,VRel.mono X2 _ _ V⟩;refine⟨fun k a g=>?_,fun k x a g I=>?_,fun k x a=>?_,?_,fun k G d=>?_,fun k G=>H'.inF k G,fun k d=>d.elim (fun h=>Nat.lt_of_lt_of_le (H.inO k h) E.size) (H'.inO k)⟩
 ·rw[N k]at a;split at a;·rename_i h1;rw[F k g h1];exact H.fresh k a g
  rename_i h1;rw[y k g (by omega)];exact H'.fresh k a g
 ·rw[N k]at a;split at a;·rename_i h1;rw[F k g h1];exact H.later k x a g I
  rename_i h1;rw[y k g (by omega)];exact H'.later k x a g I
 ·rw[N k]at a;split at a;·refine BRel.mono (E2.ext H.disj) (fun r base t hp=>?_) (H.blk k x a);have d:=H.owned ⟨x,a,rfl,t⟩ hp;exact⟨.inl d,l r (H.inO _ d)⟩
  refine BRel.mono X2 (fun r base t hp=>?_) (H'.blk k x a);have d:=H'.owned ⟨x,a,rfl,t⟩ hp;grind
 ·intro b1 g1 b2 g2 r u A l1 l2 p1 p2;have key:∀k g base,Live (setL L h) k g->s.ρ k g=some (.loc r base)->(k<b/\Live h k g/\c.ρ k g=some (.loc r base)/\r<w.heap.size)\/(b<=k/\Live (hp L) k g/\o.ρ k g=some (.loc r base)/\w.heap.size<=r):=by
   rintro k g base⟨x,a,rfl,t⟩hp;rw[N k]at a;split at a;·rename_i h1;rw[F k _ h1]at hp;exact .inl ⟨h1,⟨x,a,rfl,t⟩,hp,H.inO _ (H.owned ⟨x,a,rfl,t⟩ hp)⟩
   rename_i h1;rw[y k _ (by omega)]at hp;exact .inr ⟨by omega,⟨x,a,rfl,t⟩,hp,i _ (H'.owned ⟨x,a,rfl,t⟩ hp)⟩
  rcases key b1 g1 u l1 p1 with⟨k1,R,Q,k4⟩|⟨k1,R,Q,k4⟩<;>rcases key b2 g2 A l2 p2 with⟨j1,O,Y,j4⟩|⟨j1,O,Y,j4⟩;·exact H.inj _ _ _ _ _ _ _ R O Q Y
  ·omega
  ·omega
  exact H'.inj _ _ _ _ _ _ _ R O Q Y
 rcases d with d|d
 ·rcases m k G with h1|h1;·exact H.disj k h1 d
  have:=H.inO k d;omega
 exact H'.disj k G d
theorem HSpec.QbB{f:Nat}{sf:SFn}{args:List AV}{v:AV}{L:HL}(n:Nat)(c:okFn P f sf=true)(h:Nat.ble args.length sf.n=true)(hw:wS P ⟨sf.n,0⟩ sf.body [] n (argT 0 args) .e fun e T k _=>(e=.normal\/e=.ret)/\∃vs,resV T k sf.res=some vs/\Rec 0 [(0,v)] L [(0,resOf vs)] k):HSpec P f args .e v (hp L):=by refine HSpec.of_W2 (m:=0) c (Nat.le_of_ble_eq_true h) (fun b _=>get_e) ((wpC.toW hw).mono ?_);rintro e B⟨j,h1,vs,i,l,ho,a,d,g⟩;exact⟨h1,vs,_,i,Rec.maps ho d,Rec.heap ho d,Rec.dom ho a,g 0⟩
end Go.AM
namespace Go.AM
variable{P:Program}
section
variable{N:NM}{n:Nat}{d:Option Nat}{af dead:List Nat}{r:List SOper}{T:Tmps}{h:Heap}{Q:QC}{fs:List Fr}
theorem QfV(f:n<1099511627775):wM P N (aMakeMap .dyn n) d r dead fs n T h Q=if h.get n=none then wR P N r dead fs (n+1) (putD T d (.map n 0)) (h.set n (.map 0 [])) Q else False:=by
 have c:Nat.blt n lim=true:=by simp[Nat.blt];unfold lim;omega
 apply propext;constructor;·rintro⟨g,h1,hm,a⟩;unfold aMakeMap HM.new at hm;simp only[HM.run]at hm;cases b:h.get n with|none=>rw[b]at hm;obtain⟨f,hm⟩:=Qa3 hm;simp only[HM.run,Option.some.injEq,Prod.mk.injEq]at hm;obtain⟨rfl,rfl⟩:=hm;rw[if_pos rfl];exact a|some z=>rw[b]at hm;cases hm
 split;·rename_i b;intro a;refine⟨_,_,?_,a⟩;grind[aMakeMap,HM.new,HM.run]
 simp_all
def keyM(k:IntKind)(v:AV)(l:List Nat):List (AV×AV):=l.map fun x:Nat=>(.int k (x:Int),v)
theorem RnM.keyM{m:Nat}{π:Nat->Option Src}{h:Heap}{k:IntKind}{v:AV}(a:noRef v=true):∀{l:List Nat},RnM m π h (keyM k v l) (keyM k v l)|[]=>trivial|x::l=>⟨⟨Rn.same rfl,Rn.same a⟩,RnM.keyM a (l:=l)⟩
end
theorem wordsM:AV.nilmap.boxable=true/\AV.nilmap.cells=[.nilmap]/\(∀b g,(AV.map b g).cells=[.map b g])/\(∀b g,(AV.map b g).one=true)/\(∀b g,(AV.map b g).boxable=true)/\AV.nilmap.one=true:=⟨rfl,rfl,fun _ _=>rfl,fun _ _=>rfl,fun _ _=>rfl,rfl⟩
theorem HSpec.QcF{f m:Nat}{sf:SFn}{args:List AV}{L0 L:HL}{v:AV}(n:Nat)(c:okFn P f sf=true)(l:Nat.ble args.length sf.n=true)(hm:(Nat.ble m 1099511627775&&L0.all fun p=>Nat.blt p.1 m)=true)(o:noRef v=true)(hw:wS P ⟨sf.n,m⟩ sf.body [] n (argT 0 args) (hp L0) fun e T k _=>(e=.normal\/e=.ret)/\∃vs,resV T k sf.res=some vs/\resOf vs=v/\Rec m [] L T k):HSpec P f args (hp L0) v (hp L):=by
 simp only[Bool.and_eq_true,Nat.ble_eq]at hm;refine HSpec.of_W2 c (Nat.le_of_ble_eq_true l) (fun b d=>?_) ((wpC.toW hw).mono ?_)
 ·have :∀M:HL,M.all (fun p=>Nat.blt p.1 m)=true->(hp M).get b=none:=by intro M;induction M with|nil=>intro _;exact get_e|cons q M h=>obtain⟨j,x⟩:=q;intro i;simp only[List.all_cons,Bool.and_eq_true,Nat.blt,Nat.ble_eq]at i;rw[Qa4,QaE (by omega) (by omega)];exact h (by grind[Nat.blt])
  grind
 rintro e B⟨s,h1,vs,g,t,u,ho,a,d,r⟩;exact⟨h1,vs,_,g,Rec.maps ho d,Rec.heap ho d,Rec.dom ho a,by simp_all[Rn.same]⟩
end Go.AM
namespace Go.AM
theorem wV:type_of%@words/\type_of%@wordsN/\type_of%@wordsR/\type_of%@Qh5/\type_of%@QgR/\type_of%@Qez/\type_of%@QgS/\type_of%@QgT/\type_of%@QgU/\type_of%@Qh2/\type_of%@Qh3/\type_of%@Qh4/\type_of%@Qjx/\type_of%@Qk7/\type_of%@SX.exit.injEq/\type_of%@if_true.{1}/\type_of%@if_false.{1}/\type_of%@ne_eq.{1}:=⟨@words,@wordsN,@wordsR,@Qh5,@QgR,@Qez,@QgS,@QgT,@QgU,@Qh2,@Qh3,@Qh4,@Qjx,@Qk7,@SX.exit.injEq,@if_true,@if_false,@ne_eq⟩
theorem gg{p:Prop}(h:p:=by first|(simp(disch:=omega)only[QaA,QaE,Qa4];done)|(simp(disch:=omega)only[QaA,QaE,Qa4];rfl)):p:=h
end Go.AM
namespace Go.AM
variable{P:Program}
def mapF(k:IntKind)(f:Nat->AV)(l:List Nat):List (AV×AV):=l.map fun x:Nat=>(.int k (x:Int),f x)
def updF(f:Nat->AV)(x:Nat)(v:AV):Nat->AV:=fun y=>if y=x then v else f y
theorem Qjy{k:IntKind}{x y:Nat}:keyEq false [.i] (.int k (x:Int)) (.int k (y:Int))=some (decide (x=y)):=by
 by_cases e:x=y;·grind[keyEq,eqCells,eqCell]
 have :¬(x:Int)=y:=by omega
 grind[keyEq,eqCells,eqCell]
theorem Qe7{k:IntKind}{f:Nat->AV}{x:Nat}:∀(l:List Nat)(i:Nat),x∈l->aFind false [.i] (.int k (x:Int)) (mapF k f l) i=some (some (i+l.findIdx (·==x),f x))
 |[],_,h=>by cases h|y::l,i,b=>by
  show(match keyEq false [.i] (.int k (x:Int)) (.int k (y:Int))with|some true=>_|some false=>_|none=>_)=_;rw[Qjy,List.findIdx_cons];by_cases e:x=y;·subst e;simp
  have a:(y==x)=false:=by grind
  rw[decide_eq_false e,a];show aFind false [.i] (.int k (x:Int)) (mapF k f l) (i+1)=_;rw[Qe7 l (i+1) ((List.mem_cons.1 b).resolve_left e)];grind
theorem Qej{k:IntKind}{f:Nat->AV}{x:Nat}:∀(l:List Nat)(i:Nat),x∉l->aFind false [.i] (.int k (x:Int)) (mapF k f l) i=some none|[],_,_=>rfl|y::l,i,a=>by simp only[List.mem_cons,not_or]at a;show(match keyEq false [.i] (.int k (x:Int)) (.int k (y:Int))with|some true=>_|some false=>_|none=>_)=_;rw[Qjy,decide_eq_false a.1];exact Qej l (i+1) a.2
theorem Qk9{k:IntKind}{f:Nat->AV}{x:Nat}{v:AV}:∀(l:List Nat),l.Nodup->x∈l->(mapF k f l).set (l.findIdx (·==x)) (.int k (x:Int),v)=mapF k (updF f x v) l
 |[],_,h=>by cases h|y::l,a,c=>by
  rw[List.nodup_cons]at a;rw[List.findIdx_cons];by_cases e:y=x
  ·subst e;have:mapF k f l=mapF k (updF f y v) l:=List.map_congr_left fun z d=>by grind[updF]
   grind[mapF,updF]
  have b:(y==x)=false:=by simpa using e
  rw[b];simp only[cond_false];show(.int k (y:Int),f y)::(mapF k f l).set (l.findIdx (·==x)) (.int k (x:Int),v)=(.int k (y:Int),updF f x v y)::mapF k (updF f x v) l;rw[Qk9 l a.2 ((List.mem_cons.1 c).resolve_left fun h=>e h.symm)];simp[updF,e]
theorem Qql{k:IntKind}{f:Nat->AV}{x:Nat}{v:AV}{l:List Nat}(a:x∉l):mapF k f l++[(.int k (x:Int),v)]=mapF k (updF f x v) (l++[x]):=by grind[mapF,updF,List.map_congr_left]
theorem RnM.mapF{m:Nat}{π:Nat->Option Src}{h:Heap}{k:IntKind}{f g:Nat->AV}:∀{l:List Nat},(∀x∈l,Rn m π h (f x) (g x))->RnM m π h (mapF k f l) (mapF k g l)|[],_=>trivial|x::l,hf=>⟨⟨Rn.same rfl,hf x (by simp)⟩,RnM.mapF (l:=l) fun y a=>hf y (by simp[a])⟩
section
variable{N:NM}{n:Nat}{d:Option Nat}{af dead:List Nat}{r:List SOper}{T:Tmps}{h:Heap}{Q:QC}{fs:List Fr}
def lkV(ok:Bool)(z:AV):Option (Nat×AV)->AV|some (_,v)=>if ok then .tup [v,.bool true]else v|none=>if ok then .tup [z,.bool false]else z
def wK(P:Program)(N:NM)(o:Option Blk)(g:Nat)(k z:AV)(ok:Bool)(d:Option Nat)(ops:List SOper)(dead:List Nat)(fs:List Fr)(n:Nat)(T:Tmps)(h:Heap)(Q:QC):Prop:=∃es q,o=some (.map g es)/\aFind false [.i] k es 0=some q/\wR P N ops dead fs (n+1) (putD T d (lkV ok z q)) h Q
theorem Qdq{k:IntKind}{x:Int}{b g:Nat}{z:AV}{ok:Bool}(f:wK P N (h.get b) g (.int k x) z ok d r dead fs n T h Q):wM P N (aLookup false [.i] z ok (.map b g) (.int k x)) d r dead fs n T h Q:=by
 obtain⟨es,q,j,hf,c⟩:=f;refine⟨_,_,?_,c⟩;have a:keyOK false [.i] (.int k x)=true:=by simp[keyOK,keyEq,eqCells,eqCell]
 have i:Nat.beq g g=true:=by simp
 grind[aLookup,HM.entries,HM.run,lkV]
abbrev fmapF(k:IntKind)(f:Nat->AV)(l:List Nat):AV:=.fmap (l.map fun x:Nat=>.int k (x:Int)) (l.map f)
theorem Qla{k:IntKind}{f:Nat->AV}(l:List Nat):(l.map fun x:Nat=>AV.int k (x:Int)).zip (l.map f)=mapF k f l:=by induction l with|nil=>rfl|cons x l a=>simp only[List.map_cons,List.zip_cons_cons,a];rfl
theorem Qmk{k:IntKind}{f:Nat->AV}{x:Nat}{l:List Nat}{z:AV}{ok:Bool}(a:x∈l)(b:wR P N r dead fs (n+1) (putD T d (if ok then .tup [f x,.bool true]else f x)) h Q):wM P N (aLookup false [.i] z ok (fmapF k f l) (.int k (x:Int))) d r dead fs n T h Q:=by
 refine⟨_,h,?_,b⟩;have e:keyOK false [.i] (AV.int k (x:Int))=true:=by simp[keyOK,keyEq,eqCells,eqCell]
 unfold aLookup;rw[if_pos e];simp only[fmapF];rw[Qla,Qe7 l 0 a];rfl
theorem Qlb{k:IntKind}{f:Nat->AV}{x:Nat}{l:List Nat}{z:AV}{ok:Bool}(a:x∉l)(b:wR P N r dead fs (n+1) (putD T d (if ok then .tup [z,.bool false]else z)) h Q):wM P N (aLookup false [.i] z ok (fmapF k f l) (.int k (x:Int))) d r dead fs n T h Q:=by
 refine⟨_,h,?_,b⟩;have e:keyOK false [.i] (AV.int k (x:Int))=true:=by simp[keyOK,keyEq,eqCells,eqCell]
 unfold aLookup;rw[if_pos e];simp only[fmapF];rw[Qla,Qej l 0 a];rfl
theorem FrzTo.mapF{k:IntKind}{f g:Nat->AV}{b gg:Nat}{l:List Nat}(a:h.get b=some (.map gg (Go.AM.mapF k f l)))(c:∀x∈l,FrzTo h (f x) (g x)):FrzTo h (.map b gg) (fmapF k g l):=by
 refine FrzTo.map a ?_ ?_
 ·have :(Go.AM.mapF k f l).map (·.1)=l.map fun x:Nat=>AV.int k (x:Int):=by simp[Go.AM.mapF]
  simp_all[FrzL.same]
 have :(Go.AM.mapF k f l).map (·.2)=l.map f:=by simp[Go.AM.mapF]
 rw[this];clear a this;induction l with|nil=>trivial|cons x l d=>exact⟨c x (by simp),d fun y i=>c y (by simp[i])⟩
theorem wK_in{k:IntKind}{f:Nat->AV}{x g:Nat}{l:List Nat}{z:AV}{ok:Bool}(a:x∈l)(b:wR P N r dead fs (n+1) (putD T d (if ok then .tup [f x,.bool true]else f x)) h Q):wK P N (some (.map g (mapF k f l))) g (.int k (x:Int)) z ok d r dead fs n T h Q:=⟨_,_,rfl,Qe7 l 0 a,b⟩
theorem Qo3{k:IntKind}{f:Nat->AV}{x g:Nat}{l:List Nat}{z:AV}{ok:Bool}(a:x∉l)(b:wR P N r dead fs (n+1) (putD T d (if ok then .tup [z,.bool false]else z)) h Q):wK P N (some (.map g (mapF k f l))) g (.int k (x:Int)) z ok d r dead fs n T h Q:=⟨_,_,rfl,Qej l 0 a,b⟩
def wUF(P:Program)(N:NM)(o:Option Blk)(b g:Nat)(k v:AV)(d:Option Nat)(ops:List SOper)(dead:List Nat)(fs:List Fr)(n:Nat)(T:Tmps)(h:Heap)(Q:QC):Prop:=∃es q,o=some (.map g es)/\aFind false [.i] k es 0=some q/\b<lim/\wR P N ops dead fs (n+1) (putD T d .any) (h.set b (.map g (match q with|some (i,_)=>es.set i (k,v)|none=>es++[(k,v)]))) Q
theorem QbP{k:IntKind}{x:Int}{b g:Nat}{v:AV}(f:wUF P N (h.get b) b g (.int k x) v d r dead fs n T h Q):wM P N (aMapUpd false [.i] (.map b g) (.int k x) v) d r dead fs n T h Q:=by
 obtain⟨es,q,m,hf,j,i⟩:=f;refine⟨_,_,?_,i⟩;have a:keyOK false [.i] (.int k x)=true:=by simp[keyOK,keyEq,eqCells,eqCell]
 have c:Nat.blt b lim=true:=by simp_all
 have l:Nat.beq g g=true:=by simp
 grind[aMapUpd,HM.entries,HM.run]
theorem QrZ{k:IntKind}{f:Nat->AV}{x b g:Nat}{l:List Nat}{v:AV}(j:l.Nodup)(c:x∈l)(i:b<1099511627775)(m:wR P N r dead fs (n+1) (putD T d .any) (h.set b (.map g (mapF k (updF f x v) l))) Q):wUF P N (some (.map g (mapF k f l))) b g (.int k (x:Int)) v d r dead fs n T h Q:=by have a:b<lim:=i;refine⟨_,_,rfl,Qe7 l 0 c,a,?_⟩;simp_all[Qk9]
theorem QcB{k:IntKind}{f:Nat->AV}{x b g:Nat}{l:List Nat}{v:AV}(c:x∉l)(i:b<1099511627775)(j:wR P N r dead fs (n+1) (putD T d .any) (h.set b (.map g (mapF k (updF f x v) (l++[x])))) Q):wUF P N (some (.map g (mapF k f l))) b g (.int k (x:Int)) v d r dead fs n T h Q:=by have a:b<lim:=i;refine⟨_,_,rfl,Qej l 0 c,a,?_⟩;simp_all[Qql]
end
end Go.AM
namespace Go.AM
variable{P:Program}
def rowsL(f:Nat->List AV)(ks:List Nat):HL:=ks.map fun k=>(300+k,.cells 0 (f k))
def psL(s:Nat->Src)(ks:List Nat):List (Nat×Src):=ks.map fun k=>(300+k,s k)
theorem Qcr{f:Nat->List AV}:∀{ks:List Nat},ks.Nodup->(∀k∈ks,k<1000000)->∀{k:Nat},k∈ks->(hp (rowsL f ks)).get (300+k)=some (.cells 0 (f k))
 |[],_,_,k,h=>by cases h|j::ks,b,a,k,h=>by
  have d:=a j (by simp);show((hp (rowsL f ks)).set (300+j) _).get (300+k)=_;by_cases e:k=j;·grind[QaA]
  rw[QaE (by omega) (by omega)];exact Qcr (List.nodup_cons.1 b).2 (fun k c=>a k (by simp[c])) (by simp_all)
theorem Qe8{f:Nat->List AV}:∀{ks:List Nat},(∀k∈ks,k<1000000)->∀{b:Nat},(∀k∈ks,b≠300+k)->(hp (rowsL f ks)).get b=none|[],_,b,_=>get_e|j::ks,c,b,h=>by have d:=c j (by simp);show((hp (rowsL f ks)).set (300+j) _).get b=_;rw[QaE (by omega) (h j (by simp))];exact Qe8 (fun k a=>c k (by simp[a])) (fun k a=>h k (by simp[a]))
theorem Qcm{b g:Nat}{s:Nat->Src}:∀{ks:List Nat},(∀k∈ks,∀a c,s k=.blk a c->b≠a)->srcNew (.blk b g) (psL s ks)=true|[],_=>rfl|j::ks,h=>by show((match(Src.blk b g),s j with|.blk b _,.blk a _=>!Nat.beq b a|_,_=>true)&&srcNew (.blk b g) (psL s ks))=true;rw[Qcm fun k d=>h k (by simp[d]),Bool.and_true];cases e:s j with|nil=>rfl|blk a c=>
 have:=h j (by simp) a c e;have f:Nat.beq b a=false:=by simp_all[Bool.eq_false_iff]
 simp[f]
theorem Qe9{s:Nat->Src}:∀{ks:List Nat},srcNew .nil (psL s ks)=true|[]=>rfl|j::ks=>by show((match Src.nil,s j with|.blk b _,.blk a _=>!Nat.beq b a|_,_=>true)&&srcNew .nil (psL s ks))=true;rw[Qe9];rfl
theorem Qdx{s:Nat->Src}{f:Nat->List AV}:∀{ks:List Nat},ks.Nodup->(∀k∈ks,k<1000000)->(∀k∈ks,∀j∈ks,k≠j->∀b g c d,s k=.blk b g->s j=.blk c d->b≠c)->okPs 0 (psL s ks) (rowsL f ks)=true
 |[],_,_,_=>rfl|j::ks,o,h,l=>by
  have q:=h j (by simp);obtain⟨h1,p⟩:=List.nodup_cons.1 o;show okPs 0 ((300+j,s j)::psL s ks) ((300+j,.cells 0 (f j))::rowsL f ks)=true;simp only[okPs,Bool.and_eq_true,Nat.beq_eq,Nat.blt_eq,Bool.or_eq_true,List.all_eq_true];refine⟨⟨⟨⟨trivial,by omega⟩,.inr ⟨?_,?_⟩⟩,?_⟩,Qdx p (fun k a=>h k (by simp[a])) (fun k a i hi=>l k (by simp[a]) i (by simp[hi]))⟩;·cases s j with|nil=>rfl|blk b g=>simp
  ·cases e:s j with|nil=>exact Qe9|blk b g=>exact Qcm fun k a c d m=>l j (by simp) k (by simp[a]) (fun e=>h1 (e▸a)) b g c d e m
  rintro⟨b,x⟩hp;obtain⟨k,a,e⟩:=List.mem_map.1 hp;cases e;have:k≠j:=fun e=>h1 (e▸a);simp_all[Bool.eq_false_iff]
theorem Qho{s:Nat->Src}:∀{ks:List Nat}{k:Nat},k∈ks->lkS (psL s ks) (300+k)=some (s k)
 |[],k,h=>by cases h|j::ks,k,h=>by
  show(if 300+k=300+j then some (s j)else lkS (psL s ks) (300+k))=_;by_cases e:k=j;·subst e;simp
  rw[if_neg (by omega)];exact Qho (by simp_all)
theorem Qdi{m:Nat}{π:Nat->Option Src}{h:Heap}{f:Nat->List AV}:∀{ks:List Nat},(∀k∈ks,RB m π h [(300+k,.cells 0 (f k))])->RB m π h (rowsL f ks)|[],_=>trivial|j::ks,a=>⟨(a j (by simp)).1,Qdi fun k h=>a k (by simp[h])⟩
mutual theorem QgY:∀v:AV,flatV v=true->noRef v=true|.any,_=>rfl|.bool _,_=>rfl|.int _ _,_=>rfl|.str _,_=>rfl|.agg cs,h=>by simp only[flatV]at h;simp only[noRef];exact QbU cs h|.tup cs,h=>by simp only[flatV]at h;simp only[noRef];exact QbU cs h|.nilptr,_=>rfl|.ptr _ _ _,h=>by simp[flatV]at h|.fptr _,h=>by simp[flatV]at h|.nilsl,_=>rfl|.sl _ _ _ _ _,h=>by simp[flatV]at h|.fsl _ _ _,h=>by simp[flatV]at h|.esl,_=>rfl|.nsl,_=>rfl|.nilmap,_=>rfl|.map _ _,h=>by simp[flatV]at h|.fmap _ _,h=>by simp[flatV]at h|.nilfn,_=>rfl|.fn f x y,h=>by simp only[flatV,Bool.and_eq_true]at h;simp only[noRef,Bool.and_eq_true];exact⟨QbU x h.1,QbU y h.2⟩|.nilif,_=>rfl|.ifc t v,h=>by simp only[flatV]at h;simp only[noRef];exact QgY v h|.typed _ _ _,h=>by simp[flatV]at h theorem QbU:∀l:List AV,flatVs l=true->noRefs l=true|[],_=>rfl|x::l,h=>by simp only[flatVs,Bool.and_eq_true]at h;simp only[noRefs,Bool.and_eq_true];exact⟨QgY x h.1,QbU l h.2⟩end
theorem FSpec.QbB{f b len sz:Nat}{args cs:List AV}(l:HSpec P f args .e (.sl b 0 0 len sz) (hp [(b,.cells 0 cs)]))(u:noRefs args=true)(hf:flatVs cs=true)(s:cs.length=len*sz)(o:Nat.blt b 1099511627775=true):FSpec P f args (.fsl cs len sz):=by
 obtain⟨hc,l⟩:=l;refine⟨hc,u,by simp_all[noRef,QbU],fun F w d r c=>(l (only F) w d (HRel.only r) c).mono ?_⟩;rintro e t⟨q,m,rfl,E,H',V⟩;have i:∀k,m.O k->w.heap.size<=k:=fun k j=>(E.own k j).elim (fun h=>h.elim) id;refine⟨q,m.O,rfl,?_,fun k j=>⟨i k j,H'.inO k j⟩,RnO.sl (h:=hp [(b,.cells 0 cs)]) (by simp_all[hp,QaA]) hf s _ m t q H' V⟩;refine⟨E.os,E.tape,E.output,E.size,E.shape,fun k a _=>E.keep k a (fun h=>h),fun b g p o=>absurd o (Nat.not_lt_zero _),fun k a=>.inl a,fun k a=>?_,fun k a=>a.elim,rfl⟩;rcases a with a|a;·exact .inl a
 simp_all
end Go.AM
namespace Go.AM
theorem QeA{b g c k d:Nat}{a:List (Nat×Src)}(f:b≠k)(h:srcNew (.blk b g) a=true):srcNew (.blk b g) ((c,.blk k d)::a)=true:=by simp_all[Bool.eq_false_iff,srcNew]
theorem QfW{b k g:Nat}{x:Blk}{a:List (Nat×Src)}{L:HL}(i:b<1099511627775)(d:srcNew (.blk k g) a=true)(c:∀p∈a,p.1≠b)(h:okPs 0 a L=true):okPs 0 ((b,.blk k g)::a) ((b,x)::L)=true:=by
 simp only[okPs,Bool.and_eq_true,Nat.beq_eq,Nat.blt_eq,Bool.or_eq_true,List.all_eq_true];refine⟨⟨⟨⟨trivial,by omega⟩,.inr ⟨by simp,d⟩⟩,fun p hp=>?_⟩,h⟩;have f:Nat.beq p.1 b=false:=by rw[Bool.eq_false_iff];simpa using c p hp
 simp[f]
theorem Qek{s:Nat->Src}{ks:List Nat}{p:Nat×Src}(h:p∈psL s ks):300<=p.1:=by obtain⟨k,_,rfl⟩:=List.mem_map.1 h;simp
theorem Qfa{s:Nat->Src}{f:Nat->List AV}{ks:List Nat}{x1 x2 x3:Blk}{m i l v u t:Nat}(B:ks.Nodup)(C:∀k∈ks,k<1000000)(y:∀k∈ks,∀j∈ks,k≠j->∀b g c d,s k=.blk b g->s j=.blk c d->b≠c)(a:∀k∈ks,∀b g,s k=.blk b g->m≠b/\i≠b/\l≠b)(o:m≠i)(r:m≠l)(q:i≠l):okPs 0 ((70,.blk m v)::(71,.blk i u)::(72,.blk l t)::psL s ks) ((70,x1)::(71,x2)::(72,x3)::rowsL f ks)=true:=by
 have x:=Qcm (b:=m) (g:=v) (s:=s) (ks:=ks) fun k h c d e=>(a k h c d e).1;have w:=Qcm (b:=i) (g:=u) (s:=s) (ks:=ks) fun k h c d e=>(a k h c d e).2.1;have A:=Qcm (b:=l) (g:=t) (s:=s) (ks:=ks) fun k h c d e=>(a k h c d e).2.2;refine QfW (by omega) (QeA o (QeA r x)) ?_ (QfW (by omega) (QeA q w) ?_ (QfW (by omega) A ?_ (Qdx B C y)))
 ·intro p hp;simp only[List.mem_cons]at hp;rcases hp with rfl|rfl|hp;·simp
  ·simp
  grind[Qek]
 ·intro p hp;simp only[List.mem_cons]at hp;rcases hp with rfl|hp;·simp
  grind[Qek]
 intro p hp;grind[Qek]
theorem Qb5{s:Nat->Src}{ks:List Nat}{k:Nat}{q1 q2 b:Src}(a:k∈ks):ow 0 ((70,q1)::(71,q2)::(72,b)::psL s ks) (300+k)=some (s k):=by unfold ow;rw[if_neg (Nat.not_lt_zero _)];simp only[lkS];rw[if_neg (by omega),if_neg (by omega),if_neg (by omega)];exact Qho a
end Go.AM
namespace Go.AM
variable{P:Program}
abbrev Claims:=List (Nat×List Nat)
def clm:Claims->Nat->Option (List Nat)|[],_=>none|(j,a)::r,d=>bif Nat.beq j d then some a else clm r d
def absH(C:Claims)(d:Nat)(a:Option (List Nat)):Option (List Nat):=match clm C d with|some b=>some b|none=>a
def touch2(i:Nat)(ax:Opd->Option (List Nat)):SOp->Option (List Nat)|.call .pure _ _=>some []|s=>s.touch i ax
theorem QfX{i:Nat}{T:Tmps}{ax:Opd->Option (List Nat)}{s:SOper}{h h1:Heap}{v:AV}{f:FP}{c:List Nat}(d:∀x k,ax x=some k->Pts (ev T x) k)(p:touch2 i ax s.op=some c)(l:StepV P i s T h v h1 f):f.all=false/\∀b,b∈f.R\/b∈f.W->b∈c:=by
 by_cases hc:∃x a,s.op=.call .pure x a
 ·obtain⟨x,a,g⟩:=hc;have key:StepX P i s.op T h v h1 f->f.all=false/\∀b,b∈f.R\/b∈f.W->b∈c:=by rintro⟨out,q,hm,ho⟩;rw[g]at hm ho;simp only[aop]at hm ho;cases j:ev T x with|fn o first cap=>rw[j]at hm ho;simp only[aCall,HM.run,Option.some.injEq,Prod.mk.injEq]at hm;obtain⟨rfl,rfl⟩:=hm;simp only[aCall,HM.fp]at ho;obtain⟨_,_,rfl⟩:=ho;exact⟨rfl,fun b m=>by simp[fpOf]at m⟩|_=>rw[j]at hm;simp[aCall,HM.run]at hm
  unfold StepV at l;grind
 refine QgW d ?_ l;simp_all[touch2]
def touchesH(C:Claims)(n:Nat)(T:Tmps):List SOper->Abs->List (Option (List Nat))|[],_=>[]|s::r,A=>touch2 n (absO T A) s.op::touchesH C (n+1) T r (match s.dst with|some d=>(d,absH C d (s.op.absV n (absO T A)))::A|none=>A)
def ssa(C:Claims):List SOper->Bool|[]=>true|s::r=>(match s.dst with|some d=>(clm C d).isNone||r.all fun a=>(match a.dst with|some e=>!Nat.beq e d|none=>true)|none=>true)&&ssa C r
theorem Qm2:∀{r:List SOper}{n:Nat}{T:Tmps}{h:Heap}{K:Tmps->Heap->Nat->Prop},wpR P n r T h K->∃T' h' n',K T' h' n'/\∀d,(∀s∈r,s.dst≠some d)->lk T' d=lk T d|[],n,T,h,K,a=>⟨T,h,n,a,fun _ _=>rfl⟩|s::r,n,T,h,K,⟨v,h1,f,g,b⟩=>by obtain⟨T',h',n',a,he⟩:=Qm2 b;refine⟨T',h',n',a,fun d c=>?_⟩;simp_all[QbI]
theorem Qlc{T0:Tmps}{C:Claims}:∀{r:List SOper}{n:Nat}{A:Abs}{T:Tmps}{h:Heap}{K:Tmps->Heap->Nat->Prop}(hA:AbsOK T0 A T)(K':List FP->Tmps->Heap->Nat->Prop)(k:∀T h n,K T h n->∀d w,clm C d=some w->Pts (lk T d) w)(a:ssa C r=true),(∀fs T h n',fs.length=r.length->(∀(j:Nat)g,(touchesH C n T0 r A).getD j none=some g->(fs.getD j ⟨false,[],[]⟩).all=false/\∀b,b∈(fs.getD j ⟨false,[],[]⟩).R\/b∈(fs.getD j ⟨false,[],[]⟩).W->b∈g)->K T h n'->K' fs T h n')->wpR P n r T h K->wpRF P n r T h K'
 |[],n,A,T,h,K,hA,K',k,a,p,hw=>p [] T h n rfl (fun j g i=>by simp_all) hw|s::r,n,A,T,h,K,hA,K',k,a,p,hw=>by
  obtain⟨v,h1,f,t,x⟩:=hw;simp only[ssa,Bool.and_eq_true]at a;obtain⟨c,m⟩:=a;refine⟨v,h1,f,t,?_⟩;have q:AbsOK T0 (match s.dst with|some d=>(d,absH C d (s.op.absV n (absO T0 A)))::A|none=>A) (putD T s.dst v):=by cases e:s.dst with|none=>exact hA|some d=>
   refine AbsOK.up hA fun w l=>?_;unfold absH at l;split at l
   ·rename_i B hc;cases l;obtain⟨T',G,n',o,he⟩:=Qm2 x;have y:=k T' G n' o d _ hc;rw[he d ?_,QbI,if_pos e]at y;·exact y
    intro E u;rw[e]at c;simp only[hc,Option.isNone_some,Bool.false_or,List.all_eq_true]at c;have:=c E u;intro H;simp_all
   exact Qe6 hA.opd l t
  refine Qlc q (fun fs T h n=>K' (f::fs) T h n) k m (fun fs T h n' F hf o=>?_) x;refine p (f::fs) T h n' (by simp[F]) (fun j g i=>?_) o;cases j with|zero=>simp only[touchesH,List.getD_cons_zero]at i⊢;exact QfX hA.opd i t|succ j=>simp only[touchesH,List.getD_cons_succ]at i⊢;exact hf j g i
def Clms(T:Tmps):Claims->Prop|[]=>True|(d,a)::r=>Pts (lk T d) a/\Clms T r
theorem Clms.get{T:Tmps}:∀{C:Claims},Clms T C->∀d a,clm C d=some a->Pts (lk T d) a
 |[],_,d,a,h=>by cases h|(j,cs)::r,b,d,a,h=>by
  simp only[clm]at h
  cases e:Nat.beq j d with|true=>
   rw[e]at h;simp only[cond_true,Option.some.injEq]at h;have:j=d:=by simpa using e
   subst this;subst h;exact b.1|false=>rw[e]at h;exact Clms.get b.2 d a h
theorem QdD(C:Claims){N:NM}{ops:List SOper}{p:Nat×Nat}{i:List (Nat×Nat)}{dead:List Nat}{fs:List Fr}{n:Nat}{T:Tmps}{h:Heap}{Q:QC}(c:ssa C ops=true)(hp:pairsOK (touchesH C n T ops []) (p::i)=true)(hw:wR P N ops [] [] n T h fun e T h n=>Clms T C/\wX P N .normal fs n (rm T dead) h Q):wS P N (.region ops (p::i) dead) fs n T h Q:=by
 have rm0:∀T:Tmps,rm T []=T:=by intro T;induction T with|nil=>rfl|cons p T k=>obtain⟨j,v⟩:=p;simp[rm,k]
 refine Qlc (C:=C) (K:=fun T h n=>Clms T C/\wX P N .normal fs n (rm T dead) h Q) AbsOK.nil _ (fun T h n f d t hc=>f.1.get d t hc) c (fun r T h A E hf f=>⟨?_,f.2⟩) ?_
 ·rw[List.all_eq_true];intro q m;have:=List.all_eq_true.1 hp q m;split at this
  ·rename_i a b s l;obtain⟨w,F⟩:=hf _ _ s;obtain⟨u,I⟩:=hf _ _ l;have B:∀x y,x∈a->y∈b->x≠y:=by grind
   have H:∀xs g:List Nat,(∀x∈xs,∀y∈g,x≠y)->disj xs g=true:=by intro xs g G;unfold disj;grind
   grind[FP.apart]
  cases this
 have o:wpR P n ops T h fun T h n=>Clms (rm T []) C/\wX P N .normal fs n (rm (rm T []) dead) h Q:=hw;simp_all
end Go.AM
namespace Go.AM
variable{P:Program}{N:NM}{n:Nat}{d:Option Nat}{af dead:List Nat}{r:List SOper}{T:Tmps}{h:Heap}{Q:QC}{fs:List Fr}
def wAn(P:Program)(N:NM)(ys:Option (List AV))(len sz bytes:Nat)(d:Option Nat)(ops:List SOper)(dead:List Nat)(fs:List Fr)(n:Nat)(T:Tmps)(h:Heap)(Q:QC):Prop:=∃y,ys=some y/\(len*bytes<=140737488355328/\len<=140737488355328)/\y.all AV.one=true/\wN P N y (.sl n 0 0 len sz) d ops dead fs n T h Q
theorem Qld{sz bytes b g off len:Nat}(a:0<len):wM P N (aAppend .dyn n sz bytes .nilsl (.sl b g off len sz)) d r dead fs n T h Q=wAn P N (srcB (h.get b) g off len sz) len sz bytes d r dead fs n T h Q:=by obtain⟨k,rfl⟩:∃k,len=k+1:=⟨len-1,by omega⟩;rw[Qmj];rfl
theorem Qqm{ys:List AV}{len sz bytes:Nat}(h1:len*bytes<=140737488355328)(c:len<=140737488355328):wAn P N (some ys) len sz bytes d r dead fs n T h Q=if ys.all AV.one=true then wN P N ys (.sl n 0 0 len sz) d r dead fs n T h Q else False:=by
 by_cases ho:ys.all AV.one=true
 ·rw[if_pos ho];apply propext;constructor;·rintro⟨y,b,_,_,a⟩;simp_all
  intro a;exact⟨ys,rfl,⟨h1,c⟩,ho,a⟩
 rw[if_neg ho];apply propext;constructor;·rintro⟨y,b,_,f,a⟩;grind
 simp_all
end Go.AM
namespace Go.AM
theorem Qjz{a:List (Option (List Nat))}:pairsOK a []=true:=rfl
theorem QdE{c:List (Option (List Nat))}{i j:Nat}{a b:List Nat}{d:List (Nat×Nat)}(h1:c.getD i none=some a)(f:c.getD j none=some b)(g:∀x∈a,x∉b)(h:pairsOK c d=true):pairsOK c ((i,j)::d)=true:=by simp_all[pairsOK]
end Go.AM
namespace Go.AM
theorem Rn.nilK{m:Nat}{π:Nat->Option Src}{h:Heap}{sz:Nat}:Rn m π h (.fsl [] 0 sz) .nilsl:=fun _ c w v H M a=>by simp_all[VRel]
end Go.AM
namespace Go.AM
variable{P:Program}
end Go.AM
namespace Go.AM
variable{P:Program}
theorem HSpec.empty{f sz:Nat}{d:List AV}{h h':Heap}{v:AV}(h1:HSpec P f (.nilsl::d) h v h')(g:HSpec P f (.nsl::d) h v h'):HSpec P f (.fsl [] 0 sz::d) h v h':=by
 obtain⟨hc,h1⟩:=h1;obtain⟨_,g⟩:=g;refine⟨hc,fun c w b H k=>?_⟩;simp only[VRels]at k;obtain⟨u,us,e,j,i⟩:=k;simp only[VRel]at j;rcases j with⟨⟨a,rfl⟩,_⟩|⟨l,off,cap,C,_,_,rfl,_⟩;·cases a with|none=>exact h1 c w b H (by rw[e];simp only[VRels];exact⟨_,_,rfl,by simp[VRel],i⟩)|some a=>exact g c w b H (by rw[e];simp only[VRels];exact⟨_,_,rfl,by simp[VRel],i⟩)
 exact g c w b H (by rw[e];simp only[VRels];exact⟨_,_,rfl,by simp[VRel],i⟩)
end Go.AM
namespace Go.AM
theorem Qh6{x:Src}:∀{A B:List (Nat×Src)},srcNew x A=true->srcNew x B=true->srcNew x (A++B)=true|[],B,_,h=>h|(j,t)::A,B,h1,a=>by simp only[srcNew,Bool.and_eq_true]at h1;rw[List.cons_append];simp only[srcNew,Bool.and_eq_true];exact⟨h1.1,Qh6 h1.2 a⟩
theorem Qfb{s:Nat->Src}{f:Nat->List AV}{ks:List Nat}(l:okPs 0 (psL s ks) (rowsL f ks)=true):∀{A:List (Nat×Src)}{L:HL},okPs 0 A L=true->(∀p∈A,p.1<300)->(∀p∈A,∀b g,p.2=.blk b g->∀k∈ks,∀c i,s k=.blk c i->b≠c)->okPs 0 (A++psL s ks) (L++rowsL f ks)=true
 |[],[],_,_,_=>l|[],_::_,h,_,_=>by simp[okPs]at h|_::_,[],h,_,_=>by simp[okPs]at h|(b,t)::A,(c,x)::L,h,o,m=>by
  simp only[okPs,Bool.and_eq_true,Bool.or_eq_true]at h;obtain⟨⟨⟨⟨h1,w⟩,a⟩,u⟩,v⟩:=h;rw[List.cons_append,List.cons_append];simp only[okPs,Bool.and_eq_true,Bool.or_eq_true];refine⟨⟨⟨⟨h1,w⟩,?_⟩,?_⟩,Qfb l v (fun p hp=>o p (by simp[hp])) (fun p hp=>m p (by simp[hp]))⟩
  ·rcases a with a|⟨a,q⟩;·exact .inl a
   refine .inr ⟨a,Qh6 q ?_⟩;cases e:t with|nil=>exact Qe9|blk k g=>exact Qcm fun j r c i y=>m (b,t) (by simp) k g e j r c i y
  rw[List.all_append,u,Bool.true_and,List.all_eq_true];intro p hp;have q:=Qek hp;have B:=o (b,t) (by simp);have d:Nat.beq p.1 b=false:=by
   rw[Bool.eq_false_iff];intro d;have:p.1=b:=by simpa using d
   omega
  simp[d]
theorem QeJ{s:Nat->Src}{ks:List Nat}{k:Nat}(a:k∈ks):∀{A:List (Nat×Src)},(∀p∈A,p.1<300)->ow 0 (A++psL s ks) (300+k)=some (s k):=by
 have key:∀{A:List (Nat×Src)},(∀p∈A,p.1<300)->lkS (A++psL s ks) (300+k)=some (s k):=by intro A;induction A with|nil=>intro _;exact Qho a|cons p A b=>intro h;obtain⟨j,t⟩:=p;have:=h (j,t) (by simp);dsimp only at this;rw[List.cons_append];simp only[lkS];rw[if_neg (by omega)];exact b fun p hp=>h p (by simp[hp])
 grind[ow]
theorem QeK{m:Nat}{π:Nat->Option Src}{h:Heap}{f g:Nat->AV}:∀{ks:List Nat},(∀k∈ks,Rn m π h (f k) (g k))->RnL m π h (ks.map f) (ks.map g)|[],_=>trivial|j::ks,a=>⟨a j (by simp),QeK fun k h=>a k (by simp[h])⟩
theorem RnO.agg{h:Heap}{xs ys:List AV}(d:RnOL h xs ys):RnO h (.agg xs) (.agg ys):=fun _ c w v H a=>by simp only[VRel]at a⊢;obtain⟨b,rfl,a⟩:=a;exact⟨b,rfl,d.rels H a⟩
theorem RnO.nil{h:Heap}{sz:Nat}:RnO h (.fsl [] 0 sz) .nilsl:=fun _ c w v H a=>by simp_all[VRel]
theorem QnR{k:IntKind}{f g:Nat->AV}{l:List Nat}(h:∀x∈l,f x=g x):mapF k f l=mapF k g l:=by simp_all[mapF]
theorem Qo4{f:Nat->AV}{n i:Nat}{v:AV}(h:i<n):((List.range n).map f).set i v=(List.range n).map (updF f i v):=by
 apply List.ext_getElem?;intro j;rw[List.getElem?_set];by_cases e:i=j;·subst e;rw[if_pos rfl,if_pos (by simpa using h)];simp[updF,h]
 grind[updF]
theorem QjA{f:Nat->AV}{n i:Nat}(h:i<n):((List.range n).map f)[i]?=some (f i):=by simp[h]
end Go.AM
namespace Go.AM
variable{P:Program}
theorem HSpec.freeze{f b g len sz:Nat}{args ds:List AV}{h h1:Heap}(S:HSpec P f args h (.sl b g 0 len sz) h1)(M:h1.get b=some (.cells g ds))(hf:flatVs ds=true)(hl:len*sz<=ds.length)(U:Nat.blt b 1099511627775=true):HSpec P f args h (.fsl (ds.take (len*sz)) len sz) (h1.set b (.dead g)):=by
 have p:b<1099511627775:=by simp_all
 obtain⟨hc,hs⟩:=S;refine⟨hc,fun c w m H ha=>(hs c w m H ha).mono ?_⟩;rintro e J⟨cv,q,rfl,E,H',V⟩;have d:Live h1 b g:=⟨_,M,rfl,fun _=>by simp⟩;let t:Ctx (okc P):={q with F:=fun k=>q.F k\/∃base,q.ρ b g=some (.loc k base),O:=fun k=>q.O k/\¬∃base,q.ρ b g=some (.loc k base)};have i:∀k,(h1.set b (.dead g)).get k=if k=b then some (.dead g)else h1.get k:=fun k=>by
  by_cases e:k=b;·subst e;rw[QaA p,if_pos rfl]
  simp_all[QaE]
 have G:∀k y,Live (h1.set b (.dead g)) k y->k≠b/\Live h1 k y:=by
  rintro k y⟨x,a,Y,O⟩;rw[i]at a;split at a;·grind
  rename_i e;exact⟨e,x,a,Y,O⟩
 have E2:Evo c w t J:=⟨E.os,E.tape,E.output,E.size,E.shape,E.keep,E.rho,fun k a=>.inl (E.frz k a),fun k a=>by
  rcases a with a|⟨base,a⟩;·exact E.frzNew k a
  rcases E.own k (H'.owned d a)with h|h;·simp_all
  omega,fun k a=>E.own k a.1,E.base⟩;refine⟨cv,t,rfl,E2,⟨fun k a y=>?_,fun k x a y r=>?_,fun k x a=>?_,fun k y k' y' I base l l1 X p1 p2=>H'.inj k y k' y' I base l (G _ _ l1).2 (G _ _ X).2 p1 p2,fun k j K=>?_,fun k j=>?_,fun k K=>H'.inO k K.1⟩,?_⟩
 ·rw[i]at a;split at a;·cases a
  exact H'.fresh k a y
 ·rw[i]at a;split at a;·rename_i e;subst e;cases a;exact H'.later k _ M y r
  exact H'.later k x a y r
 ·rw[i]at a;split at a;·cases a;trivial
  rename_i e;refine BRel.mono (c:=q) (c':=t) (w:=J) (w':=J) ⟨fun _ _ _ h=>h,fun _ h=>.inl h,fun _ _ _ h=>h,fun _ C _ T h=>⟨C,T,h,rfl⟩⟩ (fun I base O hp=>?_) (H'.blk k x a);have B:Live h1 k x.gen:=⟨x,a,rfl,O⟩;exact⟨⟨H'.owned B hp,fun⟨l,Q⟩=>e (H'.inj _ _ _ _ _ _ _ B d hp Q)⟩,rfl⟩
 ·rcases j with j|j;·exact H'.disj k j K.1
  grind
 ·rcases j with j|⟨base,j⟩;·exact H'.inF k j
  exact H'.inO k (H'.owned d j)
 simp only[VRel]at V;rcases V with⟨hp,rfl,_,rfl⟩|⟨I,base,o,cap,C,e,T,hp,rfl,hlc,hC,s⟩;·simp_all[VRel]
 obtain⟨C',e',fr',K,A,hfr,hbs,u⟩:=H'.here M hp;rw[hC]at A;cases A;have j:t.F I:=.inr ⟨base,hp⟩;by_cases h0:cap=0
 ·have R:len=0:=by omega
  subst R;simp only[VRel];simp_all
 obtain⟨rfl,hbd⟩:=s.resolve_left h0;have L:=VPre.flat (c':=t) (w':=J) hf u;have hp3:=VPre_take2 (len*sz) L;simp only[VRel];grind where VPre_take2{c:Ctx (okc P)}{w:World}:∀(n:Nat){xs:List AV}{F:List Value},VPre c w xs F->VPre c w (xs.take n) F|0,xs,F,h=>by simp[VPre]|n+1,[],F,h=>by simp[VPre]|n+1,x::xs,F,h=>by simp only[VPre]at h;obtain⟨v,N,rfl,h1,Z⟩:=h;simp only[List.take_succ_cons,VPre];exact⟨v,N,rfl,h1,VPre_take2 n Z⟩
end Go.AM
namespace Go.AM
variable{P:Program}
def OnlyD(D:Nat->Prop)(args:List AV):Prop:=∀(ok:Okc)(c a:Ctx ok)(w:World)(d:List Value),(∀b g,D b->a.ρ b g=c.ρ b g)->(∀k,c.F k->a.F k)->VRels c w args d->VRels a w args d
theorem OnlyD.nil{D:Nat->Prop}:OnlyD D []:=fun _ c b w a _ _ h=>by grind[VRels]
theorem OnlyD.cons{D:Nat->Prop}{x:AV}{xs:List AV}(i:OnlyD D [x])(h:OnlyD D xs):OnlyD D (x::xs):=fun ok c d w l h1 f b=>by simp only[VRels]at b⊢;obtain⟨v,a,rfl,m,j⟩:=b;have:=i ok c d w [v] h1 f (by simp only[VRels];simp_all);simp only[VRels]at this;obtain⟨v2,k,e,g,_⟩:=this;cases e;exact⟨v,a,rfl,g,h _ c d w a h1 f j⟩
theorem OnlyD.same{D:Nat->Prop}{x:AV}(d:noRef x=true):OnlyD D [x]:=fun _ c j w i h1 h b=>by simp only[VRels]at b⊢;obtain⟨v,a,rfl,f,g⟩:=b;exact⟨v,a,rfl,VRel.noRef h _ _ d f,g⟩
theorem OnlyD.map{D:Nat->Prop}{b g:Nat}(l:D b):OnlyD D [.map b g]:=fun _ c i w h h1 k d=>by simp only[VRels]at d⊢;obtain⟨v,a,rfl,j,f⟩:=d;refine⟨v,a,rfl,?_,f⟩;simp_all[VRel]
def NoRefB:Blk->Prop|.cells _ cs=>noRefs cs=true|.map _ es=>∀e∈es,noRef e.1=true/\noRef e.2=true|.dead _=>True|_=>False
theorem VPre.noRef2{ok:Okc}{c c':Ctx ok}{w:World}(a:∀k,c.F k->c'.F k){xs:List AV}{vs:List Value}(b:noRefs xs=true)(h:VPre c w xs vs):VPre c' w xs vs:=VPre.noRef a _ _ b h
theorem MRel.noRef2{ok:Okc}{c c':Ctx ok}{w:World}(b:∀k,c.F k->c'.F k):∀{xs:List (AV×AV)}{es:List MapEntry}{clock:Nat},(∀e∈xs,noRef e.1=true/\noRef e.2=true)->MRel c w xs es clock->MRel c' w xs es clock|[],_,_,_,h=>h|(k,x)::r,es,clock,d,h=>by obtain⟨e,a,h1,l,j,i,f,g⟩:=h;obtain⟨q1,q2⟩:=d (k,x) (by simp);exact⟨e,a,h1,VRel.noRef b _ _ q1 l,VRel.noRef b _ _ q2 j,i,f,MRel.noRef2 b (fun e he=>d e (by simp[he])) g⟩
theorem NoRefB.rel{ok:Okc}{c c':Ctx ok}{w:World}{b:Nat}{x:Blk}(m:NoRefB x)(q:∀k,c.F k->c'.F k)(o:∀g,c'.ρ b g=c.ρ b g)(p:∀k g base,c.ρ b g=some (.loc k base)->(∀j,x≠.dead j)->x.gen=g->c.O k->c'.O k)(h:BRel c w b x):BRel c' w b x:=by cases x with|dead g=>trivial|map g es=>obtain⟨d,l,clock,h1,a,i,f⟩:=h;exact⟨d,l,clock,(o _).trans h1,p d g 0 h1 (fun _=>by simp) rfl a,i,MRel.noRef2 q m f.1,f.2⟩|loop=>exact m.elim|cells g cs=>
 rcases h with⟨h1,a⟩|⟨d,base,C,e,t,h1,a,i,f,r,s⟩;·exact .inl ⟨(o _).trans h1,a⟩
 exact .inr ⟨d,base,C,e,t,(o _).trans h1,p d g base h1 (fun _=>by simp) rfl a,i,f,r,VPre.noRef2 q m s⟩
theorem HSpec.frame{f:Nat}{args:List AV}{v:AV}{h h1 q h':Heap}(D:Nat->Prop)[DecidablePred D](hs:HSpec P f args h1 v q)(ha:OnlyD D args)(hv:OnlyD D [v])(e1:∀k,h1.get k=if D k then h.get k else none)(e2:∀k,¬D k->q.get k=none)(e3:∀k,h'.get k=if D k then q.get k else h.get k)(n1:∀k x,h1.get k=some x->NoRefB x)(n2:∀k x,q.get k=some x->NoRefB x):HSpec P f args h v h':=by
 obtain⟨hc,hs⟩:=hs;refine⟨hc,fun c w M H N=>?_⟩;let J:Ctx (okc P):={ρ:=fun k y=>if D k then c.ρ k y else none,F:=c.F,O:=fun k=>∃b g base,D b/\Live h b g/\c.ρ b g=some (.loc k base),base:=c.base};have o:∀b y,D b->J.ρ b y=c.ρ b y:=fun b y t=>if_pos t;have R:∀k,J.O k->c.O k:=fun k⟨b,g,base,_,S,a⟩=>H.owned S a;have F:∀{k x},h1.get k=some x->D k/\h.get k=some x:=fun{k x}a=>by simp_all
 have hl1:∀{k y},Live h1 k y->D k/\Live h k y:=fun{k y}⟨x,a,hx,d⟩=>⟨(F a).1,x,(F a).2,hx,d⟩;have H1:HRel J h1 w:=by
  refine⟨fun k a y=>?_,fun k x a y u=>?_,fun k x a=>?_,fun k y U y' l base j s r A G=>?_,fun k hF i=>H.disj k hF (R k i),H.inF,fun k i=>H.inO k (R k i)⟩
  ·rw[e1]at a;split at a;·rename_i d;rw[o _ _ d];exact H.fresh k a y
   grind
  ·obtain⟨d,a⟩:=F a;rw[o _ _ d];exact H.later k _ a y u
  ·obtain⟨d,X⟩:=F a;exact NoRefB.rel (c:=c) (c':=J) (n1 k x a) (fun _ h=>h) (fun g=>o k g d) (fun l g base hp B I _=>⟨k,g,base,d,⟨x,X,I,B⟩,hp⟩) (H.blk k x X)
  obtain⟨Z,s⟩:=hl1 s;obtain⟨Q,r⟩:=hl1 r;rw[o _ _ Z]at A;rw[o _ _ Q]at G;exact H.inj _ _ _ _ _ _ _ s r A G
 refine(hs J w M H1 (ha _ c J w _ (fun b g t=>o b g t) (fun _ h=>h) N)).mono ?_;rintro e w'⟨cv,K,rfl,E,H',V⟩;let T:Ctx (okc P):={ρ:=fun k y=>if D k then K.ρ k y else c.ρ k y,F:=K.F,O:=fun k=>K.O k\/(c.O k/\¬J.O k),base:=c.base};have m:∀b y,D b->T.ρ b y=K.ρ b y:=fun b y t=>if_pos t;have C:∀b y,¬D b->T.ρ b y=c.ρ b y:=fun b y t=>if_neg t;have E2:Evo c w T w':=by
  refine⟨E.os,E.tape,E.output,E.size,E.shape,fun k a i=>E.keep k a fun h=>i (R k h),fun b y p hp=>?_,fun k a=>E.frz k a,fun k a=>?_,fun k a=>?_,rfl⟩
  ·by_cases d:D b;·rw[m _ _ d];exact E.rho b y p ((o _ _ d).trans hp)
   simp_all
  ·rcases E.frzNew k a with h|h|h;·exact .inl h
   ·simp_all
   omega
  rcases a with a|a
  ·rcases E.own k a with h|h;·simp_all
   exact .inr h
  simp_all
 have L:∀{k x},h'.get k=some x->(D k/\q.get k=some x)\/(¬D k/\h.get k=some x):=fun{k x}a=>by grind
 have O:∀{k y},Live h' k y->(D k/\Live q k y)\/(¬D k/\Live h k y):=fun{k y}⟨x,a,hx,d⟩=>by
  rcases L a with⟨q1,q2⟩|⟨q1,q2⟩;·exact .inl ⟨q1,x,q2,hx,d⟩
  exact .inr ⟨q1,x,q2,hx,d⟩
 have Y:∀{k y l base},¬D k->Live h k y->c.ρ k y=some (.loc l base)->¬J.O l:=by rintro k y l base d S hp⟨b,g,j,t,hlb,hpb⟩;have:=H.inj _ _ _ _ _ _ _ S hlb hp hpb;simp_all
 have hcross:∀{k y U y' l base j},D k->Live q k y->K.ρ k y=some (.loc l base)->¬D U->Live h U y'->c.ρ U y'=some (.loc l j)->False:=by
  intro k y U y' l base j d s A hd' r G;rcases E.own l (H'.owned s A)with h|h;·grind
  have:=H.inO l (H.owned r G);omega
 refine⟨cv,T,rfl,E2,⟨fun k a y=>?_,fun k x a y u=>?_,fun k x a=>?_,fun k y U y' l base j s r A G=>?_,fun k hF i=>?_,H'.inF,fun k i=>?_⟩,?_⟩
 ·rw[e3]at a;split at a;·rename_i d;rw[m _ _ d];exact H'.fresh k a y
  rename_i d;rw[C _ _ d];exact H.fresh k a y
 ·rcases L a with⟨d,a⟩|⟨d,a⟩;·rw[m _ _ d];exact H'.later k x a y u
  rw[C _ _ d];exact H.later k x a y u
 ·rcases L a with⟨d,a⟩|⟨d,a⟩;·exact NoRefB.rel (c:=K) (c':=T) (n2 k x a) (fun _ h=>h) (fun g=>m k g d) (fun l g base hp B I i=>.inl i) (H'.blk k x a)
  refine BRel.mono (E2.ext H.disj) (fun l base B hp=>?_) (H.blk k x a);have S:Live h k x.gen:=⟨x,a,rfl,B⟩;have i:=H.owned S hp;have hn:=Y d S hp;exact⟨.inr ⟨i,hn⟩,E.keep l (H.inO l i) hn⟩
 ·rcases O s with⟨Z,s⟩|⟨Z,s⟩
  ·rw[m _ _ Z]at A;rcases O r with⟨Q,r⟩|⟨Q,r⟩;·rw[m _ _ Q]at G;exact H'.inj _ _ _ _ _ _ _ s r A G
   grind
  rw[C _ _ Z]at A;rcases O r with⟨Q,r⟩|⟨Q,r⟩;·grind
  rw[C _ _ Q]at G;exact H.inj _ _ _ _ _ _ _ s r A G
 ·rcases i with i|⟨i,hn⟩;·exact H'.disj k hF i
  rcases E.frzNew k hF with h|h|h;·exact H.disj k h i
  ·exact hn h
  have:=H.inO k i;omega
 ·rcases i with i|⟨i,_⟩;·exact H'.inO k i
  exact Nat.lt_of_lt_of_le (H.inO k i) E.size
 have h5:VRels K w' [v] [cv]:=by simp only[VRels];simp_all
 have h6:=hv _ K T w' [cv] (fun b g t=>m b g t) (fun _ h=>h) h5;simp_all[VRels]
theorem QeL{b:Nat}{x:Blk}(a:b<1099511627775)(k:Nat):(hp [(b,x)]).get k=if k=b then some x else none:=by
 simp only[hp];by_cases e:k=b;·subst e;rw[QaA a,if_pos rfl]
 simp_all[QaE,get_e]
theorem HSpec.frameM{f b g i:Nat}{args:List AV}{xs ys:List (AV×AV)}{v:AV}{h:Heap}(m:HSpec P f args (hp [(b,.map g xs)]) v (hp [(b,.map i ys)]))(p:OnlyD (fun k=>k=b) args)(j:OnlyD (fun k=>k=b) [v])(l:∀e∈xs,noRef e.1=true/\noRef e.2=true)(o:∀e∈ys,noRef e.1=true/\noRef e.2=true)(q:h.get b=some (.map g xs))(d:Nat.blt b 1099511627775=true):HSpec P f args h v (h.set b (.map i ys)):=by
 have a:b<1099511627775:=by simp_all
 refine HSpec.frame (fun k=>k=b) m p j (fun k=>?_) (fun k c=>?_) (fun k=>?_) (fun k x c=>?_) (fun k x c=>?_);·rw[QeL a];simp_all
 ·simp_all[QeL]
 ·rw[QeL a];by_cases e:k=b;·subst e;rw[if_pos rfl,if_pos rfl,QaA a]
  simp_all[QaE]
 ·rw[QeL a]at c;split at c;·cases c;exact l
  cases c
 rw[QeL a]at c;split at c;·cases c;exact o
 cases c
end Go.AM
namespace Go.AM
section
variable{m:Nat}{π:Nat->Option Src}{h:Heap}
theorem Rn.frzM{b g:Nat}{es:List (AV×AV)}{ks vs:List AV}(j:h.get b=some (.map g es))(hm:m<=b)(l:∀d x,m<=d->π d≠some (.blk b x))(A:RnL m π h ks (es.map (·.1)))(q:RnL m π h vs (es.map (·.2))):Rn m π h (.fmap ks vs) (.map b g):=fun _ c w v H M i=>by simp only[VRel]at i;obtain⟨s,hp,rfl⟩:=i;obtain⟨ms,clock,o,p,f,r⟩:=H.atMap j hp;have a:=M.out H ⟨_,j,rfl,fun k=>by simp⟩ hp hm l;obtain⟨y,u,t⟩:=Qip f;have B:=QbO f;simp only[VRel];exact⟨s,ms,clock,rfl,.inr ⟨o,a⟩,p,by simp_all,y,A.rels H M u,q.rels H M t⟩
end
end Go.AM
namespace Go.AM
variable{P:Program}
def mapS(f:List UInt8->AV)(l:List (List UInt8)):List (AV×AV):=l.map fun x=>(.str x,f x)
def updS(f:List UInt8->AV)(x:List UInt8)(v:AV):List UInt8->AV:=fun y=>if y=x then v else f y
theorem Qel{x y:List UInt8}:keyEq false [.s] (.str x) (.str y)=some (decide (x=y)):=by simp_all[keyEq,eqCells,eqCell]
theorem QjB{f:List UInt8->AV}{x:List UInt8}:∀(l:List (List UInt8))(i:Nat),x∈l->aFind false [.s] (.str x) (mapS f l) i=some (some (i+l.findIdx (·==x),f x))
 |y::l,i,b=>by
  show(match keyEq false [.s] (.str x) (.str y)with|some true=>_|some false=>_|none=>_)=_;rw[Qel,List.findIdx_cons];by_cases e:x=y;·subst e;simp
  have a:(y==x)=false:=by grind
  rw[decide_eq_false e,a];show aFind false [.s] (.str x) (mapS f l) (i+1)=_;rw[QjB l (i+1) ((List.mem_cons.1 b).resolve_left e)];grind
theorem Qfc{f:List UInt8->AV}{x:List UInt8}:∀(l:List (List UInt8))(i:Nat),x∉l->aFind false [.s] (.str x) (mapS f l) i=some none|[],_,_=>rfl|y::l,i,a=>by simp only[List.mem_cons,not_or]at a;show(match keyEq false [.s] (.str x) (.str y)with|some true=>_|some false=>_|none=>_)=_;rw[Qel,decide_eq_false a.1];exact Qfc l (i+1) a.2
theorem Qqn{f:List UInt8->AV}{x:List UInt8}{v:AV}{l:List (List UInt8)}(a:x∉l):mapS f l++[(.str x,v)]=mapS (updS f x v) (l++[x]):=by grind[mapS,updS,List.map_congr_left]
theorem QfY{x:List UInt8}:keyOK false [.s] (.str x)=true:=by unfold keyOK;rw[Qel]
section
variable{N:NM}{d:Option Nat}{r:List SOper}{dead:List Nat}{fs:List Fr}{n:Nat}{T:Tmps}{h:Heap}{Q:QC}
theorem QgZ{f:List UInt8->AV}{x:List UInt8}{l:List (List UInt8)}{b g:Nat}{z:AV}{ok:Bool}(c:h.get b=some (.map g (mapS f l)))(i:x∈l)(a:wR P N r dead fs (n+1) (putD T d (if ok then .tup [f x,.bool true]else f x)) h Q):wM P N (aLookup false [.s] z ok (.map b g) (.str x)) d r dead fs n T h Q:=by refine⟨_,h,?_,a⟩;simp_all[aLookup,QfY,HM.entries,HM.run,QjB]
theorem QfZ{f:List UInt8->AV}{x:List UInt8}{l:List (List UInt8)}{b g:Nat}{z:AV}{ok:Bool}(c:h.get b=some (.map g (mapS f l)))(i:x∉l)(a:wR P N r dead fs (n+1) (putD T d (if ok then .tup [z,.bool false]else z)) h Q):wM P N (aLookup false [.s] z ok (.map b g) (.str x)) d r dead fs n T h Q:=by refine⟨_,h,?_,a⟩;simp_all[aLookup,QfY,HM.entries,HM.run,Qfc]
theorem Qd8{f:List UInt8->AV}{x:List UInt8}{l:List (List UInt8)}{b g:Nat}{v:AV}(i:h.get b=some (.map g (mapS f l)))(c:x∉l)(j:b<1099511627775)(k:wR P N r dead fs (n+1) (putD T d .any) (h.set b (.map g (mapS (updS f x v) (l++[x])))) Q):wM P N (aMapUpd false [.s] (.map b g) (.str x) v) d r dead fs n T h Q:=by
 refine⟨_,_,?_,k⟩;have m:Nat.beq g g=true:=by simp
 have a:Nat.blt b lim=true:=by simp[Nat.blt];exact j
 unfold aMapUpd;rw[if_pos QfY];simp only[HM.entries,HM.run,i,m,cond_true,Qfc l 0 c,a,Qqn c]
end
theorem RnM.mapS{m:Nat}{π:Nat->Option Src}{h:Heap}{f g:List UInt8->AV}:∀{l:List (List UInt8)},(∀x∈l,Rn m π h (f x) (g x))->RnM m π h (mapS f l) (mapS g l)|[],_=>trivial|x::l,hf=>⟨⟨Rn.same rfl,hf x (by simp)⟩,RnM.mapS (l:=l) fun y a=>hf y (by simp[a])⟩
end Go.AM
set_option linter.unusedSectionVars false
namespace Go.AM
variable{P:Program}{α:Type}[DecidableEq α]
def mapG(c:α->AV)(f:α->AV)(l:List α):List (AV×AV):=l.map fun x=>(c x,f x)
def updG(f:α->AV)(x:α)(v:AV):α->AV:=fun y=>if y=x then v else f y
def KeyG(row:Bool)(ks:List LK)(c:α->AV)(x:α)(l:List α):Prop:=keyOK row ks (c x)=true/\∀y∈l,keyEq row ks (c x) (c y)=some (decide (x=y))
theorem Qf0{row:Bool}{ks:List LK}{c f:α->AV}{x:α}:∀(l:List α)(i:Nat),KeyG row ks c x l->x∈l->aFind row ks (c x) (mapG c f l) i=some (some (i+l.findIdx (·==x),f x))
 |y::l,i,a,g=>by
  show(match keyEq row ks (c x) (c y)with|some true=>_|some false=>_|none=>_)=_;rw[a.2 y (by simp),List.findIdx_cons];by_cases e:x=y;·subst e;simp
  have b:(y==x)=false:=by grind
  rw[decide_eq_false e,b];show aFind row ks (c x) (mapG c f l) (i+1)=_;rw[Qf0 l (i+1) ⟨a.1,fun y d=>a.2 y (by simp[d])⟩ ((List.mem_cons.1 g).resolve_left e)];grind
theorem QdF{row:Bool}{ks:List LK}{c f:α->AV}{x:α}:∀(l:List α)(i:Nat),KeyG row ks c x l->x∉l->aFind row ks (c x) (mapG c f l) i=some none|[],_,_,_=>rfl|y::l,i,b,a=>by simp only[List.mem_cons,not_or]at a;show(match keyEq row ks (c x) (c y)with|some true=>_|some false=>_|none=>_)=_;rw[b.2 y (by simp),decide_eq_false a.1];exact QdF l (i+1) ⟨b.1,fun y d=>b.2 y (by simp[d])⟩ a.2
theorem Qqo{c f:α->AV}{x:α}{v:AV}{l:List α}(a:x∉l):mapG c f l++[(c x,v)]=mapG c (updG f x v) (l++[x]):=by grind[mapG,updG,List.map_congr_left]
theorem Qh7{c f g:α->AV}{l:List α}(h:∀x∈l,f x=g x):mapG c f l=mapG c g l:=List.map_congr_left fun x a=>by rw[h x a]
abbrev fmapG(c f:α->AV)(l:List α):AV:=.fmap (l.map c) (l.map f)
theorem Qle{c f:α->AV}(l:List α):(l.map c).zip (l.map f)=mapG c f l:=by induction l with|nil=>rfl|cons x l a=>simp only[List.map_cons,List.zip_cons_cons,a];rfl
section
variable{N:NM}{d:Option Nat}{r:List SOper}{dead:List Nat}{fs:List Fr}{n:Nat}{T:Tmps}{h:Heap}{Q:QC}{row:Bool}{ks:List LK}{c f:α->AV}{x:α}{l:List α}{b g:Nat}{z v:AV}{ok:Bool}
theorem Qg0(j:h.get b=some (.map g (mapG c f l)))(i:KeyG row ks c x l)(k:x∈l)(a:wR P N r dead fs (n+1) (putD T d (if ok then .tup [f x,.bool true]else f x)) h Q):wM P N (aLookup row ks z ok (.map b g) (c x)) d r dead fs n T h Q:=by
 refine⟨_,h,?_,a⟩;have m:Nat.beq g g=true:=by simp
 unfold aLookup;rw[if_pos i.1];simp_all[HM.entries,HM.run,Qf0]
theorem Qc5(j:h.get b=some (.map g (mapG c f l)))(i:KeyG row ks c x l)(k:x∉l)(a:wR P N r dead fs (n+1) (putD T d (if ok then .tup [z,.bool false]else z)) h Q):wM P N (aLookup row ks z ok (.map b g) (c x)) d r dead fs n T h Q:=by
 refine⟨_,h,?_,a⟩;have m:Nat.beq g g=true:=by simp
 unfold aLookup;rw[if_pos i.1];simp_all[HM.entries,HM.run,QdF]
theorem Qf1(a:KeyG row ks c x l)(b:x∈l)(g:wR P N r dead fs (n+1) (putD T d (if ok then .tup [f x,.bool true]else f x)) h Q):wM P N (aLookup row ks z ok (fmapG c f l) (c x)) d r dead fs n T h Q:=by refine⟨_,h,?_,g⟩;unfold aLookup;rw[if_pos a.1];simp only[fmapG];rw[Qle,Qf0 l 0 a b];rfl
theorem Qka(a:KeyG row ks c x l)(b:x∉l)(g:wR P N r dead fs (n+1) (putD T d (if ok then .tup [z,.bool false]else z)) h Q):wM P N (aLookup row ks z ok (fmapG c f l) (c x)) d r dead fs n T h Q:=by refine⟨_,h,?_,g⟩;unfold aLookup;rw[if_pos a.1];simp only[fmapG];rw[Qle,QdF l 0 a b];rfl
theorem Qcs(k:h.get b=some (.map g (mapG c f l)))(i:KeyG row ks c x l)(j:x∉l)(m:b<1099511627775)(o:wR P N r dead fs (n+1) (putD T d .any) (h.set b (.map g (mapG c (updG f x v) (l++[x])))) Q):wM P N (aMapUpd row ks (.map b g) (c x) v) d r dead fs n T h Q:=by
 refine⟨_,_,?_,o⟩;have p:Nat.beq g g=true:=by simp
 have a:Nat.blt b lim=true:=by simp[Nat.blt];exact m
 unfold aMapUpd;rw[if_pos i.1];simp only[HM.entries,HM.run,k,p,cond_true,QdF l 0 i j,a,Qqo j]
end
theorem RnM.mapG{m:Nat}{π:Nat->Option Src}{h:Heap}{c f:α->AV}:∀{l:List α},(∀x∈l,noRef (c x)=true/\noRef (f x)=true)->RnM m π h (mapG c f l) (mapG c f l)|[],_=>trivial|x::l,hf=>⟨⟨Rn.same (hf x (by simp)).1,Rn.same (hf x (by simp)).2⟩,RnM.mapG (l:=l) fun y a=>hf y (by simp[a])⟩
abbrev kP(x:Nat×Nat):AV:=.agg [.int .i64 (x.1:Int),.int .i64 (x.2:Int)]
theorem Qlf{x:Nat×Nat}{l:List (Nat×Nat)}:KeyG true [.i,.i] kP x l:=by
 have key:∀y:Nat×Nat,keyEq true [.i,.i] (kP x) (kP y)=some (decide (x=y)):=by intro y;obtain⟨a,b⟩:=x;obtain⟨c,d⟩:=y;simp only[keyEq,eqCells,eqCell,Prod.mk.injEq];by_cases f:a=c<;>by_cases g:b=d<;>simp[f,g]<;>omega
 refine⟨?_,fun y _=>key y⟩;simp_all[keyOK]
end Go.AM
namespace Go.AM
theorem Rn.fzM{α:Type}{m:Nat}{h:Heap}{o:List (Nat×Src)}{b g:Nat}{c f:α->AV}{l:List α}(d:h.get b=some (.map g (mapG c f l)))(p:srcNew (.blk b g) o=true)(hm:Nat.ble m b=true)(a:∀x∈l,noRef (c x)=true/\noRef (f x)=true):Rn m (ow m o) h (fmapG c f l) (.map b g):=by
 refine Rn.frzM d (by simpa using hm) (fun q r k e=>?_) ?_ ?_;·rw[ow_ge k]at e;exact QiA p q _ e rfl
 ·have e:(mapG c f l).map (·.1)=l.map c:=by simp[mapG]
  rw[e];clear d e;induction l with|nil=>trivial|cons x l j=>exact⟨Rn.same (a x (by simp)).1,j fun y i=>a y (by simp[i])⟩
 have e:(mapG c f l).map (·.2)=l.map f:=by simp[mapG]
 rw[e];clear d e;induction l with|nil=>trivial|cons x l j=>exact⟨Rn.same (a x (by simp)).2,j fun y i=>a y (by simp[i])⟩
end Go.AM
namespace Go.AM.SO
open Go.Proofs
set_option maxHeartbeats 4000000
noncomputable section
def cf:YA.Cf:={most:=.pure,always:=[60].map fun k=>(k,.heap),value:=.pure}
def s29:SFn:=by
 refine(?f:YA.Yt Tryz.prog cf 29 [[0,2],[15,16,17],[18],[1,3,19,20],[2,3,19,21,22,23],[25,26],[1,4,24],[4,24,28,29,30,31,32,33,34,35,36,37],[1,27],[2,27,38],[],[39,40],[],[43,44],[8,45,46,47,48],[49],[41,42,50],[],[54,55,56],[57,58,59,60,61,62,63],[64],[1,5,6,7,51,52,53,10,11,65,66],[2,10,11,65,67,68,69,70,71],[72],[6,51,52,53,73],[],[77,78,79],[13,80,81,82,83,84,85,86],[87],[1,5,7,74,75,76,14,88,89],[2,14,88,90],[1,5,7,74,75,76,91,92,93]]) ?s ?h;case h=>exact YA.rr
 exact fun s _=>s
def s90:SFn:=by
 refine(?f:YA.Yt Tryz.prog cf 90 [[4],[0,1,5,6,7,8]]) ?s ?h;case h=>exact YA.rr
 exact fun s _=>s
def s89:SFn:=by
 refine(?f:YA.Yt Tryz.prog cf 89 [[0,2],[1,3,4,5,6,7,8,9,10,11]]) ?s ?h;case h=>exact YA.rr
 exact fun s _=>s
def s46:SFn:=by
 refine(?f:YA.Yt Tryz.prog cf 46 [[2],[6,7],[0,8],[2,8,9],[0],[],[13,14,15],[17,18,19,20],[3,10,11,12,45,42,44,43,41,40,33,32,31,5,16],[16,22,23,24,25],[3,10,11,12,45,42,44,43,41,40,33,32,31,5,21],[21,27,28,29,30,34],[3,10,11,12,45,42,44,43,41,40,33,32,31,5,26],[26,36,37,38,39,46],[3,10,11,12,45,42,44,43,41,40,33,32,31,5,35],[2,5,35,47,48,49],[50],[3,10,11,12,45,42,44,43,41,40,33,32,31]]) ?s ?h;case h=>exact YA.rr
 exact fun s _=>s
def s61:SFn:=by
 refine(?f:YA.Yt Tryz.prog cf 61 [[4],[0,1,5,6,7]]) ?s ?h;case h=>exact YA.rr
 exact fun s _=>s
def s63:SFn:=by
 refine(?f:YA.Yt Tryz.prog cf 63 [[0],[10],[11],[],[15,16,17],[5,18,19,20,21,22,23,24,25],[26],[12,13,14,27],[],[31,32,33],[7,34,35,36,37,38,39,40,41,42,43,44],[45],[1,28,29,30,46],[],[50,51,52],[9,53,54,55,56,57,58,59,60,61,62,63,64,65],[66],[3,47,48,49,67]]) ?s ?h;case h=>exact YA.rr
 exact fun s _=>s
def s97:SFn:=by
 refine(?f:YA.Yt Tryz.prog cf 97 [[0,1,4],[7,8,9],[2,3,10],[4,10,11],[],[15,16,17,18],[20,21,22,23,30],[2,3,12,13,14,59,52,58,57,54,56,55,53,51,44,36,43,42,41,38,40,39,37,35,29,25,28,27,26,24,6,5,19],[5,19,32,33,34,45],[2,3,12,13,14,59,52,58,57,54,56,55,53,51,44,36,43,42,41,38,40,39,37,35,29,25,28,27,26,24,6,31],[6,31,47,48,49,50,60],[2,3,12,13,14,59,52,58,57,54,56,55,53,51,44,36,43,42,41,38,40,39,37,35,29,25,28,27,26,24,46],[4,46,61],[2,3,12,13,14,59,52,58,57,54,56,55,53,51,44,36,43,42,41,38,40,39,37,35,29,25,28,27,26,24]]) ?s ?h;case h=>exact YA.rr
 exact fun s _=>s
def s99:SFn:=by
 refine(?f:YA.Yt Tryz.prog cf 99 [[0,1,4],[7,8,9],[2,3,10],[4,10,11],[],[15,16,17,18],[20,21,22,23,30],[2,3,12,13,14,53,52,51,44,36,43,42,41,38,40,39,37,35,29,25,28,27,26,24,6,5,19],[5,19,32,33,34,45],[2,3,12,13,14,53,52,51,44,36,43,42,41,38,40,39,37,35,29,25,28,27,26,24,6,31],[6,31,47,48,49,50,54],[2,3,12,13,14,53,52,51,44,36,43,42,41,38,40,39,37,35,29,25,28,27,26,24,46],[4,46,55],[2,3,12,13,14,53,52,51,44,36,43,42,41,38,40,39,37,35,29,25,28,27,26,24,56,57],[58],[58]]) ?s ?h;case h=>exact YA.rr
 exact fun s _=>s
def s138:SFn:=by
 refine(?f:YA.Yt Tryz.prog cf 138 [[4],[6],[],[9,10],[11,12,13,14,15],[0,1,7,8,5,16,17],[4,5,16,18],[0,1,7,8]]) ?s ?h;case h=>exact YA.rr
 exact fun s _=>s
def s100:SFn:=by
 refine(?f:YA.Yt Tryz.prog cf 100 [[2],[3],[0,4],[0,4,5,6,7]]) ?s ?h;case h=>exact YA.rr
 exact fun s _=>s
def s101:SFn:=by
 refine(?f:YA.Yt Tryz.prog cf 101 [[2],[3],[0,4],[0,4,5,6,7]]) ?s ?h;case h=>exact YA.rr
 exact fun s _=>s
def s91:SFn:=by
 refine(?f:YA.Yt Tryz.prog cf 91 [[3],[0,1,4,5,6]]) ?s ?h;case h=>exact YA.rr
 exact fun s _=>s
def s92:SFn:=by
 refine(?f:YA.Yt Tryz.prog cf 92 [[4],[0,1,5,6,7,8,9]]) ?s ?h;case h=>exact YA.rr
 exact fun s _=>s
def s93:SFn:=by
 refine(?f:YA.Yt Tryz.prog cf 93 [[6],[],[11,12,13,14],[18,19,20,21,22,35],[36,37,38,39,52],[],[],[53,54,55,56,57,58],[53],[59,60,61,62,63,64],[8,9,59,65,66,67],[10,68,69,70,71,72],[0,1,2,7,51,43,50,46,49,48,47,45,44,42,41,40,34,26,33,29,32,31,30,28,27,25,24,23,17,16,15,73]]) ?s ?h;case h=>exact YA.rr
 exact fun s _=>s
def s94:SFn:=by
 refine(?f:YA.Yt Tryz.prog cf 94 [[4],[0,1,5,6,7,8]]) ?s ?h;case h=>exact YA.rr
 exact fun s _=>s
def s140:SFn:=by
 refine(?f:YA.Yt Tryz.prog cf 140 [[2],[0,3,4,5,6,7,8]]) ?s ?h;case h=>exact YA.rr
 exact fun s _=>s
def s139:SFn:=by
 refine(?f:YA.Yt Tryz.prog cf 139 [[4],[0,1,5,6,7]]) ?s ?h;case h=>exact YA.rr
 exact fun s _=>s
def s168:SFn:=by
 refine(?f:YA.Yt Tryz.prog cf 168 [[4],[0,1,5,6,7,8,9]]) ?s ?h;case h=>exact YA.rr
 exact fun s _=>s
theorem ok29:okFn Tryz.prog 29 s29=true:=by kernel_rfl
theorem ok90:okFn Tryz.prog 90 s90=true:=by kernel_rfl
theorem ok89:okFn Tryz.prog 89 s89=true:=by kernel_rfl
theorem ok46:okFn Tryz.prog 46 s46=true:=by kernel_rfl
theorem ok61:okFn Tryz.prog 61 s61=true:=by kernel_rfl
theorem ok63:okFn Tryz.prog 63 s63=true:=by kernel_rfl
theorem ok97:okFn Tryz.prog 97 s97=true:=by kernel_rfl
theorem ok99:okFn Tryz.prog 99 s99=true:=by kernel_rfl
theorem ok138:okFn Tryz.prog 138 s138=true:=by kernel_rfl
theorem ok100:okFn Tryz.prog 100 s100=true:=by kernel_rfl
theorem ok101:okFn Tryz.prog 101 s101=true:=by kernel_rfl
theorem ok91:okFn Tryz.prog 91 s91=true:=by kernel_rfl
theorem ok92:okFn Tryz.prog 92 s92=true:=by kernel_rfl
theorem ok93:okFn Tryz.prog 93 s93=true:=by kernel_rfl
theorem ok94:okFn Tryz.prog 94 s94=true:=by kernel_rfl
theorem ok140:okFn Tryz.prog 140 s140=true:=by kernel_rfl
theorem ok139:okFn Tryz.prog 139 s139=true:=by kernel_rfl
theorem ok168:okFn Tryz.prog 168 s168=true:=by kernel_rfl
end
end Go.AM.SO
namespace Go.AM.SD
abbrev Ed:=Nat×Nat×Nat
def Rch(es:List Ed)(mk:List Nat)(left:Nat->Bool):Nat->Nat->Prop|0,x=>left x=true/\x∈mk|d+1,x=>Rch es mk left d x\/(left x=true/\∃e∈es,e.1=x/\Rch es mk left d e.2.2)
structure Dst(es:List Ed)(mk:List Nat)(left:Nat->Bool)(o:Nat->Int):Prop where
 neg:∀x,-1<=o x
 zero:∀x,left x=true->x∈mk->o x=0
 zero':∀x,o x=0->left x=true/\x∈mk
 succ:∀x(d:Nat),o x=(d:Int)+1->left x=true/\∃e∈es,e.1=x/\o e.2.2=(d:Int)edge:∀e∈es,left e.1=true->∀d:Nat,o e.2.2=(d:Int)->0<=o e.1/\o e.1<=(d:Int)+1
theorem Dst.rch{es:List Ed}{mk:List Nat}{left:Nat->Bool}{o:Nat->Int}(h:Dst es mk left o):∀(d x:Nat),Rch es mk left d x↔0<=o x/\o x<=(d:Int):=by
 intro d;induction d with|zero=>
  intro x;constructor;·intro a;have:=h.zero x a.1 a.2;omega
  intro a;exact h.zero' x (by omega)|succ d c=>
  intro x;constructor
  ·rintro(a|⟨b,e,he,rfl,f⟩);·grind
   have h1:=(c _).1 f;obtain⟨k,g⟩:=Int.eq_ofNat_of_zero_le h1.1;have:=h.edge e he b k g;omega
  intro a;by_cases i:o x<=(d:Int);·exact .inl ((c x).2 ⟨a.1,i⟩)
  obtain⟨b,e,he,rfl,f⟩:=h.succ x d (by omega);exact .inr ⟨b,e,he,rfl,(c _).2 (by omega)⟩
def InN(n:Nat)(es:List Ed)(mk:List Nat):Prop:=(∀e∈es,e.1<n/\e.2.2<n)/\∀x∈mk,x<n
theorem Qfd{l:List Int}{i j:Nat}{a:Int}(hi:i<l.length):(l.set i a).getD j 0=if j=i then a else l.getD j 0:=by grind
def cntN(n:Nat)(o:List Int):Nat:=(List.range n).countP fun x=>decide (o.getD x 0<0)
end Go.AM.SD
namespace Go.AM.SD
def preds(es:List Ed)(v:Nat):List Nat:=(es.filter fun e=>e.2.2==v).map (·.1)
theorem Qdy{es:List Ed}{v y:Nat}:y∈preds es v↔∃e∈es,e.1=y/\e.2.2=v:=by simp only[preds,List.mem_map,List.mem_filter,beq_iff_eq];simp_all
abbrev QS:=List Int×List Nat
def bMk(left:Nat->Bool)(s:QS)(x:Nat):QS:=if left x then(s.1.set x 0,s.2++[x])else s
def bMks(n:Nat)(mk:List Nat)(left:Nat->Bool):QS:=mk.foldl (bMk left) (List.replicate n (-1),[])
def bEd(left:Nat->Bool)(v:Nat)(s:QS)(y:Nat):QS:=if left y&&decide (s.1.getD y 0<0)then(s.1.set y (s.1.getD v 0+1),s.2++[y])else s
def bRow(es:List Ed)(left:Nat->Bool)(v:Nat)(s:QS):QS:=(preds es v).foldl (bEd left v) s
def bQ(es:List Ed)(left:Nat->Bool):Nat->Nat->QS->QS|0,_,s=>s|k+1,i,s=>match s.2[i]? with|some v=>bQ es left k (i+1) (bRow es left v s)|none=>s
def pDist(n:Nat)(es:List Ed)(mk:List Nat)(left:Nat->Bool):List Int:=(bQ es left (n+1) 0 (bMks n mk left)).1
structure BI(n:Nat)(es:List Ed)(mk:List Nat)(left:Nat->Bool)(s:QS):Prop where
 len:s.1.length=n
 cnt:cntN n s.1+s.2.length=n
 neg:∀x,x<n->-1<=s.1.getD x 0
 inl:∀x,x∈s.2↔x<n/\0<=s.1.getD x 0
 zero:∀x,x<n->left x=true->x∈mk->s.1.getD x 0=0
 zero':∀x,x<n->s.1.getD x 0=0->left x=true/\x∈mk
 succ:∀x(d:Nat),x<n->s.1.getD x 0=(d:Int)+1->left x=true/\∃e∈es,e.1=x/\s.1.getD e.2.2 0=(d:Int)mono:∀(a b x y:Nat),a<=b->s.2[a]?=some x->s.2[b]?=some y->s.1.getD x 0<=s.1.getD y 0
def Done(es:List Ed)(left:Nat->Bool)(i:Nat)(s:QS):Prop:=∀(a v:Nat),a<i->s.2[a]?=some v->∀e∈es,e.2.2=v->left e.1=true->0<=s.1.getD e.1 0/\s.1.getD e.1 0<=s.1.getD v 0+1
def Near(v:Nat)(s:QS):Prop:=∀x,x∈s.2->s.1.getD x 0<=s.1.getD v 0+1
theorem Qm3{n:Nat}{o:List Int}{y:Nat}{a:Int}(k:o.length=n)(g:y<n)(h:o.getD y 0<0)(m:0<=a):cntN n (o.set y a)+1=cntN n o:=by have d:∀x,(o.set y a).getD x 0=if x=y then a else o.getD x 0:=fun x=>Qfd (by omega);unfold cntN;have c:(List.range n).Nodup:=List.nodup_range;have b:y∈List.range n:=List.mem_range.2 g;generalize List.range n=l at c b;induction l with|nil=>cases b|cons z l i=>
 rw[List.nodup_cons]at c;rw[List.countP_cons,List.countP_cons,d];by_cases f:z=y
 ·subst f;rw[if_pos rfl,if_neg (by simp;omega),if_pos (by simpa using h)];have:l.countP (fun x=>decide ((o.set z a).getD x 0<0))=l.countP (fun x=>decide (o.getD x 0<0)):=by refine List.countP_congr fun x j=>?_;grind
  rw[this]
 grind
theorem Qm4{l:List Nat}{y b z:Nat}(h:(l++[y])[b]?=some z):l[b]?=some z\/(b=l.length/\z=y):=by grind
theorem BI.push{n:Nat}{es:List Ed}{mk:List Nat}{left:Nat->Bool}{s:QS}(h:BI n es mk left s){v y i:Nat}(t:InN n es mk)(F:s.2[i]?=some v)(g:Near v s){e:Ed}(he:e∈es)(H:e.1=y)(B:e.2.2=v)(C:left y=true)(l:s.1.getD y 0<0):BI n es mk left (s.1.set y (s.1.getD v 0+1),s.2++[y])/\Near v (s.1.set y (s.1.getD v 0+1),s.2++[y])/\(s.1.set y (s.1.getD v 0+1)).getD v 0=s.1.getD v 0/\(∀x,x<n->0<=s.1.getD x 0->(s.1.set y (s.1.getD v 0+1)).getD x 0=s.1.getD x 0):=by
 have r:y<n:=by have:=(t.1 e he).1;omega
 have m:=(h.inl v).1 (List.mem_of_getElem? F);have c:∀x,(s.1.set y (s.1.getD v 0+1)).getD x 0=if x=y then s.1.getD v 0+1 else s.1.getD x 0:=fun x=>Qfd (by grind);have hold:∀x,x<n->0<=s.1.getD x 0->(s.1.set y (s.1.getD v 0+1)).getD x 0=s.1.getD x 0:=fun x f j=>by grind
 have o:=hold v m.1 m.2;have A:y∉s.2:=fun hm=>by have:=((h.inl y).1 hm).2;omega
 refine⟨⟨by simp[h.len],?_,fun x f=>?_,fun x=>?_,fun x f w hm=>?_,fun x f j=>?_,fun x d f j=>?_,fun a b x z q f G=>?_⟩,fun x f=>?_,o,hold⟩;·have h1:=Qm3 h.len r l (a:=s.1.getD v 0+1) (by omega);have p:=h.cnt;grind
 ·rw[c];split;·omega
  exact h.neg x f
 ·rw[c,List.mem_append,List.mem_singleton];by_cases f:x=y;·omega
  rw[if_neg f,h.inl x];simp[f]
 ·have :=h.zero x f w hm;grind
 ·rw[c]at j;split at j;·omega
  exact h.zero' x f j
 ·rw[c]at j;split at j;·grind
  obtain⟨w,J,E,p,I⟩:=h.succ x d f j;grind
 ·rcases Qm4 f with h1|⟨h1,rfl⟩<;>rcases Qm4 G with p|⟨p,rfl⟩;·have k:=(h.inl x).1 (List.mem_of_getElem? h1);have u:=(h.inl z).1 (List.mem_of_getElem? p);rw[hold x k.1 k.2,hold z u.1 u.2];exact h.mono a b x z q h1 p
  ·have k:=(h.inl x).1 (List.mem_of_getElem? h1);rw[hold x k.1 k.2,c,if_pos rfl];exact g x (List.mem_of_getElem? h1)
  ·grind
  omega
 rw[o];rcases List.mem_append.1 f with h1|h1;·have k:=(h.inl x).1 h1;rw[hold x k.1 k.2];exact g x h1
 simp_all
theorem Done.push{n:Nat}{es:List Ed}{mk:List Nat}{left:Nat->Bool}{s:QS}(h:BI n es mk left s){y i:Nat}{o':List Int}(c:InN n es mk)(hi:i<=s.2.length)(j:Done es left i s)(hold:∀x,x<n->0<=s.1.getD x 0->o'.getD x 0=s.1.getD x 0):Done es left i (o',s.2++[y]):=by
 intro a v k l e he f g;have b:s.2[a]?=some v:=by grind
 have:=j a v k b e he f g;have d:=(h.inl v).1 (List.mem_of_getElem? b);show 0<=o'.getD e.1 0/\o'.getD e.1 0<=o'.getD v 0+1;rw[hold _ (c.1 e he).1 this.1,hold v d.1 d.2];exact this
theorem BI.row{n:Nat}{es:List Ed}{mk:List Nat}{left:Nat->Bool}(a:InN n es mk){v i:Nat}:∀(ys:List Nat)(s:QS),(∀y∈ys,∃e∈es,e.1=y/\e.2.2=v)->BI n es mk left s->s.2[i]?=some v->Near v s->Done es left i s->BI n es mk left (ys.foldl (bEd left v) s)/\(ys.foldl (bEd left v) s).2[i]?=some v/\Near v (ys.foldl (bEd left v) s)/\Done es left i (ys.foldl (bEd left v) s)/\(∀x,x<n->0<=s.1.getD x 0->(ys.foldl (bEd left v) s).1.getD x 0=s.1.getD x 0)/\∀y∈ys,left y=true->0<=(ys.foldl (bEd left v) s).1.getD y 0:=by intro ys;induction ys with|nil=>intro s _ h b l k;exact⟨h,b,l,k,fun _ _ _=>rfl,fun y j=>by cases j⟩|cons y ys E=>
 intro s c h b l k;obtain⟨e,he,j,f⟩:=c y (by simp);have C:y<n:=by have:=(a.1 e he).1;omega
 rw[List.foldl_cons];by_cases hc:(left y&&decide (s.1.getD y 0<0))=true
 ·have o:bEd left v s y=(s.1.set y (s.1.getD v 0+1),s.2++[y]):=if_pos hc;simp only[Bool.and_eq_true,decide_eq_true_eq]at hc;obtain⟨h1,q,K,B⟩:=h.push a b l he j f hc.1 hc.2;have w:i<s.2.length:=(List.getElem?_eq_some_iff.1 b).1;have m:=Done.push (y:=y) h a (by omega) k B;have g:(s.2++[y])[i]?=some v:=by grind
  rw[o];obtain⟨u,A,r,t,J,H⟩:=E _ (fun z d=>c z (by simp[d])) h1 g q m;refine⟨u,A,r,t,fun x L G=>?_,fun z d I=>?_⟩;·simp_all
  rcases List.mem_cons.1 d with rfl|d
  ·have p:(s.1.set z (s.1.getD v 0+1)).getD z 0=s.1.getD v 0+1:=by rw[Qfd (by grind),if_pos rfl]
   have F:=(h.inl v).1 (List.mem_of_getElem? b);grind
  simp_all
 have o:bEd left v s y=s:=if_neg hc;simp_all
structure BH(n:Nat)(es:List Ed)(mk:List Nat)(left:Nat->Bool)(i:Nat)(s:QS):Prop where
 bi:BI n es mk left s
 done:Done es left i s
 near:∀v,s.2[i]?=some v->Near v s
 le:i<=s.2.length
theorem BH.step{n:Nat}{es:List Ed}{mk:List Nat}{left:Nat->Bool}(b:InN n es mk){i v:Nat}{s:QS}(h:BH n es mk left i s)(l:s.2[i]?=some v):BH n es mk left (i+1) (bRow es left v s):=by
 obtain⟨g,f,m,r,C,q⟩:=BI.row b (preds es v) s (fun y t=>Qdy.1 t) h.bi l (h.near v l) h.done;have w:i<(bRow es left v s).2.length:=(List.getElem?_eq_some_iff.1 f).1;refine⟨g,fun a u B c e he d p=>?_,fun u c x A=>?_,by omega⟩
 ·by_cases j:a<i;·exact r a u j c e he d p
  have :a=i:=by omega
  subst this;have k:u=v:=Option.some.inj (c.symm.trans f);subst k;have o:=q e.1 (Qdy.2 ⟨e,he,rfl,d⟩) p;exact⟨o,m e.1 ((g.inl _).2 ⟨(b.1 e he).1,o⟩)⟩
 have h1:=m x A;have d:=g.mono i (i+1) v u (by omega) f c;grind[bRow]
theorem BH.dst{n:Nat}{es:List Ed}{mk:List Nat}{left:Nat->Bool}(c:InN n es mk){i:Nat}{s:QS}(h:BH n es mk left i s)(hi:s.2[i]?=none):Dst es mk left (fun x=>if x<n then s.1.getD x 0 else-1):=by
 have o:s.2.length<=i:=List.getElem?_eq_none_iff.1 hi;refine⟨fun x=>?_,fun x g hm=>?_,fun x f=>?_,fun x d f=>?_,fun e he g d f=>?_⟩
 ·split;·rename_i b;exact h.bi.neg x b
  omega
 ·have b:=c.2 x hm;rw[if_pos b];exact h.bi.zero x b g hm
 ·split at f;·rename_i b;exact h.bi.zero' x b f
  omega
 ·split at f;·rename_i b;obtain⟨g,e,he,l,m⟩:=h.bi.succ x d b f;exact⟨g,e,he,l,by rw[if_pos (c.1 e he).2];exact m⟩
  omega
 obtain⟨hf,k⟩:=c.1 e he;rw[if_pos k]at f;rw[if_pos hf];have hm:e.2.2∈s.2:=(h.bi.inl _).2 ⟨k,by omega⟩;obtain⟨a,j⟩:=List.getElem?_of_mem hm;have p:a<s.2.length:=(List.getElem?_eq_some_iff.1 j).1;have:=h.done a e.2.2 (by omega) j e he rfl g;omega
theorem Qh8{n:Nat}{es:List Ed}{mk:List Nat}{left:Nat->Bool}(a:InN n es mk):∀(k i:Nat)(s:QS),BH n es mk left i s->n<k+i->(bQ es left k i s).1.length=n/\Dst es mk left (fun x=>if x<n then(bQ es left k i s).1.getD x 0 else-1):=by intro k;induction k with|zero=>intro i s h c;have:=h.bi.cnt;have:=h.le;omega|succ k d=>intro i s h c;unfold bQ;cases b:s.2[i]? with|some v=>exact d (i+1) _ (h.step a b) (by omega)|none=>exact⟨h.bi.len,h.dst a b⟩
theorem Qrb(n:Nat):cntN n (List.replicate n (-1))=n:=by grind[cntN,List.countP_eq_length]
theorem QeM{n:Nat}{es:List Ed}{mk:List Nat}{left:Nat->Bool}(k:InN n es mk)(f:mk.Nodup):BH n es mk left 0 (bMks n mk left):=by
 have key:∀(ms pre:List Nat)(s:QS),(pre++ms).Nodup->(∀x∈pre++ms,x<n)->s.1.length=n->cntN n s.1+s.2.length=n->(∀x,x<n->s.1.getD x 0=if left x&&pre.contains x then 0 else-1)->(∀x,x∈s.2↔left x=true/\x∈pre)->(ms.foldl (bMk left) s).1.length=n/\cntN n (ms.foldl (bMk left) s).1+(ms.foldl (bMk left) s).2.length=n/\(∀x,x<n->(ms.foldl (bMk left) s).1.getD x 0=if left x&&(pre++ms).contains x then 0 else-1)/\(∀x,x∈(ms.foldl (bMk left) s).2↔left x=true/\x∈pre++ms):=by intro ms;induction ms with|nil=>intro pre s _ _ h1 l j i;rw[List.append_nil];exact⟨h1,l,j,i⟩|cons m ms t=>
  intro pre s f g h1 l j i;have q:m<n:=g m (by simp);have B:m∉pre:=fun hm=>by grind
  have e:pre++m::ms=(pre++[m])++ms:=by simp
  rw[e]at f g⊢;rw[List.foldl_cons];have A:s.1.getD m 0=-1:=by grind
  by_cases p:left m=true
  ·have o:bMk left s m=(s.1.set m 0,s.2++[m]):=if_pos p;rw[o];refine t (pre++[m]) _ f g (by simp[h1]) ?_ (fun x c=>?_) fun x=>?_;·have :=Qm3 h1 q (by omega) (a:=0) (by omega);grind
   ·show(s.1.set m 0).getD x 0=_;rw[Qfd (by omega)];by_cases h:x=m;·grind
    rw[if_neg h,j x c];simp[h]
   show x∈s.2++[m]↔_;rw[List.mem_append,List.mem_append,i,List.mem_singleton];constructor
   ·rintro(F|rfl);·grind
    grind
   grind
  have o:bMk left s m=s:=if_neg p;rw[o];refine t (pre++[m]) _ f g h1 l (fun x c=>?_) fun x=>?_
  ·rw[j x c];by_cases h:x=m;·grind
   simp[h]
  rw[List.mem_append,i,List.mem_singleton];constructor;·grind
  grind
 obtain⟨h1,l,j,i⟩:=key mk [] (List.replicate n (-1),[]) (by simpa using f) (by simpa using k.2) (by simp) (by rw[Qrb];rfl) (fun x c=>by simp_all) (fun x=>by simp);rw[List.nil_append]at j i;have G:∀x,x<n->(bMks n mk left).1.getD x 0=0\/(bMks n mk left).1.getD x 0=-1:=fun x c=>by grind[bMks]
 have r:∀x,x∈(bMks n mk left).2->(bMks n mk left).1.getD x 0=0:=fun x c=>by grind[bMks]
 refine⟨⟨h1,l,fun x c=>?_,fun x=>?_,fun x c p hm=>?_,fun x c u=>?_,fun x d c u=>?_,fun a b x y _ w E=>?_⟩,fun a v w=>by omega,fun v C x c=>?_,Nat.zero_le _⟩;·grind
 ·constructor;·intro c;exact⟨k.2 x ((i x).1 c).2,by simp_all⟩
  grind[bMks]
 ·simp_all[bMks]
 ·simp_all[bMks]
 ·grind
 ·grind
 grind
end Go.AM.SD
