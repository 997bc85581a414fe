/- On the way to GuardsSuffice. Conditions: none of ours. -/
import Derived.Lib.UnsafeStr
import Derived.Lib.Builder
import Derived.LaidEqlPtr
import Derived.RangeFuncRecord
import Derived.OrdersIn
import Derived.Orders
import Derived.RangeFuncLeaves
import Derived.Test.YtikknocmfjfohaaGreatDoorAmT3
theorem Go.AM.b7EYW{p:Prop}(h:p:=by
 rcases l with⟨_,R,_⟩|⟨M,base,o,cap,C,q,L,hp,rfl,E,S,f⟩;·omega
 obtain⟨rfl,f⟩:=f.resolve_left (by omega);have d:VRels c w (List.replicate (len+1) zero).flatten (Builtin.zeroCells z.cells (len+1)).toList:=QcX (c:=c) (w:=w) (Qct _ _ hc) (len+1);have hlen:((List.replicate (len+1) zero).flatten).length=(len+1)*s:=by simp[p]
 obtain⟨B,G,O,y,F⟩:=QdE (P:=P) H I m hp (vs:=(List.replicate (len+1) zero).flatten) (off:=off) (by omega) d (onesI d (QkR n _));refine⟨.tuple #[],B,G,?_,y,F,by simp[VRel]⟩;simp_all[Builtin.clear_,run_underlying,zeroValue,typeInfo]):p:=h
theorem Go.AM.bbZs9{p:Prop}(h:p:=by
 have N:args=#[y]:=by grind
 have R:argTypes=#[t]:=by grind
 simp_all[resolve,invoke,builtin]):p:=h
theorem Go.AM.b2mXs{p:Prop}(h:p:=by
 unfold notInt at q;split at q;·cases q
 ·cases q
 rename_i h1 h2;cases Y:P.underlying A with|none=>exact absurd Y h2|some d=>exact⟨d,rfl,fun k e=>h1 k (by rw[Y,e])⟩):p:=h
theorem Go.AM.bv4P7{p:Prop}(h:p:=by
 have :(do let d<-resolve a.eval {callee:=.builtin .append,args:=args,argTypes:=argTypes} ty;invoke d.target d.args:Sem Next)=(do pure (.value (<-Builtin.append_ #[t,A] ty #[a.eval u,a.eval J]))):=by
  have N:args=#[u,J]:=by grind
  have R:argTypes=#[t,A]:=by grind
  simp_all[resolve,invoke,builtin]
 rw[this];exact .ofSound C):p:=h
theorem Go.AM.bW9Am{p:Prop}(h:p:=by
 simp only[Zac]at b;obtain⟨⟨⟨B,q⟩,A⟩,C⟩:=b;obtain⟨r,h1,d,g⟩:=QaU hm;cases g;obtain⟨kt,et,M⟩:=QfK B;exact .ofU (Qgs (P:=P) H M (Qau p q) (Qau p A) (Qau p C) d) (Qmv d)):p:=h
set_option linter.unusedSectionVars false
set_option maxHeartbeats 32000000
set_option maxRecDepth 100000
set_option linter.unusedVariables false
set_option linter.unusedSimpArgs false
namespace Go.AM
variable{P:Program}{ok:Okc}{c:Ctx ok}{w:World}{h:Heap}
variable{m:Array TypeId}{neg:Bool}{h':Heap}{M p:IntKind}{ks:List LK}{us:List Value}{f:MapEntry->MapEntry}{i n:Nat}{s:Site}{t t2 ty:TypeId}{J k ti:TypeInfo}{B E I K R U a l z:Value}
theorem run_bind'{α β}{m:HM α}{f}{r:β×Heap}(hm:(m.bind f).run h=some r):∃a h1,m.run h=some (a,h1)/\(f a).run h1=some r:=by induction m generalizing h with|ret a=>exact⟨a,h,rfl,hm⟩|fail=>simp[HM.bind,HM.run]at hm|look b k d=>exact d _ hm|put b x k d=>
 obtain⟨l,hm⟩:=Qa5 (k:=k.bind f) hm;obtain⟨a,h1,g,i⟩:=d hm;refine⟨a,h1,?_,i⟩;have c:Nat.blt b lim=true:=by simp_all
 simp only[HM.run,c,cond_true];exact g
def aBoxT(t:Nat)(s:Site)(i:Nat)(x:AV):HM AV:=if x.boxable then .new s i (fun g=>.cells g x.cells) fun b g=>.ret (.typed t x.cells.length (.ptr b g 0))else .fail
theorem Qms{z v}(H:HRel c h w)(hi:P.info? t=some k)(o:k.zero=some a)(hc:cOK z a=true)(hm:(aBoxT t s i z).run h=some (v,h')):Sound P c w (Instr.alloc t true (.tuple #[])) v h':=by
 unfold aBoxT at hm;split at hm
 ·rename_i m;obtain⟨b,g,d,u,hm⟩:=QdF hm;simp only[HM.run,Zab,Zal]at hm;obtain⟨rfl,rfl⟩:=hm;have q:=Qer (c:=c) (w:=w) z a hc;have f:=VRel_cells' q m;obtain⟨p,hp,l,n⟩:=H.newCells d u (C:=a.cells) (e:=t) (Qa4 f);refine⟨.pointer (some ⟨w.heap.size,0,none⟩),p,_,?_,l,n,?_⟩;·simp[Instr.alloc,newVar,newRow,zeroValue,typeInfo,hi,o]
  simp only[VRel];refine⟨.inl ⟨w.heap.size,a.cells,(0,0),.inl rfl,?_,.inr ?_⟩,_,0,hp,by simp⟩;·show(w.heap.push _)[w.heap.size]?=_;simp
  have :=QaE f;simp_all
 grind[HM.run]
def AV.bare:AV->AV|.typed _ _ v=>v|v=>v
variable{v x y:AV}{ys:List AV}
theorem VRel.bare{v}(h:VRel c w x v):VRel c w x.bare v:=by cases x<;>first|exact h|exact(by simp only[VRel]at h;exact h.2)
def aEqP(neg:Bool)(x y:AV):Option AV:=match x.bare,y.bare with|.ptr b g o,.ptr c d a=>if b=c/\g=d/\o=a then some (.bool (true !=neg))else none|_,_=>none
def eqPT(P:Program)(t:TypeId):Bool:=match P.underlying t with|some (.pointer e)=>(match P.info? e with|some i=>i.size !=0|none=>false)|_=>false
theorem Qj2{c f}{j}(a)(hp:P.underlying c=some (.pointer f))(b:P.info? f=some j):(Op.equal c (.pointer (some a)) (.pointer (some a))).run P w=.ok true w:=by
 have h:∀d:Nat,(Op.equalIn (d+1) c (.pointer (some a)) (.pointer (some a))).run P w=.ok true w:=fun d=>by simp[Op.equalIn,run_underlying hp,sizeOf,typeInfo,b,run_sameAddr_same]
 simp_all[Op.equal,Op.maxDepth]
theorem Qgg(w:World)(o):(w.drew.alloc o).heap[w.heap.size]?=some o:=by show(w.heap.push o)[w.heap.size]?=_;simp
theorem QqX{op}{ox oy}{k cy}(m:op=if neg then .neq else .eql)(f:VRel c w x k)(h:VRel c w y cy)(a:eqPT P t=true)(hm:aEqP neg x y=some v):Pure P c w (do eqGuard op t ox oy k cy;binOp op t k cy) v:=by
 unfold aEqP at hm;have f:=f.bare;have h:=h.bare;split at hm
 ·rename_i b g o C E F A s;rw[A]at f;rw[s]at h;split at hm
  ·rename_i p;obtain⟨rfl,rfl,rfl⟩:=p;cases hm;simp only[VRel]at f h;obtain⟨q,base,hp,rfl⟩:=f;obtain⟨B,l,d,rfl⟩:=h;rw[hp]at d;cases d;unfold eqPT at a;split at a
   ·rename_i e z;split at a
    ·rename_i i hi;have u:i.size≠0:=by simpa using a
     have n:=Qj2 (w:=w) ⟨q,base+o,none⟩ z hi;subst m;cases neg;·refine⟨.bool true,?_,by simp[VRel]⟩;simp_all[eqGuard,binOp]
     refine⟨.bool false,?_,by simp[VRel]⟩;simp_all[eqGuard,binOp]
    cases a
   cases a
  cases hm
 cases hm
def aConvP(t n:Nat)(x:AV):Option AV:=match x with|.typed c a (.ptr b g o)=>if c=t/\a=n then some x else none|_=>none
def convPT(P:Program)(src dst:TypeId)(T n:Nat):Bool:=match P.underlying src,P.underlying dst with|some (.pointer t),some .unsafePointer=>n !=0&&(match P.info? t with|some i=>i.size !=0|none=>false)|some .unsafePointer,some (.pointer u)=>n !=0&&(P.info? u).isSome&&liesAt P P.depth T (n/P.cellsOf T) 0 u 1|_,_=>false
theorem QoC{src dst}{t}(y:VRel c w x l)(d:convPT P src dst t n=true)(hm:aConvP t n x=some v):Pure P c w (convert src dst l) v:=by
 unfold aConvP at hm;split at hm
 ·rename_i F A b g o;split at hm
  ·rename_i J;obtain⟨rfl,rfl⟩:=J;cases hm;have h:=y;simp only[VRel]at y;obtain⟨q,_,_,_,G⟩:=y;obtain⟨k,C,K,h1,E,B⟩:=q.old (.inr ⟨_,G⟩);have s:l=.pointer (some ⟨k,0,none⟩):=by simp_all
   subst s;have f:w.shape? k=some (F,C.size):=by simp[World.shape?,E]
   unfold convPT at d;split at d
   ·rename_i e z m;simp only[Zac,bne_iff_ne,ne_eq]at d;obtain⟨p,hi⟩:=d;split at hi
    ·rename_i i a;have H:i.size≠0:=by simpa using hi
     have I:C.size=A:=B.resolve_left p;exact⟨_,Lib.run_to_unsafe (P:=P) (w:=w) ⟨k,0,none⟩ z m a H f (by grind),h⟩
    cases hi
   ·rename_i u z m;simp only[Zac,bne_iff_ne,ne_eq]at d;obtain⟨⟨p,hi⟩,L⟩:=d;obtain⟨i,a⟩:=Option.isSome_iff_exists.1 hi;have I:C.size=A:=B.resolve_left p;exact⟨_,Lib.run_from_unsafe (P:=P) (w:=w) ⟨k,0,none⟩ z m a f (by simp_all),h⟩
   cases d
  cases hm
 cases hm
def tagT(t:Nat):AV->AV|.sl b g off len sz=>.typed t 0 (.sl b g off len sz)|v=>v
def aAppendT(t:Nat)(s:Site)(i:Nat)(sz bytes:Nat)(x y:AV):HM AV:=match x with|.nilsl=>(aAppend s i sz bytes .nilsl y).bind fun v=>.ret (tagT t v)|.typed c 0 (.sl b g 0 (len+1) a)=>if c=t then(aAppend s i sz bytes (.sl b g 0 (len+1) a) y).bind fun v=>.ret (tagT t v)else .fail|_=>.fail
theorem Qmg{e}{sz bytes}{cy}(H:HRel c h w)(hx:VRel c w x I)(U:VRel c w y cy)(T:AppT P t t2 e sz bytes ti z)(hm:(aAppendT e s i sz bytes x y).run h=some (v,h')):Sound P c w (Builtin.append_ #[t,t2] ty #[I,cy]) v h':=by
 have tagged:∀(u:AV)(h1:Heap),Sound P c w (Builtin.append_ #[t,t2] ty #[I,cy]) u h1->(∀F q,(Builtin.append_ #[t,t2] ty #[I,cy]).run P w=.ok F q->(∃L,Evo c w L q)->∀b g off len sz,u=.sl b g off len sz->TyAt q e 0 F)->Sound P c w (Builtin.append_ #[t,t2] ty #[I,cy]) (tagT e u) h1:=by
  rintro u h1⟨F,L,q,G,E,H',V⟩K;refine⟨F,L,q,G,E,H',?_⟩;cases u<;>first|exact V|skip
  simp only[tagT,VRel];refine⟨K F q G ⟨L,E⟩ _ _ _ _ _ rfl,?_⟩;simp_all[VRel]
 unfold aAppendT at hm;split at hm
 ·obtain⟨u,h1,d,J⟩:=run_bind' hm;simp only[HM.run,Zab,Zal]at J;obtain⟨rfl,rfl⟩:=J;refine tagged u h1 (QeA (P:=P) (ty:=ty) H hx U T d) ?_;rintro F q G _ b g off len sz rfl;simp only[VRel]at hx;subst hx;obtain⟨K,⟨d2,p,m⟩,hi,hz,rfl,rfl,X⟩:=T;have d:=Qdb (P:=P) H U d;obtain⟨ys,n,us,S,d⟩:=d;split at d;·rename_i k;obtain⟨O,B,N⟩:=k;simp only[slLen,ZbS]at O B;cases n with|zero=>simp[HM.run]at d|succ n=>have hg:=Qcu (P:=P) (w:=w) (ty:=ty) (t:=t) (t2:=t2) (dlen:=0) (dcap:=0) (base:=none) (cy:=cy) (olds:=[]) (us:=us) K p m hi hz S.lenOf S.first (fun w1 _=>by simp[Builtin.firstCells]) (by omega) (by simpa using O) (by omega);rw[G]at hg;cases hg;exact .inl ⟨w.heap.size,_,(0,0),.inr ⟨rfl,_,_,rfl⟩,Qgg w _,.inl rfl⟩
  grind[HM.run]
 ·rename_i t' b0 g0 f s';split at hm
  ·rename_i e0;subst e0;obtain⟨u,h1,d,J⟩:=run_bind' hm;simp only[HM.run,Zab,Zal]at J;obtain⟨rfl,rfl⟩:=J;have l:VRel c w (.sl b0 g0 0 (f+1) s') I:=by simp_all[VRel]
   have Z:TyAt w t' 0 I:=by simp_all[VRel]
   refine tagged u h1 (QeA (P:=P) (ty:=ty) H l U T d) ?_;rintro F q G⟨L,E⟩b g off len sz rfl;obtain⟨K,⟨d2,p,m⟩,hi,hz,rfl,rfl,X⟩:=T;replace d:=Qdb (P:=P) H U d;obtain⟨ys,n,us,S,d⟩:=d;split at d
   ·rename_i k;obtain⟨O,B,N⟩:=k;simp only[slLen]at O B;dsimp only at d;split at d
    ·rename_i e1;subst e1;obtain⟨cs,Y,d⟩:=Qbm d;split at d
     ·rename_i hl;have hxx:=l;simp only[VRel]at l;rcases l with⟨hp,hz0,_⟩|⟨R,base,o,cap,C,e',fr,hp,rfl,hlc,hC,hcap⟩;·omega
      obtain⟨cb2,C2,fr2,q1,q2,q3⟩:=Z.old (.inl rfl);have q1:=q1.resolve_left (by simp);obtain⟨_,l2,J,q1⟩:=q1;simp only[Value.slice.injEq,Zab,Addr.mk.injEq]at q1;obtain⟨⟨rfl,rfl,_⟩,_,_⟩:=q1;by_cases A:f+1+n<=cap;·have a:=Qbw (P:=P) (w:=w) (ty:=ty) (base:=some ⟨R,0,none⟩) (dlen:=f+1) (dcap:=cap) K p m hi S.lenOf (S.first w rfl) A;rw[G]at a;simp only at a;cases Q:(storeCells ((⟨R,0,none⟩:Addr).add ((f+1)*ti.size)) us).run P w with|halt x y=>rw[Q]at a;cases a|ok x y=>rw[Q]at a;simp only[Result.andThen_ok,Result.ok.injEq]at a;obtain⟨rfl,rfl⟩:=a;obtain⟨C',fr',s1,s2⟩:=E.shape _ _ _ _ q2;exact .inl ⟨R,C',fr',.inr ⟨rfl,_,_,rfl⟩,s1,.inl rfl⟩
      obtain⟨M,So⟩:=Qfg (P:=P) H hxx Y hl;have a:=Qcu (P:=P) (w:=w) (ty:=ty) (t:=t) (t2:=t2) (dlen:=f+1) (dcap:=cap) (base:=some ⟨R,0,none⟩) (cy:=cy) (olds:=M) (us:=us) K p m hi hz S.lenOf S.first So.first (by omega) O (by omega);rw[G]at a;cases a;exact .inl ⟨w.heap.size,_,(0,0),.inr ⟨rfl,_,_,rfl⟩,Qgg w _,.inl rfl⟩
     grind[HM.run]
    grind[HM.run]
   grind[HM.run]
  grind[HM.run]
 grind[HM.run]
def aUsd(x:AV):Option AV:=match x with|.nilsl=>some .nilptr|.typed t 0 (.sl b g 0 (_+1) _)=>some (.typed t 0 (.ptr b g 0))|_=>none
theorem QqY{i}(f:VRel c w x i)(hm:aUsd x=some v):Pure P c w (Builtin.unsafeSliceData_ m ty #[i]) v:=by
 unfold aUsd at hm;split at hm;·cases hm;simp only[VRel]at f;subst f;exact⟨_,Lib.run_unsafeSliceData_nil _ _ _ _ _,by simp[VRel]⟩
 ·rename_i t b g len s;cases hm;simp only[VRel]at f;obtain⟨h,p⟩:=f;obtain⟨E,C,u,h1,y,B⟩:=h.old (.inl rfl);rcases p with⟨_,F,_⟩|⟨a,base,o,cap,C2,e,q,hp,rfl,n,A,d⟩;·omega
  have h1:=h1.resolve_left (by simp);obtain⟨_,l,k,h1⟩:=h1;simp only[Value.slice.injEq,Zab,Addr.mk.injEq]at h1;obtain⟨⟨rfl,rfl,_⟩,_,_⟩:=h1;obtain⟨z,_⟩:=d.resolve_left (by omega);refine⟨.pointer (some ⟨a,0,none⟩),Lib.run_unsafeSliceData_row _ _ _ _ _ _ (by omega),?_⟩;simp only[VRel];exact⟨.inl ⟨a,C,u,.inl rfl,y,.inl rfl⟩,a,base,hp,by simp;omega⟩
 cases hm
def bytesIn:List AV->Option (List UInt8)|[]=>some []|.int .u8 n::r=>if 0<=n/\n<256 then(bytesIn r).map (UInt8.ofNat n.toNat::·)else none|_=>none
theorem QhF:∀{ys:List AV}{us:List Value}{s:List UInt8},bytesIn ys=some s->VRels c w ys us->us=s.map fun b=>Value.int .u8 b.toNat
 |[],us,s,d,f=>by simp_all[bytesIn,VRels]|y::ys,us,s,d,f=>by
  have h:∃n s2,y=.int .u8 n/\(0<=n/\n<256)/\bytesIn ys=some s2/\s=UInt8.ofNat n.toNat::s2:=by
   cases y<;>try(simp[bytesIn]at d;done)
   rename_i k n;cases k<;>try(simp[bytesIn]at d;done)
   simp only[bytesIn]at d;split at d;·rename_i g;cases a:bytesIn ys with|none=>simp[a]at d|some s2=>simp only[a,ZbK,Zab]at d;exact⟨n,s2,rfl,g,rfl,d.symm⟩
   cases d
  obtain⟨n,s2,rfl,g,a,rfl⟩:=h;simp only[VRels]at f;obtain⟨v,l,rfl,h1,i⟩:=f;simp only[VRel]at h1;subst h1;rw[QhF a i];simp only[ZaL,List.cons.injEq,Value.int.injEq,true_and,and_true];grind[UInt8.toNat_ofNat']
def aUstr(t:Nat)(x n:AV):HM AV:=match x,n with|.nilptr,.int .i64 0=>.ret (.str [])|.typed a _ (.ptr b g 0),.int .i64 n=>if a=t/\0<n/\n<=9223372036854775807 then .cells b g fun cs=>(match bytesIn (cs.take n.toNat)with|some s=>if s.length=n.toNat then .put b (.dead g) (.ret (.str s))else .fail|none=>.fail)else .fail|_,_=>.fail
def ustrT(P:Program)(a:TypeId)(t:Nat):Bool:=match P.underlying a with|some (.pointer e)=>e==t&&P.cellsOf e==1|_=>false
theorem Qqj{S it}{t}{n}(H:HRel c h w)(F:VRel c w x R)(E:VRel c w n U)(A:ustrT P S t=true)(hm:(aUstr t x n).run h=some (v,h')):Sound P c w (Builtin.unsafeString_ #[S,it] ty #[R,U]) v h':=by
 unfold aUstr at hm;split at hm;·simp only[HM.run,Zab,Zal]at hm;obtain⟨rfl,rfl⟩:=hm;simp only[VRel]at F E;subst F;subst E;refine .here H (Lib.run_unsafeString_none _ _ _ _ _) ?_;simp only[VRel];rfl
 ·rename_i t' k b g n;split at hm
  ·rename_i hc;obtain⟨rfl,h0,h63⟩:=hc;obtain⟨cs,N,hm⟩:=Qbm hm;split at hm
   ·rename_i s X;split at hm
    ·rename_i hl;obtain⟨z,hm⟩:=Qa5 hm;simp only[HM.run,Zab,Zal]at hm;obtain⟨rfl,rfl⟩:=hm;simp only[VRel]at F E;subst E;obtain⟨O,Z,base,hp,G⟩:=F;obtain⟨d,C,I,h1,o,_⟩:=O.old (.inr ⟨_,G⟩);have h1:R=.pointer (some ⟨d,0,none⟩):=by simp_all
     rw[h1]at G;simp only[Value.pointer.injEq,Zab,Addr.mk.injEq,and_true]at G;obtain⟨rfl,f⟩:=G;have f:base=0:=by omega
     subst f;subst h1;obtain⟨C',e',fr',hO,B,hfr,hbs,i⟩:=H.here N hp;rw[o]at B;cases B;unfold ustrT at A;split at A
     ·rename_i e hu;simp only[Zac,beq_iff_eq]at A;obtain⟨rfl,Q⟩:=A;have hlen:s.length<=cs.length:=by
       have :(cs.take n.toNat).length=s.length:=by
        have L:∀(u:List AV)(s:List UInt8),bytesIn u=some s->u.length=s.length:=by intro u;induction u with|nil=>intro s h;simp only[bytesIn,Zab]at h;subst h;rfl|cons y u ih=>
         intro s h;cases y<;>try(simp[bytesIn]at h;done)
         rename_i k m;cases k<;>try(simp[bytesIn]at h;done)
         simp only[bytesIn]at h;split at h;·cases o:bytesIn u with|none=>simp[o]at h|some s2=>simp only[o,ZbK,Zab]at h;subst h;simp[ih s2 o]
         cases h
        grind
       grind
      have J:=Qbq i;simp at J;have hrel:=QhF X (by have:=QaK i 0 n.toNat (by omega);simpa using this);have T:s≠[]:=by grind
      have M:(n:Int)=(s.length:Int):=by omega
      have q:∀j x,s[j]?=some x->w.cell? ((⟨d,0,none⟩:Addr).add j)=some (.int .u8 x.toNat):=by
       intro j x Y;have hjl:j<s.length:=(Zaf.1 Y).1;have h6:(List.take n.toNat (C.toList.drop 0))[j]?=some (.int .u8 x.toNat):=by grind
       grind[Addr.add,World.cell?]
      have l:=Lib.run_unsafeString_row (P:=P) (w:=w) S it ty e hu Q d C.size (by simp[World.shape?,o]) s T (by omega) (by omega) q;rw[<-M]at l;have hlt:=Qbk o;have hw:(w.freeze ⟨d,0,none⟩ s.length).heap[d]?=some (.cells C e (if I.1==I.2 then(0,s.length)else(min I.1 0,max I.2 (s.length)))):=by grind[World.freeze]
      have K:∀k,k≠d->(w.freeze ⟨d,0,none⟩ s.length).heap[k]?=w.heap[k]?:=by grind[World.freeze]
      have hsz:(w.freeze ⟨d,0,none⟩ s.length).heap.size=w.heap.size:=by grind[World.freeze]
      have a:(w.freeze ⟨d,0,none⟩ s.length).os=w.os/\(w.freeze ⟨d,0,none⟩ s.length).tape=w.tape/\(w.freeze ⟨d,0,none⟩ s.length).output=w.output:=by simp only[World.freeze];grind
      have p:Live h b g:=⟨_,N,rfl,fun k=>by simp⟩;have:=H.put (w':=w.freeze ⟨d,0,none⟩ s.length) (cb:=d) (base:=0) (x:=.dead g) z (fun y hy=>H.later b _ N y hy) (.inr hp) (.inr ⟨g,0,p,hp⟩) a.1 a.2.1 a.2.2 (by omega) (by omega) (fun k _ hk=>K k hk) (fun C2 e2 fr2 V=>by grind) (fun _=>trivial);exact⟨_,_,_,l,this.1,this.2,by simp[VRel]⟩
     cases A
    grind[HM.run]
   grind[HM.run]
  grind[HM.run]
 grind[HM.run]
def aMapEnt(row:Bool)(ks:List LK)(zero x k:AV):HM AV:=if keyOK row ks k then match x with
 |.map b g=>.entries b g fun es=>match aFind row ks k es 0 with|some (some (i,v))=>.put b (.map g (es.set i (k,v))) (.ret (.tup [v,.int .i64 (.ofNat i)]))|some none=>.put b (.map g (es++[(k,zero)])) (.ret (.tup [zero,.int .i64 (.ofNat es.length)]))|none=>.fail
 |_=>.fail else .fail
def aEntSt(x s v:AV):HM AV:=match x,s with
 |.map b g,.int _ (.ofNat i)=>.entries b g fun es=>match es[i]? with|some p=>.put b (.map g (es.set i (p.1,v))) (.ret .any)|none=>.fail
 |_,_=>.fail
theorem Qgt(m:∀e,(f e).born=e.born){p}:∀{es:List (AV×AV)}{ms:List MapEntry}{clock:Nat}(i:Nat),MRel c w es ms clock->(∀e,ms[i]?=some e->VRel c w p.1 (f e).key/\VRel c w p.2 (f e).val)->MRel c w (es.set i p) (ms.modify i f) clock|[],ms,clock,i,hm,_=>by simp_all[MRel]|(n,x)::es,ms,clock,i,hm,hf=>by simp only[MRel]at hm;obtain⟨e,k,rfl,h1,d,b,g,a⟩:=hm;cases i with|zero=>obtain⟨l,h⟩:=hf e (by simp);obtain⟨q,o⟩:=p;simp only[ZbV,List.modify_zero_cons,MRel];exact⟨_,_,rfl,l,h,by simp_all,by simp_all,a⟩|succ i=>simp only[Zb8,List.modify_succ_cons,MRel];exact⟨_,_,rfl,h1,d,b,by simpa using g,Qgt m i a (fun e he=>hf e (by simpa using he))⟩
theorem QfJ:∀{es:List (AV×AV)}{ms:List MapEntry}{clock:Nat}(i:Nat){e:MapEntry},MRel c w es ms clock->ms[i]?=some e->e.born+es.length=clock+i|[],ms,clock,i,e,hm,hi=>by simp_all[MRel]|(k,x)::es,ms,clock,i,e,hm,hi=>by simp only[MRel]at hm;obtain⟨h,a,rfl,h1,g,f,d,b⟩:=hm;cases i with|zero=>simp at hi;subst hi;simp;omega|succ i=>have:=QfJ i b (by simpa using hi);simp;omega
theorem QkQ:∀{es:List (AV×AV)}{ms:List MapEntry}{clock:Nat},MRel c w es ms clock->ms.length=es.length|[],ms,clock,hm=>by simp_all[MRel]|(k,x)::es,ms,clock,hm=>by simp only[MRel]at hm;obtain⟨h,a,rfl,h1,f,d,g,b⟩:=hm;simp[QkQ b]
theorem Qmt{kt et}{row}{zero k r}{cx ck zv}(H:HRel c h w)(T:MapT P t row ks kt et)(hx:VRel c w x cx)(hkey:VRel c w k ck)(hi:P.info? et=some ti)(hz:ti.zero=some zv)(hc:cOK zero zv=true)(hm:(aMapEnt row ks zero x k).run h=some (r,h')):Sound P c w (Instr.mapEntry t cx ck) r h':=by
 unfold aMapEnt at hm;split at hm
 ·rename_i hok;have hck:=fun e=>QeB (P:=P) T hkey hok e;cases x<;>simp only at hm<;>try(cases hm;done)
  case map b g=>
   obtain⟨es,hb,hm⟩:=Qcz hm;simp only[VRel]at hx;obtain⟨cb,hp,rfl⟩:=hx;obtain⟨ms,clock,hO,hC,hR,hcl⟩:=H.atMap hb hp;split at hm;·rename_i i xo hf;obtain⟨hlim,hm⟩:=Qa5 hm;simp only[HM.run,Zab,Zal]at hm;obtain⟨rfl,rfl⟩:=hm;obtain⟨r',h1,h2⟩:=QbP (P:=P) (w:=w) T hkey hR hf;cases r' with|none=>simp[FoundRel]at h2|some r'=>
    obtain⟨i',xv⟩:=r';simp only[FoundRel]at h2;obtain⟨rfl,hxv⟩:=h2;obtain⟨_,k',hk1,hk2⟩:=Qik hf;simp only[Nat.sub_zero]at hk1;obtain⟨e,he,hke,hve⟩:=QeC i hR hk1;have hrow:row=true\/∃lk,ks=[lk]:=by cases hrw:row with|true=>exact .inl rfl|false=>have hkk:=T.hk;have hr:=T.hr;rw[hrw]at hr;have hl:=Qcp hkk hr;match ks,hl with|[lk],_=>exact .inr ⟨lk,rfl⟩
    obtain⟨hsame,hbits⟩:=QiY hk2 hkey hke hrow;have hkeep:(Instr.keyThatStays e.key ck).run P w=.ok ck w:=by simp_all[Instr.keyThatStays]
    have hborn:e.born=i:=by grind[QfJ]
    rw[ZaY]at he;obtain⟨c',E,H'⟩:=H.setMap hlim hb hp (es':=es.set i (k,xo)) (ms':=ms.modify i fun e=>{e with key:=ck}) (clock':=clock) (fun c' w' E=>by have :=Qgt (f:=fun e=>{e with key:=ck}) (fun _=>rfl) (p:=(k,xo)) i (MRel.mono (E.ext H.disj) _ _ _ hR) (fun e' he'=>by rw[ZaY,he]at he';cases he';exact⟨Zcm (E.ext H.disj) _ _ hkey,Zcm (E.ext H.disj) _ _ hve⟩);exact⟨by simp_all,by simpa using hcl⟩);refine⟨.tuple #[xv,goInt e.born],c',_,?_,E,H',?_⟩;·simp[Instr.mapEntry,run_underlying T.hu,QbY hC,hck,h1,he,hkeep,Qdl hC]
    ·simp only[VRel];refine⟨_,rfl,?_⟩;simp only[VRels];exact⟨_,_,rfl,Zcm (E.ext H.disj) _ _ hxv,_,_,rfl,by simp_all[VRel,goInt],rfl⟩
   ·rename_i hf;obtain⟨hlim,hm⟩:=Qa5 hm;simp only[HM.run,Zab,Zal]at hm;obtain⟨rfl,rfl⟩:=hm;obtain⟨r',h1,h2⟩:=QbP (P:=P) (w:=w) T hkey hR hf;have:r'=none:=by grind[FoundRel]
    subst this;have hzr:∀{c':Ctx ok}{w':World},VRel c' w' zero zv:=Qer _ _ hc;obtain⟨c',E,H'⟩:=H.setMap hlim hb hp (es':=es++[(k,zero)]) (ms':=ms.push {key:=ck,val:=zv,born:=clock}) (clock':=clock+1) (fun c' w' E=>by have:=Qgr (Zcm (E.ext H.disj) _ _ hkey) (hzr (c':=c') (w':=w')) (MRel.mono (E.ext H.disj) _ _ _ hR);exact⟨by simp_all,by simpa using hcl⟩);refine⟨.tuple #[zv,goInt clock],c',_,?_,E,H',?_⟩;·simp[Instr.mapEntry,run_underlying T.hu,QbY hC,hck,h1,Qdl hC,zeroValue,typeInfo,hi,hz]
    ·simp only[VRel];refine⟨_,rfl,?_⟩;simp only[VRels];exact⟨_,_,rfl,hzr,_,_,rfl,by grind[VRel,goInt],rfl⟩
   grind[HM.run]
 grind[HM.run]
theorem QqZ{s r}(hm:(aEntSt x s v).run h=some (r,h')):r=.any:=by
 unfold aEntSt at hm;split at hm;·grind[Qcz,HM.run]
 grind[HM.run]
theorem QoD{s r}{u cs cv}(H:HRel c h w)(B:VRel c w x u)(C:VRel c w s cs)(F:VRel c w v cv)(hm:(aEntSt x s v).run h=some (r,h')):SoundU P c w (Instr.entryStore t u cs cv) h':=by
 unfold aEntSt at hm;split at hm
 ·rename_i b g M i;obtain⟨es,q,hm⟩:=Qcz hm;simp only[VRel]at B C;obtain⟨L,hp,rfl⟩:=B;subst C;obtain⟨ms,clock,N,y,k,n⟩:=H.atMap q hp;split at hm
  ·rename_i p m;obtain⟨d,hm⟩:=Qa5 hm;simp only[HM.run,Zab,Zal]at hm;obtain⟨rfl,rfl⟩:=hm;obtain⟨e,he,l,I⟩:=QeC i k m;have hlen:=QkQ k;have G:i<ms.size:=by grind
   have o:∀(j:Nat)(z:j<ms.size),ms[j].born=j:=fun j z=>by have:=QfJ j k (e:=ms[j]) (by simp[z]);omega
   have a:ms.findIdx? (fun e=>(e.born:Int)==((i:Nat):Int))=some i:=by grind[Array.findIdx?_eq_some_iff_getElem]
   rw[ZaY]at he;obtain⟨A,E,H'⟩:=H.setMap d q hp (es':=es.set i (p.1,v)) (ms':=ms.modify i fun e=>{e with val:=cv}) (clock':=clock) (fun A K E=>by have :=Qgt (f:=fun e=>{e with val:=cv}) (fun _=>rfl) (p:=(p.1,v)) i (MRel.mono (E.ext H.disj) _ _ _ k) (fun J f=>by rw[ZaY,he]at f;cases f;exact⟨Zcm (E.ext H.disj) _ _ l,Zcm (E.ext H.disj) _ _ F⟩);exact⟨by simp_all,by simpa using n⟩);refine⟨A,_,?_,E,H'⟩;simp[Instr.entryStore,QbY y,asInt,asIntOf,a,Qdl y]
  grind[HM.run]
 grind[HM.run]
def aAppendZ(s:Site)(i:Nat)(sz bytes:Nat)(zero:List AV)(x n:AV):HM AV:=match x,n with|.nilsl,.int .i64 (.ofNat (n+1))=>if(n+1)*bytes<=140737488355328/\n+1<=140737488355328/\0<sz then .new s i (fun g=>.cells g (List.replicate (n+1) zero).flatten) fun b g=>.ret (.sl b g 0 (n+1) sz)else .fail|_,_=>.fail
theorem Qil{e}{i}(m:P.underlying t=some (.slice e))(f:P.underlying t2=some (.int p))(hi:P.info? e=some i)(q:i.zero=some z)(c:i.size≠0)(s:0<n)(u:n*i.bytes<=140737488355328)(k:n<=140737488355328):(Builtin.append_ #[t,t2] ty #[.slice none 0 0,.int .i64 n]).run P w=.ok (.slice (some ⟨w.heap.size,0,none⟩) n (grownCap w n 0 e)) (w.drew.alloc (.cells ((Builtin.zeroCells z.cells n).toList++(Builtin.zeroCells z.cells (grownCap w n 0 e-n)).toList).toArray e)):=by
 have l:¬(n<=0):=by omega
 have d:n≠0:=by omega
 have hw:IntKind.i64.wrap (n:Int)=n:=by rw[<-wr_eq];grind[wr_of,lo,AM.hi]
 have h:¬(n*i.size=0):=by have:=Nat.mul_pos s (Nat.pos_of_ne_zero c);omega
 have o:¬((n:Int)<0):=by omega
 have g:¬(281474976710656<(n:Int)*(i.bytes:Int)):=by omega
 have b:¬(9223372036854775807<(n:Int)):=by omega
 have a:¬(281474976710656<Builtin.nextslicecap n 0*i.bytes):=by simp_all[QiW]
 simp only[Builtin.append_,ZaY,List.getElem?_toArray,Zbi,Zbx,Sem.run_bind,run_underlying m,run_underlying f,Result.andThen_ok,QaN hi,Sem.run_pure];simp[asInt,asIntOf,typeInfo,zeroValue,hi,q,l,hw,o,g,b,a,c,h,Question.forced,newRow,grownCap,Builtin.firstCells];rw[if_neg d];congr 3;simp_all
theorem Qmh{e}{sz bytes}{zero}{n}{m}(H:HRel c h w)(F:VRel c w x B)(C:VRel c w n E)(L:P.underlying t=some (.slice e))(A:P.underlying t2=some (.int M))(hi:P.info? e=some m)(I:m.zero=some z)(p:m.size=sz)(q:m.bytes=bytes)(y:z.cells.size=sz)(hc:cOKs zero z.cells.toList=true)(hm:(aAppendZ s i sz bytes zero x n).run h=some (v,h')):Sound P c w (Builtin.append_ #[t,t2] ty #[B,E]) v h':=by
 subst p;subst q;unfold aAppendZ at hm;split at hm
 ·rename_i n;split at hm;·rename_i a;obtain⟨N,u,O⟩:=a;obtain⟨b,g,f,K,hm⟩:=QdF hm;simp only[HM.run,Zab,Zal]at hm;obtain⟨rfl,rfl⟩:=hm;simp only[VRel]at F C;subst F;subst C;have G:=Qil (P:=P) (w:=w) (ty:=ty) (n:=n+1) L A hi I (by omega) (by omega) N u;have k:VRels c w (List.replicate (n+1) zero).flatten (Builtin.zeroCells z.cells (n+1)).toList:=QcX (c:=c) (w:=w) (Qct _ _ hc) (n+1);have o:=Qij w (need:=n+1) (old:=0) e;obtain⟨J,E',H',V'⟩:=QfI H f K (e:=e) (rest:=(Builtin.zeroCells z.cells (grownCap w (n+1) 0 e-(n+1))).toList) k (len:=n+1) (cap:=grownCap w (n+1) 0 e) (sz:=m.size) o (by have l:=QcQ z.cells (grownCap w (n+1) 0 e-(n+1));have d:=QcQ z.cells (n+1);rw[y]at l d;simp only[Zag,Array.length_toList,l,d];rw[<-ZbP];simp_all);exact⟨_,J,_,G,E',H',V'⟩
  grind[HM.run]
 grind[HM.run]
theorem onesI(b:VRels c w ys us)(f:ys.all AV.one=true):∀u∈us,u.oneCell'=true:=by
 intro u k;have i:=QaE b;obtain⟨j,m,rfl⟩:=Zcd.1 k;obtain⟨n,d,b⟩:=QcE j b (Zak (by omega:j<ys.length));rw[Zak m]at d;cases d;have h1:(ys[j]).one=true:=by simp_all
 have o:=Qdk (x:=ys[j]) b (by cases h:ys[j]<;>simp_all[AV.one,AV.cells]);have:(us[j]).cells=#[us[j]]\/∃a,us[j]=.agg a:=by cases us[j]<;>simp[Value.cells]
 rcases this with g|⟨a,g⟩;·simp_all
 rw[g]at b;exfalso;cases h:ys[j]<;>rw[h]at b h1<;>simp[AV.one]at h1<;>simp[VRel]at b;rcases b.1 with⟨_,_,_,l,_⟩|⟨_,_,_,_,l,_⟩<;>simp_all
def aClear(sz:Nat)(zero:List AV)(x:AV):HM AV:=match x with
 |.nilsl|.esl|.nsl=>.ret .any|.sl b g off len s=>match len with|0=>.ret .any|len+1=>if s=sz then .cells b g fun cs=>if off+(len+1)*sz<=cs.length/\zero.length=sz/\zero.all AV.one=true then .put b (.cells g (putR cs off (List.replicate (len+1) zero).flatten)) (.ret .any)else .fail else .fail
 |.typed _ (_+1) (.sl b g off (len+1) s)=>if s=sz then .cells b g fun cs=>if off+(len+1)*sz<=cs.length/\zero.length=sz/\zero.all AV.one=true then .put b (.cells g (putR cs off (List.replicate (len+1) zero).flatten)) (.ret .any)else .fail else .fail|_=>.fail
theorem QkR{zero}(h:zero.all AV.one=true):∀n:Nat,((List.replicate n zero).flatten).all AV.one=true|0=>rfl|n+1=>by simp_all
theorem QoE{e}{sz}{zero}(H:HRel c h w)(l:VRel c w x K)(u:P.underlying t=some (.slice e))(hi:P.info? e=some J)(T:J.zero=some z)(Q:z.cells.size=sz)(hc:cOKs zero z.cells.toList=true)(hm:(aClear sz zero x).run h=some (v,h')):Sound P c w (Builtin.clear_ #[t] ty #[K]) v h':=by
 unfold aClear at hm;split at hm;·simp only[HM.run,Zab,Zal]at hm;obtain⟨rfl,rfl⟩:=hm;simp only[VRel]at l;subst l;exact .here H (cv:=.tuple #[]) (by simp[Builtin.clear_,run_underlying u]) (by simp[VRel])
 ·simp only[HM.run,Zab,Zal]at hm;obtain⟨rfl,rfl⟩:=hm;simp only[VRel]at l;obtain⟨a,rfl⟩:=l;exact .here H (cv:=.tuple #[]) (by cases a<;>simp[Builtin.clear_,run_underlying u]) (by simp[VRel])
 ·simp only[HM.run,Zab,Zal]at hm;obtain⟨rfl,rfl⟩:=hm;simp only[VRel]at l;obtain⟨a,k,rfl⟩:=l;exact .here H (cv:=.tuple #[]) (by simp[Builtin.clear_,run_underlying u]) (by simp[VRel])
 ·rename_i b g off len s;split at hm
  ·simp only[HM.run,Zab,Zal]at hm;obtain⟨rfl,rfl⟩:=hm;simp only[VRel]at l;rcases l with⟨_,_,_,rfl⟩|⟨M,base,o,cap,C,q,L,hp,rfl,_⟩;·exact .here H (cv:=.tuple #[]) (by simp[Builtin.clear_,run_underlying u]) (by simp[VRel])
   exact .here H (cv:=.tuple #[]) (by simp[Builtin.clear_,run_underlying u]) (by simp[VRel])
  rename_i len;split at hm
  ·rename_i A;subst A;obtain⟨cs,I,hm⟩:=Qbm hm;split at hm
   ·rename_i i;obtain⟨N,p,n⟩:=i;obtain⟨m,hm⟩:=Qa5 hm;simp only[HM.run,Zab,Zal]at hm;obtain⟨rfl,rfl⟩:=hm;simp only[VRel]at l;exact b7EYW
   grind[HM.run]
  grind[HM.run]
 ·rename_i b g off len s;split at hm
  ·rename_i A;subst A;obtain⟨cs,I,hm⟩:=Qbm hm;split at hm
   ·rename_i i;obtain⟨N,p,n⟩:=i;obtain⟨m,hm⟩:=Qa5 hm;simp only[HM.run,Zab,Zal]at hm;obtain⟨rfl,rfl⟩:=hm;simp only[VRel]at l;replace l:=l.2;exact b7EYW
   grind[HM.run]
  grind[HM.run]
 grind[HM.run]
end Go.AM
namespace Go.AM
variable{P:Program}{ok:Okc}{c:Ctx ok}{w:World}{h:Heap}
variable{v:AV}{f:AV->HM AV}{a:Act}{args:Array Value}{cl:Call}{m:HM AV}{h':Heap}{B:List Nat}{b i:Nat}{place:Nat->Option (Nat×Nat)}{o:Option AV}{y:Option Opd}{x:Option Operand}{s:Sem Value}{T:Tmps}{t ty:TypeId}{k:TypeInfo->Value->Bool}
inductive AOut where|val(v:AV)|call(m:CallM)(f:Nat)(args:List AV)|round(b g:Nat)(args:List AV)
def mapH(f:AV->HM AV):List AV->HM (List AV)|[]=>.ret []|x::xs=>(f x).bind fun y=>(mapH f xs).bind fun a=>.ret (y::a)
def frzH:Nat->AV->HM AV|0,v=>.ret v|d+1,v=>match v with|.sl b g off len sz=>.cells b g fun cs=>if off+len*sz<=cs.length then(mapH (frzH d) ((cs.drop off).take (len*sz))).bind fun a=>.ret (.fsl a len sz)else .fail|.ptr b g off=>.cells b g fun cs=>(mapH (frzH d) (cs.drop off)).bind fun a=>.ret (.fptr a)|.agg cs=>(mapH (frzH d) cs).bind fun a=>.ret (.agg a)|.tup cs=>(mapH (frzH d) cs).bind fun a=>.ret (.tup a)|v=>.ret v
mutual def noRef:AV->Bool|.ptr ..|.sl ..|.map ..|.yld ..|.typed ..=>false|.agg cs|.tup cs|.fptr cs|.fsl cs _ _=>noRefs cs|.fmap ks vs=>noRefs ks&&noRefs vs|.fn _ x y=>noRefs x&&noRefs y|.ifc _ v=>noRef v|.any|.bool _|.int _ _|.str _|.nilptr|.nilsl|.esl|.nsl|.nilmap|.nilfn|.nilif=>true termination_by structural x=>x def noRefs:List AV->Bool|[]=>true|x::xs=>noRef x&&noRefs xs termination_by structural x=>x end
def hasB:List Nat->Nat->Bool|[],_=>false|x::xs,b=>bif Nat.beq x b then true else hasB xs b
theorem QdI:hasB B b=true↔b∈B:=by induction B with|nil=>simp[hasB]|cons x xs a=>
 simp only[hasB];by_cases e:x=b;·subst e;simp
 have :Nat.beq x b=false:=by simp_all[ZaI]
 grind
mutual def inB(B:List Nat):AV->Bool|.ptr b _ _=>hasB B b|.sl b _ _ _ _=>hasB B b|.map b _=>hasB B b|.yld b _=>hasB B b|.agg cs|.tup cs|.fptr cs|.fsl cs _ _=>inBs B cs|.fmap ks vs=>inBs B ks&&inBs B vs|.fn _ x y=>inBs B x&&inBs B y|.ifc _ v=>inB B v|.typed _ _ v=>inB B v|.any|.bool _|.int _ _|.str _|.nilptr|.nilsl|.esl|.nsl|.nilmap|.nilfn|.nilif=>true termination_by structural x=>x def inBs(B:List Nat):List AV->Bool|[]=>true|x::xs=>inB B x&&inBs B xs termination_by structural x=>x end
def inBe(B:List Nat):List (AV×AV)->Bool|[]=>true|p::r=>inB B p.1&&inB B p.2&&inBe B r
mutual def flatV:AV->Bool|.ptr ..|.sl ..|.map ..|.yld ..|.fptr _|.fsl ..|.fmap ..|.typed ..=>false|.agg cs|.tup cs=>flatVs cs|.fn _ x y=>flatVs x&&flatVs y|.ifc _ v=>flatV v|.any|.bool _|.int _ _|.str _|.nilptr|.nilsl|.esl|.nsl|.nilmap|.nilfn|.nilif=>true termination_by structural x=>x def flatVs:List AV->Bool|[]=>true|x::xs=>flatV x&&flatVs xs termination_by structural x=>x end
def lift(r:Option AV):HM AOut:=match r with|some v=>.ret (.val v)|none=>.fail
def hval(m:HM AV):HM AOut:=m.bind fun v=>.ret (.val v)
def aPick(c a b:AV):Option AV:=match c with|.bool t=>some (if t then a else b)|_=>none
def aNil(x:AV):Option AV:=match x with|.ptr ..|.fptr _|.fn ..|.ifc ..|.typed ..=>some x|_=>none
def aSliceC(sz:Option Nat)(x:AV)(l h m:Option AV):Option AV:=match sz,x with|some n,.sl _ _ _ _ s=>if s=n then aSlice x l h m else none|some n,.fsl _ _ s=>if s=n then aSlice x l h m else none|some _,.nilsl=>aSlice x l h m|some _,.esl=>aSlice x l h m|none,.str _=>aSlice x l h m|_,_=>none
def aLenC(k:Nat)(x:AV):HM AV:=if lenKind x=k then aLen x else .fail
def evs(T:Tmps)(xs:List Opd):List AV:=xs.map (ev T)
def evParts(T:Tmps)(xs:List (Nat×Nat×Opd)):List (Nat×Nat×AV):=xs.map fun p=>(p.1,p.2.1,ev T p.2.2)
def evo(T:Tmps)(x:Option Opd):Option AV:=x.map (ev T)
def aCall(m:CallM)(x:AV)(args:List AV):HM AOut:=match x with
 |.fn f first captured=>match m with|.borrow=>(mapH (frzH 4) (first++args++captured)).bind fun a=>.ret (.call .borrow f a)|m=>.ret (.call m f (first++args++captured))
 |.yld b g=>match m with|.heap=>.ret (.round b g args)|_=>.fail
 |_=>.fail
def aop(i:Nat)(T:Tmps):SOp->HM AOut|.mov x=>.ret (.val (ev T x))|.pick c a b=>lift (aPick (ev T c) (ev T a) (ev T b))|.alloc s z=>hval (aBox s i z)|.allocT t s z=>hval (aBoxT t s i z)|.box s x=>hval (aBox s i (ev T x))|.build zero parts=>lift (aBuild zero (evParts T parts))|.bslice fz s sz len zero parts=>hval (aBuildSlice fz s i sz len zero (evParts T parts))|.load n x=>hval (aLoad n (ev T x))|.store n x v=>hval (aStore n (ev T x) (ev T v))|.nilchk x=>lift (aNil (ev T x))|.bin op x y=>lift (aBin op (ev T x) (ev T y))|.eq k neg x y=>lift (aEq k neg (ev T x) (ev T y))|.eqn neg x=>hval (aEqN neg (ev T x))|.cap x=>lift (aCap (ev T x))|.ment row ks zero x k=>hval (aMapEnt row ks zero (ev T x) (ev T k))|.estore x s v=>hval (aEntSt (ev T x) (ev T s) (ev T v))|.clear sz _ zero x=>hval (aClear sz zero (ev T x))|.appendZ s sz bytes zero x n=>hval (aAppendZ s i sz bytes zero (ev T x) (ev T n))|.eqp neg x y=>lift (aEqP neg (ev T x) (ev T y))|.convP t n x=>lift (aConvP t n (ev T x))|.usd x=>lift (aUsd (ev T x))|.ustr t x n=>hval (aUstr t (ev T x) (ev T n))|.un op x=>lift (aUn op (ev T x))|.conv k x=>lift (aConv k (ev T x))|.convS x=>lift (aConvS (ev T x))|.convB x=>hval (aConvB (ev T x))|.ext k _ args=>lift (aExt k (evs T args))|.mkfn f xs d=>.ret (.val (.fn f (evs T xs) (evs T d)))|.mkmap s=>hval (aMakeMap s i)|.mkslice s sz bytes zero l c=>hval (aMakeSlice s i sz bytes zero (ev T l) (ev T c))|.slice sz x l h m=>lift (aSliceC sz (ev T x) (evo T l) (evo T h) (evo T m))|.sliceK sz x l h=>lift (aSliceK sz (ev T x) (evo T l) (evo T h))|.faddr off x=>lift (aFAddr off (ev T x))|.field n off x=>lift (aField n off (ev T x))|.iaddr arr sz x j=>lift (aIAddr arr sz (ev T x) (ev T j))|.index arr x j=>lift (aIndex arr (ev T x) (ev T j))|.lookup row ks zero ok x k=>hval (aLookup row ks zero ok (ev T x) (ev T k))|.mupd row ks x k v=>hval (aMapUpd row ks (ev T x) (ev T k) (ev T v))|.extract j x=>lift (aExtract j (ev T x))|.len k x=>hval (aLenC k (ev T x))|.append s sz bytes x y=>hval (aAppend s i sz bytes (ev T x) (ev T y))|.appendT t s sz bytes x y=>hval (aAppendT t s i sz bytes (ev T x) (ev T y))|.copy sz x y=>hval (aCopy sz (ev T x) (ev T y))|.maxmin mn xs=>lift (aMax mn (evs T xs))|.call m x args=>aCall m (ev T x) (evs T args)|.bad=>.fail
def okOpd:Operand->Opd->Bool|.tmp t,.t i=>t==i|.const v,.c x=>cOK x v|.func f,.f n=>f==n|.global g,.g n=>g==n|_,_=>false
def okOpds:List Operand->List Opd->Bool|[],[]=>true|x::xs,y::a=>okOpd x y&&okOpds xs a|_,_=>false
def okOpdo:Option Operand->Option Opd->Bool|none,none=>true|some x,some y=>okOpd x y|_,_=>false
def okParts(place:Nat->Option (Nat×Nat)):List (Nat×Operand)->List (Nat×Nat×Opd)->Bool|[],[]=>true|(i,x)::xs,(off,size,y)::a=>(match place i with|some (o,s)=>o==off&&s==size|none=>false)&&okOpd x y&&okParts place xs a|_,_=>false
def LK.same:LK->LK->Bool|.b,.b|.i,.i|.s,.s=>true|_,_=>false
variable{ks:List LK}
def LK.sames:List LK->List LK->Bool|[],[]=>true|x::xs,y::a=>x.same y&&LK.sames xs a|_,_=>false
def mapTB(P:Program)(t:TypeId)(row:Bool)(ks:List LK):Bool:=match P.underlying t with|some (.map b _)=>rowB P b==row&&(match flatK P 40 b with|some a=>LK.sames ks a|none=>false)|_=>false
def mapElemZero(P:Program)(t:TypeId)(zero:AV):Bool:=match P.underlying t with|some (.map _ a)=>(match zeroOf P a with|some b=>cOK zero b|none=>false)|_=>false
def buildTB(P:Program)(t:TypeId):Bool:=match P.underlying t with|some (.array _ e)=>(P.info? e).isSome|some (.struct fields)=>(fields.toList.mapM (fun f=>(P.info? f.type).map fun i=>(f.offset,i.size))).isSome|_=>false
def elemTB(P:Program)(t:TypeId)(sz bytes:Nat)(k:TypeInfo->Value->Bool):Bool:=match P.underlying t with|some (.slice e)=>(match P.info? e with|some a=>a.size==sz&&a.bytes==bytes&&(match a.zero with|some z=>k a z|none=>false)|none=>false)|_=>false
def notInt(P:Program)(t:TypeId):Bool:=match P.underlying t with|some (.int _)|none=>false|_=>true
def isConstO:Operand->Bool|.const _=>true|_=>false
def okCall(P:Program)(c:Call)(s:SOp):Bool:=match c.callee,s with|.value f,.call _ x args=>okOpd f x&&okOpds c.args.toList args|.builtin .len,.len k x=>(match c.args.toList,c.argTypes.toList with|[y],[t]=>okOpd y x&&lenT P t k|_,_=>false)|.builtin .cap,.cap x=>(match c.args.toList,c.argTypes.toList with|[y],[t]=>okOpd y x&&capT P t|_,_=>false)|.builtin .append,.append _ sz bytes x y=>(match c.args.toList,c.argTypes.toList with|[a,b],[t,d]=>okOpd a x&&okOpd b y&&notInt P d&&elemTB P t sz bytes (fun h z=>z.cells.size==sz)|_,_=>false)|.builtin .append,.appendT e _ sz bytes x y=>(match c.args.toList,c.argTypes.toList with|[a,b],[t,d]=>okOpd a x&&okOpd b y&&notInt P d&&elemTB P t sz bytes (fun h z=>z.cells.size==sz)&&(match P.underlying t with|some (.slice i)=>i==e|_=>false)|_,_=>false)|.builtin .append,.appendZ _ sz bytes zero x y=>(match c.args.toList,c.argTypes.toList with|[a,b],[t,d]=>okOpd a x&&okOpd b y&&(match P.underlying d with|some (.int _)=>true|_=>false)&&elemTB P t sz bytes (fun h z=>z.cells.size==sz&&cOKs zero z.cells.toList)|_,_=>false)|.builtin .clear,.clear sz bytes zero x=>(match c.args.toList,c.argTypes.toList with|[a],[t]=>okOpd a x&&elemTB P t sz bytes (fun h z=>z.cells.size==sz&&cOKs zero z.cells.toList)|_,_=>false)|.builtin .unsafeSliceData,.usd x=>(match c.args.toList with|[y]=>okOpd y x|_=>false)|.builtin .unsafeString,.ustr t x n=>(match c.args.toList,c.argTypes.toList with|[a,m],[l,_]=>okOpd a x&&okOpd m n&&ustrT P l t|_,_=>false)|.builtin .copy,.copy sz x y=>(match c.args.toList,c.argTypes.toList with|[a,b],[t,_]=>okOpd a x&&okOpd b y&&(match P.underlying t with|some (.slice e)=>(match P.info? e with|some h=>h.size==sz|none=>false)|_=>false)|_,_=>false)|.builtin .max,.maxmin false xs=>okOpds c.args.toList xs|.builtin .min,.maxmin true xs=>okOpds c.args.toList xs|.value (.func g),.ext k f xs=>g==f&&extFn P f k&&okOpds c.args.toList xs|_,_=>false
def okOp(P:Program)(o:Op)(s:SOp):Bool:=match o,s with|.move x,.mov y=>okOpd x y|.assign x,.mov y=>okOpd x y|.pick c a b,.pick E L M=>okOpd c E&&okOpd a L&&okOpd b M|.alloc t,.alloc _ z=>(match zeroOf P t with|some A=>cOK z A|none=>false)|.alloc t,.allocT R _ z=>t==R&&(match zeroOf P t with|some A=>cOK z A|none=>false)|.box _ x,.box _ y=>okOpd x y|.build t parts,.build zero I=>(match zeroOf P t with|some A=>cOKs zero A.cells.toList|none=>false)&&buildTB P t&&okParts (placeOf P t) parts.toList I|.buildSlice t len parts,.bslice _ _ sz B zero I=>len==B&&decide (len*sz<=16777216)&&(match P.underlying t with|some (.slice e)=>(match P.info? e with|some F=>F.size==sz&&(match F.zero with|some z=>cOKs zero (zeroRow z.cells (len*sz)).toList|none=>false)|none=>false)|_=>false)&&okParts (fun i=>some (i*sz,sz)) parts.toList I|.load t x,.load n y=>rowT P t n&&okOpd x y|.store t x v,.store n d u=>(match P.info? t with|some i=>i.size==n|none=>false)&&okOpd x d&&okOpd v u|.nilCheck x,.nilchk y=>okOpd x y|.binOp op _ x y _,.bin q d w=>op==q&&okOpd x d&&okOpd y w|.binOp op t x y _,.eq k neg d w=>op==(if neg then .neq else .eql)&&eqT P t k&&okOpd x d&&okOpd y w&&(match k with|.nil _=>isConstO y|_=>true)|.binOp op t x y _,.eqn neg d=>op==(if neg then .neq else .eql)&&eqT P t (.nil 2)&&okOpd x d&&isConstO y&&okOpd y (.c .nilsl)|.binOp op t x y _,.eqp neg d w=>op==(if neg then .neq else .eql)&&eqPT P t&&okOpd x d&&okOpd y w|.unOp op _ x,.un q y=>op==q&&okOpd x y|.convert src dst x,.conv k y=>convT P src dst k&&okOpd x y|.convert src dst x,.convS y=>convST P src dst&&okOpd x y|.convert src dst x,.convB y=>convBT P src dst&&okOpd x y|.convert src dst x,.convP t n y=>convPT P src dst t n&&okOpd x y|.makeFunc (.func f) first captured,.mkfn K xs Q=>f==K&&okOpds first.toList xs&&okOpds captured.toList Q|.makeMap _ none,.mkmap _=>true|.makeSlice t l c,.mkslice _ sz bytes zero C E=>okOpd l C&&okOpd c E&&elemTB P t sz bytes (fun F z=>z.cells.size==sz&&cOKs zero z.cells.toList)|.slice t x l h m,.slice sz d C G g=>sliceT P t sz&&okOpd x d&&okOpdo l C&&okOpdo h G&&okOpdo m g|.slice t x l h none,.sliceK sz d C G=>sliceT P t (some sz)&&okOpd x d&&okOpdo l C&&okOpdo h G|.fieldAddr s x f,.faddr off y=>faddrT P s f off&&okOpd x y|.field s x f,.field n off y=>fieldT P s f off n&&okOpd x y|.indexAddr t x i,.iaddr arr sz d J=>iaddrT P t arr sz&&okOpd x d&&okOpd i J|.index t x i,.index arr d J=>indexT P t arr&&okOpd x d&&okOpd i J|.lookup t x k ok,.lookup row ks zero H d p=>mapTB P t row ks&&mapElemZero P t zero&&ok==H&&okOpd x d&&okOpd k p|.mapEntry t m k,.ment row ks zero g p=>mapTB P t row ks&&mapElemZero P t zero&&okOpd m g&&okOpd k p|.entryStore _ m s v,.estore g O u=>okOpd m g&&okOpd s O&&okOpd v u|.mapUpdate t m k v,.mupd row ks g p u=>mapTB P t row ks&&okOpd m g&&okOpd k p&&okOpd v u|.insert t m k v,.mupd row ks g p u=>mapTB P t row ks&&okOpd m g&&okOpd k p&&okOpd v u|.extract x i,.extract j y=>i==j&&okOpd x y|_,.bad=>true|.call N,s=>okCall P N s|_,_=>false
theorem run_bind{α β}{m:HM α}{f}{r:β×Heap}(hm:(m.bind f).run h=some r):∃a h1,m.run h=some (a,h1)/\(f a).run h1=some r:=by induction m generalizing h with|ret a=>exact⟨a,h,rfl,hm⟩|fail=>simp[HM.bind,HM.run]at hm|look b k c=>simp only[HM.bind,HM.run]at hm;obtain⟨a,h1,g,d⟩:=c _ hm;exact⟨a,h1,by grind[HM.run],d⟩|put b x k c=>
 simp only[HM.bind]at hm;obtain⟨i,hm⟩:=Qa5 hm;obtain⟨a,h1,g,d⟩:=c hm;refine⟨a,h1,?_,d⟩;simp only[HM.run];have:Nat.blt b lim=true:=by simp_all
 rw[this];exact g
theorem QaU{r}(hm:(hval m).run h=some r):∃v h1,m.run h=some (v,h1)/\r=(.val v,h1):=by obtain⟨v,h1,a,b⟩:=run_bind hm;grind[HM.run]
theorem QaZ{r}(hm:(lift o).run h=some r):∃v,o=some v/\r=(.val v,h):=by unfold lift at hm;cases o with|none=>simp[HM.run]at hm|some v=>simp only[HM.run,Zab]at hm;exact⟨v,rfl,hm.symm⟩
def lent(c:Ctx ok):Ctx ok:={c with F:=fun k=>c.F k\/c.O k,O:=fun _=>False}
theorem Qim(c:Ctx ok)(w):Ext c w (lent c) w:=⟨fun _ _ _ h=>h,fun _ h=>.inl h,fun _ _ _ h=>h,fun _ C _ a h=>⟨C,a,h,rfl⟩⟩
theorem Qdm(hf:∀(x y:AV)(v:Value)(h':Heap),VRel c w x v->(f x).run h=some (y,h')->h'=h/\VRel (lent c) w y v):∀(xs ys:List AV)(vs:List Value)(h':Heap),VRels c w xs vs->(mapH f xs).run h=some (ys,h')->h'=h/\VRels (lent c) w ys vs|[],ys,vs,h',d,hm=>by simp only[mapH,HM.run,Zab,Zal]at hm;obtain⟨rfl,rfl⟩:=hm;simp_all[VRels]|x::xs,ys,vs,h',d,hm=>by simp only[mapH]at hm;obtain⟨y,h1,o,m⟩:=run_bind hm;obtain⟨a,p,i,g⟩:=run_bind m;simp only[VRels]at d;obtain⟨v,b,rfl,k,n⟩:=d;obtain⟨l,q⟩:=hf x y v h1 k o;rw[l]at i;obtain⟨s,t⟩:=Qdm hf xs a b p n i;simp only[HM.run,Zab,Zal]at g;obtain⟨rfl,rfl⟩:=g;simp only[VRels];grind
theorem QeD(hf:∀(x y:AV)(v:Value)(h':Heap),VRel c w x v->(f x).run h=some (y,h')->h'=h/\VRel (lent c) w y v):∀(xs ys:List AV)(vs:List Value)(h':Heap),VPre c w xs vs->(mapH f xs).run h=some (ys,h')->h'=h/\VPre (lent c) w ys vs|[],ys,vs,h',d,hm=>by simp only[mapH,HM.run,Zab,Zal]at hm;obtain⟨rfl,rfl⟩:=hm;simp[VPre]|x::xs,ys,vs,h',d,hm=>by simp only[mapH]at hm;obtain⟨y,h1,o,m⟩:=run_bind hm;obtain⟨a,p,i,g⟩:=run_bind m;simp only[VPre]at d;obtain⟨v,b,rfl,k,n⟩:=d;obtain⟨l,q⟩:=hf x y v h1 k o;rw[l]at i;obtain⟨s,t⟩:=QeD hf xs a b p n i;simp only[HM.run,Zab,Zal]at g;obtain⟨rfl,rfl⟩:=g;simp only[VPre];grind
theorem QhG:∀(xs ys:List AV)(h h':Heap),(mapH f xs).run h=some (ys,h')->ys.length=xs.length|[],ys,h,h',hm=>by simp only[mapH,HM.run,Zab,Zal]at hm;simp_all|x::xs,ys,h,h',hm=>by simp only[mapH]at hm;obtain⟨y,h1,i,c⟩:=run_bind hm;obtain⟨a,g,d,b⟩:=run_bind c;simp only[HM.run,Zab,Zal]at b;obtain⟨rfl,rfl⟩:=b;simp[QhG xs a _ _ d]
theorem Qe4(H:HRel c h w):∀(d:Nat)(x y:AV)(v:Value)(h':Heap),VRel c w x v->(frzH d x).run h=some (y,h')->h'=h/\VRel (lent c) w y v
 |0,x,y,v,h',a,hm=>by simp only[frzH,HM.run,Zab,Zal]at hm;obtain⟨rfl,rfl⟩:=hm;exact⟨rfl,Zcm (Qim c w) _ _ a⟩|d+1,x,y,v,h',a,hm=>by
  have p:=Qe4 H d;have same:(HM.ret x).run h=some (y,h')->h'=h/\VRel (lent c) w y v:=by intro hm;simp only[HM.run,Zab,Zal]at hm;obtain⟨rfl,rfl⟩:=hm;exact⟨rfl,Zcm (Qim c w) _ _ a⟩
  cases x<;>simp only[frzH]at hm<;>try(exact same hm)
  case sl b g off len sz=>
   obtain⟨cs,G,hm⟩:=Qbm hm;split at hm
   ·rename_i O;obtain⟨k,h1,n,l⟩:=run_bind hm;simp only[HM.run,Zab,Zal]at l;obtain⟨rfl,rfl⟩:=l;have hlen:=QhG _ _ _ _ n;simp only[VRel]at a;rcases a with⟨hp,rfl,rfl,rfl⟩|⟨I,base,o,cap,C,e,E,hp,rfl,B,u,t⟩
    ·have f:k=[]:=by simp_all
     subst f;obtain⟨rfl,_⟩:=QeD p _ _ [] _ (by simp[VPre]) n;exact⟨rfl,by simp_all[VRel]⟩
    obtain⟨C',P,K,J,q,F,z,m⟩:=H.here G hp;rw[u]at q;cases q;by_cases N:cap=0
    ·have A:len=0:=by omega
     subst A;have f:k=[]:=by simp_all
     subst f;obtain⟨rfl,_⟩:=QeD p _ _ [] _ (by simp[VPre]) n;refine⟨rfl,?_⟩;simp only[VRel];simp_all
    obtain⟨rfl,L⟩:=t.resolve_left N;have i:=Qco (len*sz) (Qbn off m);rw[Za1]at i;obtain⟨rfl,s⟩:=QeD p _ _ _ _ i n;refine⟨rfl,?_⟩;simp only[VRel];exact .inr ⟨I,base+off,cap,C,e,E,rfl,B,by grind,.inr J,u,s⟩
   grind[HM.run]
  case ptr b g off=>obtain⟨cs,G,hm⟩:=Qbm hm;obtain⟨k,h1,n,l⟩:=run_bind hm;simp only[HM.run,Zab,Zal]at l;obtain⟨rfl,rfl⟩:=l;simp only[VRel]at a;obtain⟨I,base,hp,rfl⟩:=a;obtain⟨C,e,E,J,u,F,z,m⟩:=H.here G hp;have i:=Qbn off m;rw[Za1]at i;obtain⟨rfl,s⟩:=QeD p _ _ _ _ i n;refine⟨rfl,?_⟩;simp only[VRel];exact⟨I,base+off,C,e,E,rfl,.inr J,u,s⟩
  case agg cs=>obtain⟨k,h1,n,l⟩:=run_bind hm;simp only[HM.run,Zab,Zal]at l;obtain⟨rfl,rfl⟩:=l;simp only[VRel]at a;obtain⟨M,rfl,a⟩:=a;obtain⟨rfl,s⟩:=Qdm p _ _ _ _ a n;exact⟨rfl,by simp only[VRel];simp_all⟩
  case tup cs=>obtain⟨k,h1,n,l⟩:=run_bind hm;simp only[HM.run,Zab,Zal]at l;obtain⟨rfl,rfl⟩:=l;simp only[VRel]at a;obtain⟨M,rfl,a⟩:=a;obtain⟨rfl,s⟩:=Qdm p _ _ _ _ a n;exact⟨rfl,by simp only[VRel];simp_all⟩
def TRel(c:Ctx ok)(w:World)(T:Tmps)(a:Act):Prop:=∀i,VRel c w (lk T i) (a.tmps.getD i undef)
theorem Qau(d:TRel c w T a){x}{y}(b:okOpd x y=true):VRel c w (ev T y) (a.eval x):=by
 cases x<;>cases y<;>simp only[okOpd,Zat,beq_iff_eq]at b;·subst b;exact d _
 ·exact Qer _ _ b
 ·simp[ev,VRel]
 subst b;simp only[ev,VRel,Act.eval];exact⟨#[],#[],rfl,by simp[VRels],by simp[VRels]⟩
theorem Qcv(d:TRel c w T a):∀{xs:List Operand}{ys:List Opd},okOpds xs ys=true->VRels c w (evs T ys) (xs.map a.eval)|[],[],_=>by simp[evs,VRels]|[],_::_,b=>by simp[okOpds]at b|_::_,[],b=>by simp[okOpds]at b|x::xs,y::ys,b=>by simp only[okOpds,Zac]at b;simp only[evs,ZaL,VRels];exact⟨_,_,rfl,Qau d b.1,Qcv d b.2⟩
theorem Qdn(d:TRel c w T a)(b:okOpdo x y=true):ORel c w (evo T y) (x.map a.eval):=by
 cases x<;>cases y<;>simp only[okOpdo,Zat]at b;·simp[evo,ORel]
 exact Qau d b
theorem Qfh(d:TRel c w T a):∀{xs:List (Nat×Operand)}{ys:List (Nat×Nat×Opd)},okParts place xs ys=true->PartsRel c w place (evParts T ys) (xs.map fun p=>(p.1,a.eval p.2))|[],[],_=>by simp[evParts,PartsRel]|[],_::_,b=>by simp[okParts]at b|_::_,[],b=>by simp[okParts]at b|(i,x)::xs,(off,size,y)::ys,b=>by simp only[okParts,Zac]at b;obtain⟨⟨h1,g⟩,f⟩:=b;simp only[evParts,ZaL,PartsRel];refine⟨_,_,_,rfl,?_,Qau d g,Qfh d f⟩;grind
def Callable(P:Program)(f:Nat):Prop:=∃fn,P.funcs[f]?=some fn/\fn.body.isSome=true/\(fn.name== "runtime.NumGoroutine")=false
def Done(P:Program)(c:Ctx ok)(h:Heap)(w:World)(s:Sem Next):AOut->Heap->Prop|.val v,d=>∃k n l i,s.run P w=.ok k i/\(k=.value n\/k=.skip/\n=undef)/\Evo c w l i/\HRel l d i/\VRel l i v n|.call m f args,d=>d=h/\∃a:Array Value,(Callable P f->s.run P w=.ok (.enter f a) w)/\(m≠.borrow->VRels c w args a.toList)/\(m=.borrow->VRels (lent c) w args a.toList)|.round b g args,d=>d=h/\∃(o:Nat)(a:Array Value),c.ρ b g=some (.loc o 0)/\VRels c w args a.toList/\s.run P w=(Instr.yield o a).run P w
theorem Done.ofSound(d:Sound P c w s v h'):Done P c h w (do pure (.value (<-s))) (.val v) h':=by obtain⟨a,f,k,h1,i,b,g⟩:=d;exact⟨.value a,a,f,k,by simp[h1],.inl rfl,i,b,g⟩
theorem Done.ofPure(H:HRel c h w)(a:Pure P c w s v):Done P c h w (do pure (.value (<-s))) (.val v) h:=.ofSound (a.sound H)
theorem Done.ofU{s}(i:SoundU P c w s h')(d:v=.any):Done P c h w (do s;pure .skip) (.val v) h':=by obtain⟨b,f,h1,a,g⟩:=i;subst d;exact⟨.skip,undef,b,f,by simp[h1],.inr ⟨rfl,rfl⟩,a,g,by simp[VRel]⟩
theorem Qur{k a}(b:LK.same k a=true):k=a:=by cases k<;>cases a<;>simp[LK.same]at b<;>rfl
theorem Qmu:∀{ks ks':List LK},LK.sames ks ks'=true->ks=ks'|[],[],_=>rfl|[],_::_,hh=>by simp[LK.sames]at hh|_::_,[],hh=>by simp[LK.sames]at hh|k::ks,k'::ks',hh=>by simp only[LK.sames,Zac]at hh;rw[Qur hh.1,Qmu hh.2]
theorem QfK{row}(a:mapTB P t row ks=true):∃c b,MapT P t row ks c b:=by
 unfold mapTB at a;split at a
 ·rename_i c b g;simp only[Zac,beq_iff_eq]at a;obtain⟨h1,d⟩:=a;split at d;·rename_i f h;exact⟨c,b,g,by rw[h,Qmu d],h1⟩
  cases d
 cases a
theorem Qd2{a}(b:zeroOf P t=some a):∃i,P.info? t=some i/\i.zero=some a:=by unfold zeroOf at b;cases hi:P.info? t with|none=>simp[hi]at b|some i=>exact⟨i,rfl,by simp_all⟩
theorem Qd6{sz bytes}(b:elemTB P t sz bytes k=true):∃e a z,P.underlying t=some (.slice e)/\P.info? e=some a/\a.size=sz/\a.bytes=bytes/\a.zero=some z/\k a z=true:=by grind[elemTB]
theorem Qq0{x:AV}{a:Value}(b:VRel c w x a)(hm:aNil x=some v):(match a with
 |.pointer none|.nilIface|.nilFunc=>(runtimePanic .nilDeref:Sem Next)|.func (.method name) first captured=>
  match(first[0]?:Option Value)with|some .nilIface=>runtimePanic .nilDeref|some (.iface t w)=>do
   if(<-nilAhead ((<-program).types.size+Made.depth) t w name)!=some false then unsupported (.noEntry "op/nilCheck.the method's receiver behind this interface value is a nil pointer, or cannot be seen to be none, and the arguments act or may panic (ledger 612)")
   pure (.value (.func (.method name) first captured))|_=>pure (.value (.func (.method name) first captured))
 |x=>pure (.value x))=pure (.value a)/\v=x:=by
 unfold aNil at hm;split at hm<;>first|(cases hm;done)|(cases hm;simp only[VRel]at b)
 ·grind
 ·grind
 ·grind
 ·grind
 rcases b.1 with⟨_,_,_,h1|⟨_,_,_,h1⟩,_⟩|⟨_,_,_,_,h1,_⟩<;>(subst h1;exact⟨rfl,rfl⟩)
theorem Qgu{f}(hc:Callable P f)(w):(callFunc f args).run P w=.ok (.enter f args) w:=by
 obtain⟨fn,h1,c,b⟩:=hc;have a:fn.body.isNone=false:=by simp_all
 simp only[callFunc,Sem.run_bind,run_program,Result.andThen_ok,h1,b,a,Zat,if_false,Sem.run_pure]
theorem QoF{x}{args}{s}{a}{m}{out}(H:HRel c h w)(l:VRel c w x s)(z:VRels c w args a.toList)(hm:(aCall m x args).run h=some (out,h')):Done P c h w (do let d<-Deferred.ofValue s a;invoke d.target d.args) out h':=by
 cases x<;>simp only[aCall]at hm<;>try(cases hm;done)
 rotate_left;·rename_i b g;simp only[VRel]at l;obtain⟨A,h1,rfl⟩:=l;cases m<;>simp only[HM.run,Zab,Zal,reduceCtorEq]at hm;obtain⟨rfl,rfl⟩:=hm;exact⟨rfl,A,a,h1,z,by simp[Deferred.ofValue,invoke]⟩
 rename_i f first captured;simp only[VRel]at l;obtain⟨n,o,rfl,h1,C⟩:=l;have i:VRels c w (first++args++captured) (n++a++o).toList:=by simp_all[QbC]
 have k:Callable P f->(do let d<-Deferred.ofValue (.func (.func f) n o) a;invoke d.target d.args:Sem Next).run P w=.ok (.enter f (n++a++o)) w:=by simp_all[Deferred.ofValue,invoke,Qgu]
 have plain:∀q,q≠.borrow->(HM.ret (AOut.call q f (first++args++captured))).run h=some (out,h')->Done P c h w (do let d<-Deferred.ofValue (.func (.func f) n o) a;invoke d.target d.args) out h':=by intro q p hm;simp only[HM.run,Zab,Zal]at hm;obtain⟨rfl,rfl⟩:=hm;exact⟨rfl,_,k,fun _=>i,fun e=>absurd e p⟩
 cases m with|heap=>exact plain _ (by simp) hm|pure=>exact plain _ (by simp) hm|borrow=>simp only at hm;obtain⟨y,B,u,t⟩:=run_bind hm;simp only[HM.run,Zab,Zal]at t;obtain⟨rfl,rfl⟩:=t;obtain⟨rfl,v⟩:=Qdm (Qe4 H 4) _ _ _ _ i u;exact⟨rfl,_,k,fun e=>absurd rfl e,fun _=>v⟩
theorem Qqk{s}{out}(H:HRel c h w)(B:TRel c w T a)(b:okCall P cl s=true)(hm:(aop i T s).run h=some (out,h')):Done P c h w (do let d<-resolve a.eval cl ty;invoke d.target d.args) out h':=by
 obtain⟨callee,args,argTypes⟩:=cl;unfold okCall at b;simp only at b;split at b
 ·rename_i f m x xs;simp only[Zac]at b;have l:VRels c w (evs T xs) (args.map a.eval).toList:=by simp_all[Qcv]
  exact QoF H (Qau B b.1) l hm
 ·rename_i k x;split at b
  ·rename_i y t O Q;simp only[Zac]at b;obtain⟨v,h1,o,p⟩:=QaU hm;cases p;unfold aLenC at o;split at o
   ·rename_i M;have C:=QqT (P:=P) (ty:=ty) H (Qau B b.1) (by rw[M];exact b.2) o;have :(do let d<-resolve a.eval {callee:=.builtin .len,args:=args,argTypes:=argTypes} ty;invoke d.target d.args:Sem Next)=(do pure (.value (<-Builtin.len_ #[t] ty #[a.eval y]))):=by
     exact bbZs9
    rw[this];exact .ofSound C
   grind[HM.run]
  cases b
 ·rename_i x;split at b
  ·rename_i y t O Q;simp only[Zac]at b;obtain⟨v,o,p⟩:=QaZ hm;cases p;have :(do let d<-resolve a.eval {callee:=.builtin .cap,args:=args,argTypes:=argTypes} ty;invoke d.target d.args:Sem Next)=(do pure (.value (<-Builtin.cap_ #[t] ty #[a.eval y]))):=by
    exact bbZs9
   rw[this];exact .ofPure H (QqU (Qau B b.1) b.2 o)
  cases b
 ·rename_i st sz bytes x y;split at b
  ·rename_i u J t A O Q;simp only[Zac]at b;obtain⟨⟨⟨G,I⟩,q⟩,V⟩:=b;obtain⟨v,h1,o,p⟩:=QaU hm;cases p;obtain⟨e,Z,z,L,hi,E,F,U,S⟩:=Qd6 V;have K:∃X,P.underlying A=some X/\∀k,X≠.int k:=by
    exact b2mXs
   have C:=QeA (P:=P) (ty:=ty) H (Qau B G) (Qau B I) (T:=⟨L,K,hi,U,E,F,by simpa using S⟩) o;exact bv4P7
  cases b
 ·rename_i e0 st sz bytes x y;split at b
  ·rename_i u J t A O Q;simp only[Zac]at b;obtain⟨⟨⟨⟨G,I⟩,q⟩,V⟩,g5⟩:=b;obtain⟨v,h1,o,p⟩:=QaU hm;cases p;obtain⟨e,Z,z,L,hi,E,F,U,S⟩:=Qd6 V;rw[L]at g5;have g5:e=e0:=by simpa using g5
   subst g5;have K:∃X,P.underlying A=some X/\∀k,X≠.int k:=by
    exact b2mXs
   have C:=Qmg (P:=P) (ty:=ty) H (Qau B G) (Qau B I) (T:=⟨L,K,hi,U,E,F,by simpa using S⟩) o;exact bv4P7
  cases b
 ·rename_i st sz bytes zero x y;split at b
  ·rename_i u J t A O Q;simp only[Zac]at b;obtain⟨⟨⟨G,I⟩,q⟩,V⟩:=b;obtain⟨v,h1,o,p⟩:=QaU hm;cases p;obtain⟨e,Z,z,L,hi,E,F,U,M⟩:=Qd6 V;simp only[Zac,beq_iff_eq]at M;split at q
   ·rename_i p hu2;have C:=Qmh (P:=P) (ty:=ty) H (Qau B G) (Qau B I) L hu2 hi U E F M.1 M.2 o;exact bv4P7
   cases q
  cases b
 ·rename_i sz bytes zero x;split at b
  ·rename_i u t O Q;simp only[Zac]at b;obtain⟨G,V⟩:=b;obtain⟨v,h1,o,p⟩:=QaU hm;cases p;obtain⟨e,Z,z,L,hi,E,F,U,M⟩:=Qd6 V;simp only[Zac,beq_iff_eq]at M;have C:=QoE (P:=P) (ty:=ty) H (Qau B G) L hi U M.1 M.2 o;have :(do let d<-resolve a.eval {callee:=.builtin .clear,args:=args,argTypes:=argTypes} ty;invoke d.target d.args:Sem Next)=(do pure (.value (<-Builtin.clear_ #[t] ty #[a.eval u]))):=by
    have N:args=#[u]:=by grind
    have R:argTypes=#[t]:=by grind
    simp_all[resolve,invoke,builtin]
   rw[this];exact .ofSound C
  cases b
 ·rename_i x;split at b
  ·rename_i y O;obtain⟨v,o,p⟩:=QaZ hm;cases p;have :(do let d<-resolve a.eval {callee:=.builtin .unsafeSliceData,args:=args,argTypes:=argTypes} ty;invoke d.target d.args:Sem Next)=(do pure (.value (<-Builtin.unsafeSliceData_ argTypes ty #[a.eval y]))):=by
    have N:args=#[y]:=by grind
    simp_all[resolve,invoke,builtin]
   rw[this];exact .ofPure H (QqY (P:=P) (Qau B b) o)
  cases b
 ·rename_i t x n;split at b
  ·rename_i u n' pt it O Q;simp only[Zac]at b;obtain⟨⟨G,I⟩,q⟩:=b;obtain⟨v,h1,o,p⟩:=QaU hm;cases p;have C:=Qqj (P:=P) (ty:=ty) (it:=it) H (Qau B G) (Qau B I) q o;have :(do let d<-resolve a.eval {callee:=.builtin .unsafeString,args:=args,argTypes:=argTypes} ty;invoke d.target d.args:Sem Next)=(do pure (.value (<-Builtin.unsafeString_ #[pt,it] ty #[a.eval u,a.eval n']))):=by
    have N:args=#[u,n']:=by grind
    have R:argTypes=#[pt,it]:=by grind
    simp_all[resolve,invoke,builtin]
   rw[this];exact .ofSound C
  cases b
 ·rename_i sz x y;split at b
  ·rename_i u J t A O Q;simp only[Zac]at b;obtain⟨⟨G,I⟩,q⟩:=b;obtain⟨v,h1,o,p⟩:=QaU hm;cases p;split at q
   ·rename_i e L;split at q
    ·rename_i Z hi;have C:=Qqe (P:=P) (ty:=ty) (t2:=A) H (Qau B G) (Qau B I) L hi (by simpa using q) o;have :(do let d<-resolve a.eval {callee:=.builtin .copy,args:=args,argTypes:=argTypes} ty;invoke d.target d.args:Sem Next)=(do pure (.value (<-Builtin.copy_ #[t,A] ty #[a.eval u,a.eval J]))):=by
      have N:args=#[u,J]:=by grind
      have R:argTypes=#[t,A]:=by grind
      simp_all[resolve,invoke,builtin]
     rw[this];exact .ofSound C
    cases q
   cases q
  cases b
 ·rename_i xs;obtain⟨v,o,p⟩:=QaZ hm;cases p;have l:VRels c w (evs T xs) (args.map a.eval).toList:=by simp_all[Qcv]
  exact .ofPure H (QkO (P:=P) (mn:=false) (ats:=argTypes) (ty:=ty) l o)
 ·rename_i xs;obtain⟨v,o,p⟩:=QaZ hm;cases p;have l:VRels c w (evs T xs) (args.map a.eval).toList:=by simp_all[Qcv]
  exact .ofPure H (QkO (P:=P) (mn:=true) (ats:=argTypes) (ty:=ty) l o)
 ·rename_i g k f xs;simp only[Zac,beq_iff_eq]at b;obtain⟨⟨rfl,I⟩,q⟩:=b;obtain⟨v,o,p⟩:=QaZ hm;cases p;have l:VRels c w (evs T xs) (args.map a.eval).toList:=by simp_all[Qcv]
  obtain⟨cv,hr,hv⟩:=QqW I l o;refine⟨.value cv,cv,c,w,?_,.inl rfl,.refl c w,H,hv⟩;simp[resolve,Deferred.ofValue,invoke,Act.eval,hr]
 cases b
theorem Qmv{row}{x k r}(hm:(aMapUpd row ks x k v).run h=some (r,h')):r=.any:=by unfold aMapUpd at hm;grind[Qcz,HM.run]
theorem Qte{o}{s}{out}(H:HRel c h w)(p:TRel c w T a)(b:okOp P o.op s=true)(hm:(aop i T s).run h=some (out,h')):Done P c h w (execOp a.eval o) out h':=by
 obtain⟨dst,op,ty,pos,after,guard⟩:=o;simp only at b;have K:∀{v:AV}{V:Value},VRel c w v V->Done P c h w (pure (.value V)) (.val v) h:=fun{v V}U=>⟨.value V,V,c,w,rfl,.inl rfl,.refl c w,H,U⟩;unfold okOp at b;split at b;·simp only[aop,HM.run,Zab,Zal]at hm;obtain⟨rfl,rfl⟩:=hm;exact K (Qau p b)
 ·simp only[aop,HM.run,Zab,Zal]at hm;obtain⟨rfl,rfl⟩:=hm;exact K (Qau p b)
 ·rename_i x y z R y' z';simp only[Zac]at b;obtain⟨v,d,g⟩:=QaZ hm;cases g;have h1:=Qau p b.1.1;unfold aPick at d;split at d;·rename_i t e;rw[e]at h1;simp only[VRel]at h1;cases d;have L:execOp a.eval {dst,op:=.pick x y z,type:=ty,pos,after,guard}=(do pure (.value (if<-asBool (a.eval x)then a.eval y else a.eval z))):=rfl;rw[L,h1];refine⟨.value (if t then a.eval y else a.eval z),_,c,w,by simp[asBool],.inl rfl,.refl c w,H,?_⟩;grind[Qau]
  cases d
 ·rename_i t st z;split at b;·rename_i Y F;obtain⟨Z,hi,E⟩:=Qd2 F;obtain⟨v,h1,d,g⟩:=QaU hm;cases g;exact .ofSound (Qot (P:=P) H hi E b d)
  cases b
 ·rename_i t t' st z;simp only[Zac,beq_iff_eq]at b;obtain⟨rfl,b⟩:=b;split at b;·rename_i Y F;obtain⟨Z,hi,E⟩:=Qd2 F;obtain⟨v,h1,d,g⟩:=QaU hm;cases g;exact .ofSound (Qms (P:=P) H hi E b d)
  cases b
 ·obtain⟨v,h1,d,g⟩:=QaU hm;cases g;exact .ofSound (QkM (P:=P) H (Qau p b) d)
 ·rename_i t parts zero ps;simp only[Zac]at b;obtain⟨⟨B,q⟩,A⟩:=b;obtain⟨v,d,g⟩:=QaZ hm;cases g;split at B
  ·rename_i Y F;have hb:(∃n e ie,P.underlying t=some (.array n e)/\P.info? e=some ie)\/(∃fields N,P.underlying t=some (.struct fields)/\fields.toList.mapM (fun f=>(P.info? f.type).map fun i=>(f.offset,i.size))=some N):=by grind[buildTB,Option.isSome_iff_exists]
   have L:execOp a.eval {dst,op:=.build t parts,type:=ty,pos,after,guard}=(do pure (.value (<-Instr.build t (parts.map fun(i,x)=>(i,a.eval x))))):=rfl;have O:PartsRel c w (placeOf P t) (evParts T ps) (parts.map fun(i,x)=>(i,a.eval x)).toList:=by simp_all[Qfh]
   have hs:=Qou (P:=P) H F B hb O d;rw[L];exact .ofSound hs
  cases B
 ·rename_i t len parts fz st sz len' zero ps;simp only[Zac,beq_iff_eq,decide_eq_true_eq]at b;obtain⟨⟨⟨rfl,q⟩,A⟩,C⟩:=b;obtain⟨v,h1,d,g⟩:=QaU hm;cases g;split at A
  ·rename_i e hu;split at A
   ·rename_i ie hi;simp only[Zac,beq_iff_eq]at A;obtain⟨J,g6⟩:=A;split at g6
    ·rename_i z F;have L:execOp a.eval {dst,op:=.buildSlice t len parts,type:=ty,pos,after,guard}=(do pure (.value (<-Instr.buildSlice t len (parts.map fun(i,x)=>(i,a.eval x))))):=rfl;have O:PartsRel c w (fun i=>some (i*sz,sz)) (evParts T ps) (parts.map fun(i,x)=>(i,a.eval x)).toList:=by simp_all[Qfh]
     have hs:=Qii (P:=P) H hu hi J F q g6 O d;rw[L];exact .ofSound hs
    cases g6
   cases A
  cases A
 ·simp only[Zac]at b;obtain⟨v,h1,d,g⟩:=QaU hm;cases g;exact .ofSound (Qqc (P:=P) H (Qau p b.2) b.1 d)
 ·rename_i t x v n R v';simp only[Zac]at b;obtain⟨⟨B,q⟩,A⟩:=b;obtain⟨r,h1,d,g⟩:=QaU hm;cases g;split at B
  ·rename_i Z hi;have Q:∀w,(sizeOf t).run P w=.ok n w:=fun w=>by simp_all[QaN]
   have S:r=.any:=by unfold aStore at d;grind[Qbm,HM.run]
   exact .ofU (Qos (P:=P) H (Qau p q) (Qau p A) Q d) S
  cases B
 ·rename_i x y;obtain⟨v,d,g⟩:=QaZ hm;cases g;have G:=Qau p b;obtain⟨L,rfl⟩:=Qq0 G d;grind[execOp]
 ·rename_i op t x y X op' R y';simp only[Zac,beq_iff_eq]at b;obtain⟨⟨rfl,q⟩,A⟩:=b;obtain⟨v,d,g⟩:=QaZ hm;cases g;have G:=Qau p q;have hy:=Qau p A;have hp:=QqR (P:=P) (t:=t) G hy d;have hg:(eqGuard op t x y (a.eval x) (a.eval y))=pure ():=by
   unfold aBin at d;split at d;·rename_i L e2;rw[L]at G;simp only[VRel]at G;rw[G];cases op<;>rfl
   ·rename_i L e2;rw[L]at G;simp only[VRel]at G;rw[G];cases op<;>rfl
   cases d
  have:execOp a.eval {dst,op:=.binOp op t x y X,type:=ty,pos,after,guard}=(do pure (.value (<-(do eqGuard op t x y (a.eval x) (a.eval y);binOp op t (a.eval x) (a.eval y))))):=rfl;rw[this,hg];exact .ofPure H hp
 ·rename_i op t x y X k neg R y';simp only[Zac,beq_iff_eq]at b;obtain⟨⟨⟨⟨B,q⟩,A⟩,C⟩,J⟩:=b;obtain⟨v,d,g⟩:=QaZ hm;cases g;refine .ofPure H (Qmm (P:=P) (ox:=x) (oy:=y) B (Qau p A) (Qau p C) q ?_ d);intro kind e;subst e;cases y<;>simp[isConstO]at J;simp_all
 ·rename_i op t x y X neg R;simp only[Zac,beq_iff_eq]at b;obtain⟨⟨⟨⟨B,q⟩,A⟩,J⟩,C⟩:=b;obtain⟨v,h1,d,g⟩:=QaU hm;cases g;obtain⟨x2,hx2,I⟩:=Qqg H (Qau p A) d;cases U:aEq (.nil 2) neg x2 .nilsl with|none=>rw[U]at I;simp[HM.opt,HM.run]at I|some u=>rw[U]at I;simp only[HM.opt,HM.run,Zab,Zal]at I;obtain⟨rfl,rfl⟩:=I;refine .ofPure H (Qmm (P:=P) (ox:=x) (oy:=y) B hx2 (Qau p C) q ?_ U);intro kind e;cases e;cases y<;>simp[isConstO]at J;exact⟨_,rfl⟩
 ·rename_i op t x y X neg R y';simp only[Zac,beq_iff_eq]at b;obtain⟨⟨⟨B,q⟩,A⟩,C⟩:=b;obtain⟨v,d,g⟩:=QaZ hm;cases g;exact .ofPure H (QqX (P:=P) (ox:=x) (oy:=y) B (Qau p A) (Qau p C) q d)
 ·simp only[Zac,beq_iff_eq]at b;obtain⟨rfl,q⟩:=b;obtain⟨v,d,g⟩:=QaZ hm;cases g;exact .ofPure H (Qtd (P:=P) (Qau p q) d)
 ·simp only[Zac]at b;obtain⟨v,d,g⟩:=QaZ hm;cases g;exact .ofPure H (Qqd (P:=P) (Qau p b.2) b.1 d)
 ·simp only[Zac]at b;obtain⟨v,d,g⟩:=QaZ hm;cases g;exact .ofPure H (QoA (P:=P) (Qau p b.2) b.1 d)
 ·simp only[Zac]at b;obtain⟨v,h1,d,g⟩:=QaU hm;cases g;exact .ofSound (QoB (P:=P) H (Qau p b.2) b.1 d)
 ·simp only[Zac]at b;obtain⟨v,d,g⟩:=QaZ hm;cases g;exact .ofPure H (QoC (P:=P) (Qau p b.2) b.1 d)
 ·rename_i f first captured f' xs ys;simp only[Zac,beq_iff_eq]at b;obtain⟨⟨rfl,q⟩,A⟩:=b;simp only[aop,HM.run,Zab,Zal]at hm;obtain⟨rfl,rfl⟩:=hm;have:execOp a.eval {dst,op:=.makeFunc (.func f) first captured,type:=ty,pos,after,guard}=pure (.value (.func (.func f) (first.map a.eval) (captured.map a.eval))):=rfl;rw[this];refine K ?_;simp only[VRel];exact⟨_,_,rfl,by simp_all[Qcv],by simp_all[Qcv]⟩
 ·obtain⟨v,h1,d,g⟩:=QaU hm;cases g;exact .ofSound (Qme (P:=P) (reserve:=none) (by simp) H d)
 ·rename_i t l cc st sz bytes zero l' c';simp only[Zac]at b;obtain⟨⟨B,q⟩,A⟩:=b;obtain⟨v,h1,d,g⟩:=QaU hm;cases g;obtain⟨e,ie,z,hu,hi,Q,hby,F,hk⟩:=Qd6 A;simp only[Zac,beq_iff_eq]at hk;exact .ofSound (QiV (P:=P) H (Qau p B) (Qau p q) hu hi Q hby F hk.1 hk.2 d)
 ·rename_i t x l hi mx sz R l' h' m';simp only[Zac]at b;obtain⟨⟨⟨⟨B,q⟩,A⟩,C⟩,J⟩:=b;obtain⟨v,d,g⟩:=QaZ hm;cases g;have G:=Qau p q;have hl:=Qdn p A;have hh:=Qdn p C;have hmx:=Qdn p J;refine .ofPure H ?_;unfold aSliceC at d;split at d;·grind[QcY]
  ·grind[QcY]
  ·grind[QcY]
  ·grind[QcY]
  ·rename_i s e;rw[e]at G d;exact QcY (P:=P) G hl hh hmx B (fun _ _ _ _ _ e=>by cases e) (fun _ _ _ e=>by cases e) (fun _=>rfl) (.inl ⟨_,rfl⟩) d
  cases d
 ·simp only[Zac]at b;obtain⟨⟨⟨B,q⟩,A⟩,C⟩:=b;obtain⟨v,d,g⟩:=QaZ hm;cases g;exact .ofPure H (Qmn (P:=P) (Qau p q) (Qdn p A) (Qdn p C) B d)
 ·simp only[Zac]at b;obtain⟨v,d,g⟩:=QaZ hm;cases g;exact .ofPure H (Qox (P:=P) (Qau p b.2) b.1 d)
 ·simp only[Zac]at b;obtain⟨v,d,g⟩:=QaZ hm;cases g;exact .ofPure H (Qow (P:=P) (Qau p b.2) b.1 d)
 ·simp only[Zac]at b;obtain⟨v,d,g⟩:=QaZ hm;cases g;exact .ofPure H (Qoy (P:=P) (Qau p b.1.2) (Qau p b.2) b.1.1 d)
 ·simp only[Zac]at b;obtain⟨v,d,g⟩:=QaZ hm;cases g;exact .ofPure H (Qoz (P:=P) (Qau p b.1.2) (Qau p b.2) b.1.1 d)
 ·rename_i t x k ok row ks zero ok' R k';simp only[Zac,beq_iff_eq]at b;obtain⟨⟨⟨⟨B,q⟩,rfl⟩,C⟩,J⟩:=b;obtain⟨v,h1,d,g⟩:=QaU hm;cases g;obtain⟨kt,et,M⟩:=QfK B;unfold mapElemZero at q;rw[M.hu]at q;simp only at q;split at q;·rename_i Y F;obtain⟨Z,hi,E⟩:=Qd2 F;exact .ofSound (Qmq (P:=P) H M (Qau p C) (Qau p J) hi E q d)
  cases q
 ·rename_i t m k row ks zero m' k';simp only[Zac]at b;obtain⟨⟨⟨B,q⟩,C⟩,J⟩:=b;obtain⟨v,h1,d,g⟩:=QaU hm;cases g;obtain⟨kt,et,M⟩:=QfK B;unfold mapElemZero at q;rw[M.hu]at q;simp only at q;split at q;·rename_i Y F;obtain⟨Z,hi,E⟩:=Qd2 F;exact .ofSound (Qmt (P:=P) H M (Qau p C) (Qau p J) hi E q d)
  cases q
 ·simp only[Zac]at b;obtain⟨⟨q,A⟩,C⟩:=b;obtain⟨r,h1,d,g⟩:=QaU hm;cases g;exact .ofU (QoD (P:=P) H (Qau p q) (Qau p A) (Qau p C) d) (QqZ d)
 ·exact bW9Am
 ·exact bW9Am
 ·simp only[Zac,beq_iff_eq]at b;obtain⟨rfl,q⟩:=b;obtain⟨v,d,g⟩:=QaZ hm;cases g;exact .ofPure H (Qmc (P:=P) (Qau p q) d)
 ·simp_all[aop,HM.run]
 ·exact Qqk (P:=P) (ty:=ty) H p b hm
 cases b
end Go.AM
namespace Go.AM
def Opd.slots:Opd->List Nat|.t i=>[i]|_=>[]
def slotsOf(xs:List Opd):List Nat:=xs.flatMap Opd.slots
def SOp.opds:SOp->List Opd|.mov x|.box _ x|.load _ x|.nilchk x|.un _ x|.conv _ x|.convS x|.convB x|.eqn _ x|.cap x|.clear _ _ _ x|.convP _ _ x|.usd x|.faddr _ x|.field _ _ x|.extract _ x|.len _ x=>[x]|.pick c a b=>[c,a,b]|.alloc _ _|.allocT ..|.mkmap _|.bad=>[]|.build _ d|.bslice _ _ _ _ _ d=>d.map fun p=>p.2.2|.store _ x v|.ment _ _ _ x v|.appendZ _ _ _ _ x v|.bin _ x v|.eq _ _ x v|.eqp _ x v|.appendT _ _ _ _ x v|.ustr _ x v|.iaddr _ _ x v|.index _ x v|.append _ _ _ x v|.copy _ x v|.lookup _ _ _ _ x v|.mkslice _ _ _ _ x v=>[x,v]|.mkfn _ xs f=>xs++f|.slice _ x l h m=>[x]++l.toList++h.toList++m.toList|.sliceK _ x l h=>[x]++l.toList++h.toList|.mupd _ _ x k v|.estore x k v=>[x,k,v]|.maxmin _ xs=>xs|.ext _ _ xs=>xs|.call _ x args=>x::args
def SOper.reads(s:SOper):List Nat:=slotsOf s.op.opds++(match s.guard with|some (g,_)=>[g]|none=>[])
def optIn(d:Option Nat)(xs:List Nat):Bool:=match d with|some d=>xs.contains d|none=>false
def SOper.apart(a b:SOper):Bool:=!optIn a.dst b.reads&&!optIn b.dst a.reads&&!(match a.dst,b.dst with|some x,some y=>x==y|_,_=>false)
def okGuard(N:Nat)(ops:Array Oper):Option (Nat×Bool)->Option (Nat×Bool)->Bool|none,none=>true|some (j,b),some (slot,a)=>b==a&&((ops[j]?).bind (·.dst))==some slot&&decide (slot<N)|_,_=>false
def okAfter(es:List Edge)(l:List Nat):Bool:=((es.filter fun e=>Region.binds .any e).map (·.on))==l
def okOper(P:Program)(N:Nat)(ops:Array Oper)(o:Oper)(s:SOper):Bool:=o.dst==s.dst&&(match s.dst with|some d=>decide (d<N)|none=>true)&&okOp P o.op s.op&&okGuard N ops o.guard s.guard&&okAfter o.after.toList s.after
def SOp.cls:SOp->Nat|.mov _|.pick ..|.build ..|.nilchk _|.bin ..|.eq ..|.un ..|.conv ..|.convS _|.mkfn ..|.slice ..|.sliceK ..|.faddr ..|.field ..|.iaddr ..|.index ..|.extract ..|.maxmin ..|.ext ..|.cap _|.eqp ..|.convP ..|.usd _|.bad=>0|.load ..|.len ..|.lookup ..|.convB _|.eqn ..=>1|.call m _ _=>(match m with|.heap=>2|_=>1)|.alloc ..|.allocT ..|.ment ..|.estore ..|.appendZ ..|.clear ..|.appendT ..|.ustr ..|.box ..|.bslice ..|.store ..|.mkmap ..|.mkslice ..|.mupd ..|.append ..|.copy ..=>2
def maskOf(acc:List Nat)(s:SOper):Nat:=s.after.foldl (fun m e=>m|||2^e|||acc.getD e 0) 0
def masksFrom(acc:List Nat):List SOper->List Nat|[]=>acc|s::r=>masksFrom (acc++[maskOf acc s]) r
def SOp.still:SOp->Bool|.call .heap _ _=>false|_=>true
def SOp.fresh:SOp->Bool|.alloc .dyn _=>true|.box .dyn _=>true|.bslice false .dyn _ _ _ _=>true|.mkslice .dyn _ _ _ _ _=>true|.mkmap .dyn=>true|_=>false
def SOp.sees:SOp->Bool|.load _ _=>true|.len _ _=>true|_=>false
def pairOK(sops:List SOper)(a:List (Nat×Nat))(k j:Nat):Bool:=match sops[k]?,sops[j]? with|some s,some t=>s.apart t&&(Nat.beq s.op.cls 0||Nat.beq t.op.cls 0||(Nat.ble s.op.cls 1&&Nat.ble t.op.cls 1)||a.contains (k,j)||((s.op.sees||s.op.fresh)&&t.op.fresh&&sops.all fun s=>s.op.still))|_,_=>false
def freeB(sops:List SOper)(a:List (Nat×Nat)):Bool:=let ms:=masksFrom [] sops
 (List.range sops.length).all fun j=>(match sops[j]? with|some s=>s.after.all fun k=>Nat.blt k j|none=>false)&&(List.range j).all fun k=>(ms.getD j 0).testBit k||pairOK sops a k j
def okOpers(P:Program)(N:Nat)(ops:Array Oper):List Oper->List SOper->Bool|[],[]=>true|o::os,s::a=>okOper P N ops o s&&okOpers P N ops os a|_,_=>false
def okRegion(P:Program)(N:Nat)(ops:Array Oper)(draw:Bool)(sops:List SOper)(a:List (Nat×Nat)):Bool:=okOpers P N ops ops.toList sops&&(!draw||(P.follows .mixedOrders&&freeB sops a))
structure MLParts where
 ops6:Array Oper
 b:Nat
 ops7:Array Oper
 c:Nat
 b':Nat
 b3:Nat
 ops8:Array Oper
 body:Code
def mlParts:Code->Option MLParts|.seq (.region _ a false) (.block b (.loop (.seq (.region _ f false) (.seq (.cond (.tmp c) .skip (.exit h)) (.block g (.seq (.region _ d false) body))))))=>some ⟨a,b,f,c,h,g,d,body⟩|_=>none
def isMapT(P:Program)(t:TypeId):Bool:=match P.underlying t with|some (.map _ _)=>true|_=>false
def okRange(P:Program)(N:Nat)(ops:Array Oper)(pre:List SOper)(x:Opd)(it:Nat):Bool:=match ops[pre.length]? with|some o=>o.dst==some it&&decide (it<N)&&o.guard.isNone&&(match o.op with|.range t y=>isMapT P t&&okOpd y x|_=>false)&&ops.size==pre.length+1&&okOpers P N ops (ops.toList.take pre.length) pre|none=>false
def okNext(N:Nat)(ops:Array Oper)(it c ok:Nat):Bool:=match ops.toList with|[a,b]=>a.dst==some c&&decide (c<N)&&a.guard.isNone&&(match a.op with|.next (.tmp i) false=>i==it|_=>false)&&b.dst==some ok&&decide (ok<N)&&b.guard.isNone&&(match b.op with|.extract (.tmp j) 0=>j==c|_=>false)&&!(c==it)&&!(ok==it)|_=>false
def okEntry(P:Program)(N:Nat)(ops:Array Oper)(rest:List SOper)(it b:Nat):Bool:=match ops.toList with|a::l=>a.dst==some b&&decide (b<N)&&a.guard.isNone&&(match a.op with|.entry (.tmp i)=>i==it|_=>false)&&okOpers P N ops l rest|_=>false
def SCode.rf:SCode->Bool|.seq a b=>a.rf||b.rf|.cond _ a b=>a.rf||b.rf|.block _ b=>b.rf|.loop b=>b.rf|.mloop ..=>true|.rfunc ..=>true|_=>false
def okCode(P:Program)(N:Nat):Code->SCode->Bool|.skip,.skip=>true|.region _ ops draw,.region sops f _=>okRegion P N ops draw sops f|.seq a b,.seq h d=>okCode P N a h&&okCode P N b d|.cond c a b,.cond x h d=>okOpd c x&&okCode P N a h&&okCode P N b d|.block i b,.block l d=>i==l&&okCode P N b d|.loop b,.loop d=>okCode P N b d|.exit i,.exit l=>i==l|.ret,.ret=>true|c,.mloop pre x it s ok n m b2 rest body=>(match mlParts c with|some p=>okRange P N p.ops6 pre x it&&p.b==m&&okNext N p.ops7 it s ok&&p.c==ok&&p.b'==m&&p.b3==b2&&okEntry P N p.ops8 rest it n&&okCode P N p.body body|none=>false)|.rangeFunc g q a b,.rfunc t k N' h d=>okOpd g t&&q.toList==k&&N'==N&&k.all (fun p=>Nat.blt p N)&&!h.rf&&!d.rf&&okCode P N a h&&okCode P N b d|_,.bad=>true|_,_=>false termination_by structural _ o=>o
def okc(P:Program):Okc:=fun N code a=>okCode P N code a=true/\a.rf=false
end Go.AM
theorem Go.AM.bx7zr{p:Prop}(h:p:=by
 intro x;dsimp only;split;·rename_i a cs;cases Nat.beq a g with|true=>exact h cs|false=>trivial
 trivial):p:=h
namespace Go.AM
variable{P:Program}
variable{v:AV}{c:Code}{R:Ending->World->Prop}{Q:Exit->Act->World->Prop}{a h h' h1:Heap}{args:List AV}{B xs:List Nat}{b g i:Nat}{x:Opd}{y:Option Blk}{d:Option Nat}{s t:SOper}{T T':Tmps}{α:Type}{w:World}
def FW(ro:Option Nat):Fence:={Fence.wide with round:=ro}
theorem QoT{ro}(n):(FW ro).room n:=fun _ h=>by simp[FW,Fence.wide]at h
theorem callsFW{ro}{f}{args}(h:Calls P f args w R):CallsIn (FW ro) 0 P f args w R:=(callsIn_wide (n:=0)).2 h
def Lp(ro:Option Nat)(P:Program)(c:Code)(Q:Exit->Act->World->Prop)(a:Act)(w:World):Prop:=∀(b:Frame)(k:List Item)(cs:List Frame),b.roundOf=ro->∃e d f,Q e d f/\ArrivesIn (Machine.fenced P (FW ro)) P (lone (b.atR a (.code c::.inLoop c::k)) cs w) b k cs e d f
theorem Lp.loop{ro}{a}(h:Lp ro P c Q a w):(Code.loop c).wpIn (FW ro) 0 P Q a w:=by intro b k cs f g n;obtain⟨e,l,i,m,d⟩:=h b k cs f;exact⟨e,l,i,m,.of_steps (.one (fenced_calm g n rfl) stepR_loop) d⟩
theorem Lp.round{ro}{a}(h:c.wpIn (FW ro) 0 P (Exit.then (Lp ro P c Q) Q) a w):Lp ro P c Q a w:=by intro b k cs o;obtain⟨e,n,m,g,d⟩:=h b (.inLoop c::k) cs o trivial (QoT _);cases e with|normal=>obtain⟨s,t,q,p,f⟩:=g b k cs o;exact⟨s,t,q,p,.of_steps (StepsIn.trans d (.one (fenced_calm (n:=0) trivial (QoT _) rfl) stepR_inLoop)) f⟩|exit i=>exact⟨_,n,m,g,.pass (x:=.inLoop c) rfl (fun _ _=>.inl (by simp)) d⟩|goto l=>exact⟨_,n,m,g,.pass (x:=.inLoop c) rfl (fun _ _=>.inl (by simp)) d⟩|ret=>exact⟨_,n,m,g,.pass (x:=.inLoop c) rfl (fun _ _=>.inl (by simp)) d⟩|panic ch=>exact⟨_,n,m,g,.pass (x:=.inLoop c) rfl (fun _ _=>.inl (by simp)) d⟩|outgrown=>exact⟨_,n,m,g,.pass (x:=.inLoop c) rfl (fun _ _=>.inl (by simp)) d⟩
def HSpec(P:Program)(f:Nat)(args:List AV)(h:Heap)(v:AV)(h':Heap):Prop:=Callable P f/\∀(c:Ctx (okc P))(w:World)(a:Array Value),HRel c h w->VRels c w args a.toList->Calls P f a w fun e d=>∃g b,e=.returned g/\Evo c w b d/\HRel b h' d/\VRel b d v g
def Rets(P)(c:Ctx (okc P))(w:World)(h1:Heap)(v:AV):Ending->World->Prop:=fun e a=>∃d b,e=.returned d/\Evo c w b a/\HRel b h1 a/\VRel b a v d
def RSpec(P:Program)(b g:Nat)(args:List AV)(h:Heap)(v:AV)(h':Heap):Prop:=∀(c:Ctx (okc P))(w:World)(a:Array Value)(f:Nat),HRel c h w->VRels c w args a.toList->c.ρ b g=some (.loc f 0)->∃(fn:Nat)(tmps:Array Value)(d body:Code),(Instr.yield f a).run P w=.ok (.round f fn tmps d body) w/\RoundIn Fence.wide 0 P f fn tmps d body w (Rets P c w h' v)
def PSpec(P:Program)(f:Nat)(args:List AV)(v:AV):Prop:=noRefs args=true/\noRef v=true/\∃a,HSpec P f args .e v a
def one(b:Nat)(x:Blk):Heap:=Tr.set .e b x
theorem Qus{x}(a:b<lim)(j):(one b x).get j=if j=b then some x else none:=by simp_all[one,Zcl,Tr.get]
def own1(b g:Nat):List AV->Bool|[]=>true|.sl c a _ _ _::xs=>c==b&&a==g&&own1 b g xs|x::xs=>noRef x&&own1 b g xs
def GSpec(P:Program)(f:Nat)(args:List AV)(b g:Nat)(xs:List AV)(v:AV):Prop:=Callable P f/\own1 b g args=true/\noRef v=true/\flatVs xs=true/\b<lim/\∀(c:Ctx (okc P))(w:World)(a:Array Value),HRel c (one b (.cells g xs)) w->VRels c w args a.toList->Calls P f a w fun e h=>∃i d,e=.returned i/\Evo c w d h/\(∀k,d.F k\/d.O k->k<h.heap.size)/\VRel (lent d) h v i
def NSpec(P:Program)(f:Nat)(args ys:List AV)(len sz:Nat):Prop:=Callable P f/\noRefs args=true/\∃(b g off:Nat)(cs:List AV)(a:Heap),cs.drop off=ys/\off<=cs.length/\a.get b=some (.cells g cs)/\HSpec P f args .e (.sl b g off len sz) a
def HM.fp{α}:HM α->Heap->List Nat×List Nat|.ret _,_=>([],[])|.fail,_=>([],[])|.look b k,h=>let r:=(k (h.get b)).fp h;(b::r.1,r.2)|.put b x k,h=>let r:=k.fp (h.set b x);(r.1,b::r.2)
variable{f:AV->HM AV}{m:HM α}{k:List (AV×AV)->HM α}
theorem HM.local(m:HM α):∀(h h':Heap)(a:α)(h1:Heap),m.run h=some (a,h1)->(∀b∈(m.fp h).1,h.get b=h'.get b)->∃c,m.run h'=some (a,c)/\m.fp h'=m.fp h/\(∀b∈(m.fp h).2,c.get b=h1.get b)/\(∀b,b∉(m.fp h).2->c.get b=h'.get b)/\(∀b,b∉(m.fp h).2->h1.get b=h.get b):=by induction m with|ret x=>intro h h' a h1 hm _;simp only[HM.run,Zab,Zal]at hm;obtain⟨rfl,rfl⟩:=hm;exact⟨h',rfl,rfl,by simp[HM.fp],by simp,by simp⟩|fail=>intro h h' a h1 hm;simp[HM.run]at hm|look b k i=>intro h h' a h1 hm d;simp only[HM.run]at hm;simp only[HM.fp]at d⊢;have q:h.get b=h'.get b:=d b (by simp);obtain⟨c,s,g,l,p,n⟩:=i _ h h' a h1 hm (fun o f=>d o (by simp[f]));rw[<-q];refine⟨c,by simp_all[HM.run],by rw[g],l,p,n⟩|put b x k i=>
 intro h h' a h1 hm d;obtain⟨t,hm⟩:=Qa5 hm;simp only[HM.fp]at d⊢;obtain⟨c,s,g,l,p,n⟩:=i (h.set b x) (h'.set b x) a h1 hm (fun o f=>by simp_all[Zcl]);refine⟨c,?_,by rw[g],?_,?_,?_⟩;·grind[HM.run]
 ·grind[Zcl]
 ·simp_all[Zcl]
 simp_all[Zcl]
def HM.ro{α}:HM α->Prop|.ret _=>True|.fail=>True|.look _ k=>∀x,(k x).ro|.put _ _ _=>False
theorem HM.ro_fp(m:HM α):m.ro->∀h,(m.fp h).2=[]:=by induction m with|ret a=>intro _ h;rfl|fail=>intro _ h;rfl|look b k d=>intro c h;exact d _ (c _) h|put b x k d=>intro c;exact c.elim
theorem HM.Qb5{β}{f:α->HM β}(h1:m.ro)(d:∀a,(f a).ro):(m.bind f).ro:=by induction m with|ret a=>exact d a|fail=>trivial|look b k c=>exact fun x=>c x (h1 x)|put b x k c=>exact h1.elim
theorem QiZ(o:Option α):(HM.opt o).ro:=by cases o<;>trivial
theorem QfL{k:List AV->HM α}(h:∀cs,(k cs).ro):(HM.cells b g k).ro:=by
 exact bx7zr
theorem Qql(h:∀cs,(k cs).ro):(HM.entries b g k).ro:=by
 exact bx7zr
theorem Qdc(hf:∀x,(f x).ro):∀xs,(mapH f xs).ro|[]=>trivial|x::xs=>HM.Qb5 (hf x) fun y=>HM.Qb5 (Qdc hf xs) fun a=>trivial
theorem QeE:∀(d:Nat)(x:AV),(frzH d x).ro
 |0,x=>trivial|d+1,x=>by
  cases x<;>simp only[frzH]<;>try trivial
  ·exact HM.Qb5 (Qdc (QeE d) _) fun _=>trivial
  ·exact HM.Qb5 (Qdc (QeE d) _) fun _=>trivial
  ·exact QfL fun cs=>HM.Qb5 (Qdc (QeE d) _) fun _=>trivial
  refine QfL fun cs=>?_;split;·exact HM.Qb5 (Qdc (QeE d) _) fun _=>trivial
  trivial
theorem HM.Qq1(m:HM α):m.ro->∀{h:Heap}{a:α}{h1:Heap},m.run h=some (a,h1)->h1=h:=by induction m with|ret x=>intro _ h a h1 hm;simp only[HM.run,Zab,Zal]at hm;exact hm.2.symm|fail=>intro _ h a h1 hm;simp[HM.run]at hm|look b k d=>intro c h a h1 hm;exact d _ (c _) hm|put b x k d=>intro c;exact c.elim
theorem HM.Qtf(f:m.ro){a}(hm:m.run h=some (a,h))(he:∀b∈(m.fp h).1,h.get b=h'.get b):m.run h'=some (a,h')/\m.fp h'=m.fp h:=by obtain⟨c,g,d,_⟩:=m.local h h' a h hm he;grind[HM.Qq1]
theorem lk_up(T)(i)(v)(j):lk (up T i v) j=if j=i then v else lk T j:=by induction T with
 |nil=>
  simp only[up,lk];by_cases e:j=i;·simp_all
  have :Nat.beq i j=false:=by rw[ZaI];simpa using fun h=>e h.symm
  simp_all|cons p T c=>
  obtain⟨k,u⟩:=p;simp only[up];by_cases a:k=i
  ·subst a;have:Nat.beq k k=true:=by simp
   rw[this];simp only[cond_true,lk];by_cases e:j=k;·simp_all
   have b:Nat.beq k j=false:=by rw[ZaI];simpa using fun h=>e h.symm
   simp_all
  have :Nat.beq k i=false:=by simp_all[ZaI]
  grind[lk]
def putD(T:Tmps)(dst:Option Nat)(v:AV):Tmps:=match dst with|some d=>up T d v|none=>T
theorem QbJ(T)(dst)(v)(j):lk (putD T dst v) j=if dst=some j then v else lk T j:=by cases dst with|none=>simp[putD]|some d=>
 simp only[putD,lk_up,Zab];by_cases e:j=d;·subst e;simp
 grind
theorem Qmw(h:∀i∈x.slots,lk T i=lk T' i):ev T x=ev T' x:=by cases x<;>simp only[ev];simp_all[Opd.slots]
theorem Qq2{xs}(a:x∈xs)(hi:i∈x.slots):i∈slotsOf xs:=Zby.2 ⟨x,a,hi⟩
theorem QkS{s:SOp}(h:∀j∈slotsOf s.opds,lk T j=lk T' j):aop i T s=aop i T' s:=by
 have one:∀x∈s.opds,ev T x=ev T' x:=fun x hx=>Qmw fun j hj=>h j (Qq2 hx hj);cases s<;>simp only[SOp.opds]at one<;>simp only[aop]<;>first|rfl|(rw[one _ (by simp)];done)|(rw[one _ (List.mem_cons_self ..),one _ (by simp)];done)|(simp only[Zav,Za2,or_false,forall_eq_or_imp,forall_eq]at one;simp only[one];done)|skip
 case build zero parts=>
  have:evParts T parts=evParts T' parts:=Zbf fun p hp=>by grind
  rw[this]
 case bslice fz s sz len zero parts=>
  have:evParts T parts=evParts T' parts:=Zbf fun p hp=>by grind
  rw[this]
 case mkfn f xs ys=>simp_all[evs]
 case slice sz x l hh m=>
  have e1:evo T l=evo T' l:=by cases l<;>simp[evo];simp_all
  have e2:evo T hh=evo T' hh:=by cases hh<;>simp[evo];simp_all
  have e3:evo T m=evo T' m:=by cases m<;>simp[evo];simp_all
  simp_all
 case sliceK sz x l hh=>
  have e1:evo T l=evo T' l:=by cases l<;>simp[evo];simp_all
  have e2:evo T hh=evo T' hh:=by cases hh<;>simp[evo];simp_all
  simp_all
 case maxmin mn xs=>grind[evs,Zbf]
 case ext k f xs=>grind[evs,Zbf]
 grind[evs,Zbf]
structure FP where
 all:Bool
 R:List Nat
 W:List Nat
def fpOf(r:List Nat×List Nat):FP:=⟨false,r.1,r.2⟩
def NStep(P:Program)(i f:Nat)(args:List AV)(h:Heap)(v:AV)(h1:Heap)(fp:FP):Prop:=∃a R,((a=args/\R=[])\/((mapH (frzH 4) args).run h=some (a,h)/\R=((mapH (frzH 4) args).fp h).1))/\((∃b len sz,NSpec P f a b len sz/\(flatVs b=true\/noRefs b=true/\a=args)/\i<lim/\h.get i=none/\v=.sl i 0 0 len sz/\h1=h.set i (.cells 0 b)/\fp=⟨false,i::R,[i]⟩)\/(PSpec P f a v/\(flatV v=true\/a=args)/\h1=h/\fp=⟨false,R,[]⟩))
def over(k:Heap)(h:Heap):List Nat->Heap|[]=>h|b::D=>match k.get b with|some x=>over k (h.set b x) D|none=>over k h D
def pick(h:Heap)(B:List Nat):Heap:=over h .e B
def allLim(B:List Nat):Bool:=B.all fun b=>Nat.blt b lim
theorem Qd7(h:allLim B=true)(a:b∈B):b<lim:=by have:=ZaH.1 h b a;simp_all
theorem QfM{k}:∀{D:List Nat}{h:Heap},(∀b∈D,b<lim)->(∀b∈D,k.get b≠none)->∀j,(over k h D).get j=if j∈D then k.get j else h.get j|[],h,_,_,j=>by simp[over]|b::D,h,d,c,j=>by simp only[over];cases a:k.get b with|none=>exact absurd a (c b (by simp))|some x=>
 simp only;rw[QfM (D:=D) (fun b a=>d b (by simp[a])) (fun b a=>c b (by simp[a])) j,Zcl _ (d b (by simp))];by_cases e:j=b;·simp_all
 simp[e]
theorem QfN:∀{B:List Nat}{k:Heap},(∀b∈B,h.get b=h'.get b)->over h k B=over h' k B|[],_,_=>rfl|b::B,k,e=>by simp only[over];rw[<-e b (by simp)];cases h.get b with|none=>exact QfN fun b a=>e b (by simp[a])|some x=>exact QfN fun b a=>e b (by simp[a])
theorem Qqm(e:∀b∈B,h.get b=h'.get b):pick h B=pick h' B:=QfN e
theorem Qtg(c:∀b∈B,b<lim)(a:∀b∈B,h.get b≠none)(k):(pick h B).get k=if k∈B then h.get k else none:=by simp_all[pick,QfM,Tr.get]
def blkIn(B:List Nat):Option Blk->Bool|some (.cells _ cs)=>inBs B cs|some (.map _ es)=>inBe B es|some (.dead _)=>true|_=>false
def eqStr:List UInt8->List UInt8->Bool|[],[]=>true|x::xs,y::a=>bif Nat.beq x.toNat y.toNat then eqStr xs a else false|_,_=>false
theorem Qmx:∀{x y:List UInt8},eqStr x y=true->x=y|[],[],_=>rfl|[],_::_,h=>by simp[eqStr]at h|_::_,[],h=>by simp[eqStr]at h|x::xs,y::a,h=>by simp only[eqStr]at h;cases e:Nat.beq x.toNat y.toNat with|false=>rw[e]at h;simp at h|true=>rw[e]at h;have:x=y:=UInt8.toNat_inj.1 (by simpa using e);have b:xs=a:=Qmx (by simpa using h);rw[this,b]
def eqInt:Int->Int->Bool|.ofNat a,.ofNat b=>Nat.beq a b|.negSucc a,.negSucc b=>Nat.beq a b|_,_=>false
theorem Qth:∀{a b:Int},eqInt a b=true->a=b|.ofNat a,.ofNat b,h=>by simp_all[eqInt]|.negSucc a,.negSucc b,h=>by simp_all[eqInt]|.ofNat a,.negSucc b,h=>by simp[eqInt]at h|.negSucc a,.ofNat b,h=>by simp[eqInt]at h
def eqK:IntKind->IntKind->Bool|.i8,.i8|.i16,.i16|.i32,.i32|.i64,.i64|.u8,.u8|.u16,.u16|.u32,.u32|.u64,.u64=>true|_,_=>false
theorem QvY{a b}(h:eqK a b=true):a=b:=by cases a<;>cases b<;>simp[eqK]at h<;>rfl
mutual def eqAV:AV->AV->Bool
 |.any,.any=>true|.bool a,.bool b=>match a,b with|true,true=>true|false,false=>true|_,_=>false
 |.int k n,.int k' n'=>bif eqInt n n' then eqK k k' else false|.str s,.str s'=>eqStr s s'|.agg cs,.agg cs'=>eqAVs cs cs'|.tup cs,.tup cs'=>eqAVs cs cs'|.nilptr,.nilptr=>true|.ptr b g o,.ptr b' g' o'=>Nat.beq b b'&&Nat.beq g g'&&Nat.beq o o'|.fptr cs,.fptr cs'=>eqAVs cs cs'|.nilsl,.nilsl=>true|.sl b g o l s,.sl b' g' o' l' s'=>Nat.beq b b'&&Nat.beq g g'&&Nat.beq o o'&&Nat.beq l l'&&Nat.beq s s'|.fsl cs l s,.fsl cs' l' s'=>Nat.beq l l'&&Nat.beq s s'&&eqAVs cs cs'|.esl,.esl=>true|.nsl,.nsl=>true|.nilmap,.nilmap=>true|.map b g,.map b' g'=>Nat.beq b b'&&Nat.beq g g'|.fmap x y,.fmap x' y'=>eqAVs x x'&&eqAVs y y'|.nilfn,.nilfn=>true|.fn f x y,.fn f' x' y'=>Nat.beq f f'&&eqAVs x x'&&eqAVs y y'|.nilif,.nilif=>true|.ifc t v,.ifc t' v'=>Nat.beq t t'&&eqAV v v'|.typed t n v,.typed t' n' v'=>Nat.beq t t'&&Nat.beq n n'&&eqAV v v'|_,_=>false termination_by structural x=>x def eqAVs:List AV->List AV->Bool|[],[]=>true|x::xs,y::ys=>bif eqAV x y then eqAVs xs ys else false|_,_=>false termination_by structural x=>x end
mutual theorem QdJ:∀(x y:AV),eqAV x y=true->x=y|.any,y,h=>by grind[eqAV]|.bool a,y,h=>by cases y<;>simp only[eqAV,Zat]at h;grind|.int k n,y,h=>by cases y<;>simp only[eqAV,Zat]at h;grind[QvY,Qth]|.str s,y,h=>by cases y<;>simp only[eqAV,Zat]at h;rw[Qmx h]|.agg cs,y,h=>by cases y<;>simp only[eqAV,Zat]at h;rw[Qch _ _ h]|.tup cs,y,h=>by cases y<;>simp only[eqAV,Zat]at h;rw[Qch _ _ h]|.nilptr,y,h=>by grind[eqAV]|.ptr b g o,y,h=>by cases y<;>simp[eqAV]at h;simp[h]|.fptr cs,y,h=>by cases y<;>simp only[eqAV,Zat]at h;rw[Qch _ _ h]|.nilsl,y,h=>by grind[eqAV]|.sl b g o l s,y,h=>by cases y<;>simp[eqAV]at h;simp[h]|.fsl cs l s,y,h=>by cases y<;>simp only[eqAV,Zat,Zac,Zb7]at h;rw[Qch _ _ h.2,h.1.1,h.1.2]|.esl,y,h=>by grind[eqAV]|.nsl,y,h=>by grind[eqAV]|.nilmap,y,h=>by grind[eqAV]|.map b g,y,h=>by cases y<;>simp[eqAV]at h;simp[h]|.fmap x z,y,h=>by cases y<;>simp only[eqAV,Zat,Zac]at h;rw[Qch _ _ h.1,Qch _ _ h.2]|.nilfn,y,h=>by grind[eqAV]|.fn f x z,y,h=>by cases y<;>simp only[eqAV,Zat,Zac,Zb7]at h;rw[h.1.1,Qch _ _ h.1.2,Qch _ _ h.2]|.nilif,y,h=>by grind[eqAV]|.yld b g,y,h=>by simp_all[eqAV]|.ifc t v,y,h=>by cases y<;>simp only[eqAV,Zat,Zac,Zb7]at h;rw[h.1,QdJ _ _ h.2]|.typed t n v,y,h=>by cases y<;>simp only[eqAV,Zat,Zac,Zb7]at h;rw[h.1.1,h.1.2,QdJ _ _ h.2]theorem Qch:∀(x y:List AV),eqAVs x y=true->x=y|[],y,h=>by grind[eqAVs]|x::xs,y,h=>by cases y with|nil=>simp[eqAVs]at h|cons y ys=>simp only[eqAVs]at h;cases e:eqAV x y with|false=>rw[e]at h;simp at h|true=>rw[e]at h;have e2:xs=ys:=Qch _ _ (by simpa using h);rw[QdJ _ _ e,e2]end
def eqEs:List (AV×AV)->List (AV×AV)->Bool|[],[]=>true|p::r,q::s=>bif eqAV p.1 q.1&&eqAV p.2 q.2 then eqEs r s else false|_,_=>false
theorem QoU:∀{x y:List (AV×AV)},eqEs x y=true->x=y|[],[],_=>rfl|[],_::_,h=>by simp[eqEs]at h|_::_,[],h=>by simp[eqEs]at h|(a,b)::xs,(c,d)::f,h=>by simp only[eqEs]at h;cases e:eqAV a c&&eqAV b d with|false=>rw[e]at h;simp at h|true=>rw[e]at h;simp only[Zac]at e;have g:xs=f:=QoU (by simpa using h);rw[QdJ _ _ e.1,QdJ _ _ e.2,g]
def eqBlk:Option Blk->Option Blk->Bool|some (.cells g cs),some (.cells a c)=>bif Nat.beq g a then eqAVs cs c else false|some (.map g es),some (.map a b)=>bif Nat.beq g a then eqEs es b else false|some (.dead g),some (.dead a)=>Nat.beq g a|_,_=>false
theorem Qti{x}(h:eqBlk x y=true):x=y:=by
 unfold eqBlk at h;split at h;·rename_i g cs a f;cases e:Nat.beq g a with|false=>rw[e]at h;simp at h|true=>
  rw[e]at h;have c:g=a:=by simpa using e
  have d:cs=f:=Qch _ _ (by simpa using h);rw[c,d]
 ·rename_i g es a b;cases e:Nat.beq g a with|false=>rw[e]at h;simp at h|true=>
  rw[e]at h;have c:g=a:=by simpa using e
  have d:es=b:=QoU (by simpa using h);rw[c,d]
 ·simp_all
 cases h
def FStep(P:Program)(f:Nat)(args:List AV)(h:Heap)(v:AV)(h1:Heap)(fp:FP):Prop:=∃B D W a,allLim B=true/\allLim D=true/\inBs B args=true/\(∀b∈B,blkIn B (h.get b)=true)/\HSpec P f args (pick h B) v a/\(∀b∈D,a.get b≠none)/\(∀b,a.get b≠none->b∈D)/\(∀b∈B,b∈D)/\(∀b∈D,b∉B->h.get b=none)/\(∀b∈D,b∉W->a.get b=h.get b)/\(∀b∈W,b∈D)/\h1=over a h D/\fp=⟨false,D,W⟩
def StepX(P:Program)(i:Nat)(s:SOp)(T:Tmps)(h:Heap)(v:AV)(h1:Heap)(fp:FP):Prop:=∃out a,(aop i T s).run h=some (out,a)/\match out with|.val u=>v=u/\h1=a/\fp=fpOf ((aop i T s).fp h)|.call .pure f args=>PSpec P f args v/\h1=a/\fp=fpOf ((aop i T s).fp h)|.call .borrow f args=>PSpec P f args v/\flatV v=true/\h1=a/\fp=fpOf ((aop i T s).fp h)|.call .heap f args=>(HSpec P f args a v h1/\fp=⟨true,[],[]⟩)\/(∃b g xs,GSpec P f args b g xs v/\a.get b=some (.cells g xs)/\h1=a.set b (.dead g)/\fp=⟨false,[b],[b]⟩)\/NStep P i f args a v h1 fp\/FStep P f args a v h1 fp|.round b g args=>RSpec P b g args a v h1/\fp=⟨true,[],[]⟩
def wantedA(x:AV)(a:Bool):Option Bool:=match x with|.bool b=>some (b==a)|.tup []=>some false|_=>none
def StepV(P:Program)(i:Nat)(s:SOper)(T:Tmps)(h:Heap)(v:AV)(h1:Heap)(fp:FP):Prop:=match s.guard with|none=>StepX P i s.op T h v h1 fp|some (g,a)=>∃b,wantedA (lk T g) a=some b/\if b=true then StepX P i s.op T h v h1 fp else(v=.tup []/\h1=h/\fp=⟨false,[],[]⟩)
structure St where
 T:Tmps
 h:Heap
variable{A:St}
def SEq(A B:St):Prop:=(∀i,lk A.T i=lk B.T i)/\∀b,A.h.get b=B.h.get b
theorem SEq.refl(A):SEq A A:=⟨fun _=>rfl,fun _=>rfl⟩
theorem SEq.symm{B}(h:SEq A B):SEq B A:=⟨fun i=>(h.1 i).symm,fun b=>(h.2 b).symm⟩
theorem SEq.trans{B C}(h:SEq A B)(k:SEq B C):SEq A C:=⟨fun i=>(h.1 i).trans (k.1 i),fun b=>(h.2 b).trans (k.2 b)⟩
theorem Qi0(e:∀b,h.get b=h'.get b):Live h b g↔Live h' b g:=by grind[Live]
theorem Qcw{ok}{c:Ctx ok}(e:∀b,h.get b=h'.get b)(H:HRel c h w):HRel c h' w:=⟨fun b n=>H.fresh b (by simp_all),fun b x f=>H.later b x (by simp_all),fun b x f=>H.blk b x (by simp_all),fun b g i m d base a l k=>H.inj b g i m d base a ((Qi0 e).2 l) ((Qi0 e).2 k),H.disj,H.inF,H.inO⟩
theorem QoG{f}{d:Heap}(e:∀b,h.get b=d.get b)(H:HSpec P f args h v h1):HSpec P f args d v h1:=⟨H.1,fun c w a g i=>H.2 c w a (Qcw (fun b=>(e b).symm) g) i⟩
theorem QoH{d:Heap}(e:∀b,h.get b=d.get b)(H:RSpec P b g args h v h1):RSpec P b g args d v h1:=fun c w a f i k=>H c w a f (Qcw (fun b=>(e b).symm) i) k
def AOut.whole:AOut->Bool|.call .heap _ _=>true|.round ..=>true|_=>false
theorem Qtj{m}{x}{out}(ho:out.whole=true)(hm:(aCall m x args).run h=some (out,a)):a=h/\(∀h',(aCall m x args).run h'=some (out,h')):=by
 cases x<;>simp only[aCall]at hm<;>try(cases hm;done)
 ·cases m with|heap=>simp only[HM.run,Zab,Zal]at hm;obtain⟨h1,rfl⟩:=hm;exact⟨rfl,fun h'=>by grind[aCall,HM.run]⟩|pure=>simp only[HM.run,Zab,Zal]at hm;obtain⟨rfl,rfl⟩:=hm;cases ho|borrow=>simp only at hm;obtain⟨c,d,f,b⟩:=run_bind hm;simp only[HM.run,Zab,Zal]at b;obtain⟨rfl,rfl⟩:=b;cases ho
 cases m<;>simp only[HM.run,Zab,Zal,reduceCtorEq]at hm;obtain⟨h1,rfl⟩:=hm;exact⟨rfl,fun h'=>by grind[aCall,HM.run]⟩
theorem Qmy{s}{out}(ho:out.whole=true)(hm:(aop i T s).run h=some (out,a)):a=h/\(∀h',(aop i T s).run h'=some (out,h')):=by
 have lf:∀(o:Option AV),(lift o).run h≠some (out,a):=by intro o e;obtain⟨v,_,k⟩:=QaZ e;cases k;cases ho
 have hf:∀(m:HM AV),(hval m).run h≠some (out,a):=by intro m e;obtain⟨v,h1,_,k⟩:=QaU e;cases k;cases ho
 have b:∀(u:AV),(HM.ret (AOut.val u)).run h≠some (out,a):=by intro u e;simp only[HM.run,Zab,Zal]at e;obtain⟨rfl,rfl⟩:=e;cases ho
 cases s<;>simp only[aop]at hm⊢<;>first|exact absurd hm (lf _)|exact absurd hm (hf _)|exact absurd hm (b _)|(simp only[HM.run,reduceCtorEq]at hm;done)|exact Qtj ho hm
theorem StepX.local{s}{fp}(Q:StepX P i s T h v h1 fp)(S:∀j∈slotsOf s.opds,lk T j=lk T' j)(E:fp.all=false->∀b∈fp.R,h.get b=h'.get b)(hA:fp.all=true->∀b,h.get b=h'.get b):∃o,StepX P i s T' h' v o fp/\(fp.all=false->(∀b∈fp.W,o.get b=h1.get b)/\(∀b,b∉fp.W->o.get b=h'.get b)/\∀b,b∉fp.W->h1.get b=h.get b)/\(fp.all=true->o=h1):=by
 obtain⟨out,A,hm,k⟩:=Q;have z:=QkS (i:=i) (s:=s) S;have gen:fp=fpOf ((aop i T s).fp h)->(∀b∈((aop i T s).fp h).1,h.get b=h'.get b)->∃a,(aop i T' s).run h'=some (out,a)/\fpOf ((aop i T' s).fp h')=fp/\(∀b∈fp.W,a.get b=A.get b)/\(∀b,b∉fp.W->a.get b=h'.get b)/\∀b,b∉fp.W->A.get b=h.get b:=by
  intro e c;obtain⟨a,l,t,x,w,y⟩:=(aop i T s).local h h' out A hm c;rw[z]at l t;refine⟨a,l,?_,?_,?_,?_⟩;·rw[t,e,z]
  ·rw[e];exact x
  ·rw[e];exact w
  rw[e];exact y
 match out,hm,k with
 |.val u,hm,k=>obtain⟨rfl,rfl,e⟩:=k;obtain⟨a,l,t,x,w,y⟩:=gen e (by have:=E (by rw[e];rfl);rw[e]at this;exact this);exact⟨a,⟨_,a,l,rfl,rfl,t.symm⟩,fun _=>⟨x,w,y⟩,fun d=>by rw[e]at d;cases d⟩|.call .pure f args,hm,k=>obtain⟨m,rfl,e⟩:=k;obtain⟨a,l,t,x,w,y⟩:=gen e (by have:=E (by rw[e];rfl);rw[e]at this;exact this);exact⟨a,⟨_,a,l,m,rfl,t.symm⟩,fun _=>⟨x,w,y⟩,fun d=>by rw[e]at d;cases d⟩|.call .borrow f args,hm,k=>obtain⟨m,X,rfl,e⟩:=k;obtain⟨a,l,t,x,w,y⟩:=gen e (by have:=E (by rw[e];rfl);rw[e]at this;exact this);exact⟨a,⟨_,a,l,m,X,rfl,t.symm⟩,fun _=>⟨x,w,y⟩,fun d=>by rw[e]at d;cases d⟩|.call .heap f args,hm,k=>
  obtain⟨rfl,p⟩:=Qmy rfl hm;rcases k with⟨m,e⟩|⟨b,g,xs,m,q,rfl,e⟩|⟨n,R,Z,hN⟩|⟨B,D,W,l,V,L,Y,f4,f5,O,f7,M,f9,U,I,rfl,e⟩;·have c:=hA (by rw[e]);refine⟨h1,⟨.call .heap f args,h',?_,.inl ⟨QoG c m,e⟩⟩,⟨fun d=>(by simp_all),fun _=>rfl⟩⟩;simp_all
  ·have H:h'.get b=some (.cells g xs):=by simp_all
   have K:=m.2.2.2.2.1;refine⟨h'.set b (.dead g),⟨.call .heap f args,h',?_,.inr (.inl ⟨b,g,xs,m,H,rfl,e⟩)⟩,⟨fun _=>?_,fun d=>(by simp_all)⟩⟩;·simp_all
   simp_all[Zcl]
  ·have c:fp.all=false/\(∀b∈R,b∈fp.R):=by grind
   have C:(n=args/\R=[])\/((mapH (frzH 4) args).run h'=some (n,h')/\R=((mapH (frzH 4) args).fp h').1):=by grind[HM.Qtf,Qdc,QeE]
   rcases hN with⟨N,len,sz,J,F,K,hi,rfl,rfl,e⟩|⟨J,F,rfl,e⟩
   ·have G:h'.get i=none:=by simp_all
    refine⟨h'.set i (.cells 0 N),⟨.call .heap f args,h',?_,.inr (.inr (.inl ⟨n,R,C,.inl ⟨N,len,sz,J,F,K,G,rfl,rfl,e⟩⟩))⟩,⟨fun _=>?_,fun d=>(by simp_all)⟩⟩;·simp_all
    simp_all[Zcl]
   refine⟨h',⟨.call .heap f args,h',?_,.inr (.inr (.inl ⟨n,R,C,.inr ⟨J,F,rfl,e⟩⟩))⟩,⟨fun _=>?_,fun d=>(by simp_all)⟩⟩;·simp_all
   simp_all
  ·have c:∀b∈D,A.get b=h'.get b:=fun b q=>E (by rw[e]) b (by simp_all);have hpk:pick A B=pick h' B:=Qqm fun b q=>c b (M b q);have hD:∀b∈D,b<lim:=fun b q=>Qd7 L q;refine⟨over l h' D,⟨.call .heap f args,h',?_,.inr (.inr (.inr ⟨B,D,W,l,V,L,Y,fun b q=>by simp_all,by simp_all,O,f7,M,fun b q hB=>by simp_all,fun b q hW=>by simp_all,I,rfl,e⟩))⟩,⟨fun _=>?_,fun d=>(by simp_all)⟩⟩;·simp_all
   simp_all[QfM]|.round b g args,hm,k=>obtain⟨m,e⟩:=k;obtain⟨rfl,p⟩:=Qmy rfl hm;have c:=hA (by rw[e]);refine⟨h1,⟨.round b g args,h',?_,QoH c m,e⟩,⟨fun d=>(by simp_all),fun _=>rfl⟩⟩;rw[<-z];exact p h'
theorem StepV.local{fp}(c:StepV P i s T h v h1 fp)(k:∀j∈s.reads,lk T j=lk T' j)(l:fp.all=false->∀b∈fp.R,h.get b=h'.get b)(hA:fp.all=true->∀b,h.get b=h'.get b):∃a,StepV P i s T' h' v a fp/\(fp.all=false->(∀b∈fp.W,a.get b=h1.get b)/\(∀b,b∉fp.W->a.get b=h'.get b)/\∀b,b∉fp.W->h1.get b=h.get b)/\(fp.all=true->a=h1):=by unfold StepV at c⊢;cases m:s.guard with|none=>rw[m]at c;exact StepX.local c (fun j f=>k j (by simp[SOper.reads,f])) l hA|some p=>
 obtain⟨g,d⟩:=p;rw[m]at c;simp only at c⊢;obtain⟨b,o,c⟩:=c;have n:wantedA (lk T' g) d=some b:=by simp_all[SOper.reads]
 split at c;·rename_i e;obtain⟨a,t,q⟩:=StepX.local c (fun j f=>k j (by simp[SOper.reads,f])) l hA;grind
 simp_all
def disj(xs ys:List Nat):Bool:=xs.all fun x=>!ys.contains x
def FP.apart(a b:FP):Bool:=match a.all,b.all with|true,true=>false|true,false=>b.R.isEmpty&&b.W.isEmpty|false,true=>a.R.isEmpty&&a.W.isEmpty|false,false=>disj a.W b.R&&disj a.W b.W&&disj b.W a.R
theorem Qgv{ys}(c:disj xs ys=true)(h1:b∈xs)(a:b∈ys):False:=by simp_all[disj]
theorem QhH(h:optIn d xs=false){j}(a:j∈xs):d≠some j:=by rintro rfl;grind[optIn]
theorem StepV.comm{j}{u}{m B}{fs ft}(G:StepV P i s A.T A.h v m fs)(H:StepV P j t (putD A.T s.dst v) m u B ft)(F:s.apart t=true)(hf:fs.apart ft=true):∃a c,StepV P j t A.T A.h u a ft/\StepV P i s (putD A.T t.dst u) a v c fs/\SEq ⟨putD (putD A.T t.dst u) s.dst v,c⟩ ⟨putD (putD A.T s.dst v) t.dst u,B⟩:=by
 simp only[SOper.apart,Zac,Zbh]at F;obtain⟨⟨R,T⟩,Y⟩:=F;have X:∀x,s.dst=some x->t.dst≠some x:=by grind
 have n:∀x,lk (putD (putD A.T t.dst u) s.dst v) x=lk (putD (putD A.T s.dst v) t.dst u) x:=by intro x;simp only[QbJ];grind
 have p:∀x∈t.reads,lk (putD A.T s.dst v) x=lk A.T x:=fun x K=>by rw[QbJ,if_neg (QhH R K)]
 have o:∀x∈s.reads,lk A.T x=lk (putD A.T t.dst u) x:=fun x K=>by rw[QbJ,if_neg (QhH T K)]
 have z:fs.all=false->∀b,b∉fs.W->m.get b=A.h.get b:=by intro S;obtain⟨_,_,k,_⟩:=StepV.local (T':=A.T) (h':=A.h) G (fun _ _=>rfl) (fun _ _ _=>rfl) (fun _ _=>rfl);simp_all
 have I:ft.all=false->∀b,b∉ft.W->B.get b=m.get b:=by intro S;obtain⟨_,_,k,_⟩:=StepV.local (T':=putD A.T s.dst v) (h':=m) H (fun _ _=>rfl) (fun _ _ _=>rfl) (fun _ _=>rfl);simp_all
 unfold FP.apart at hf;cases d:fs.all<;>cases f:ft.all<;>rw[d,f]at hf<;>simp only[Zat]at hf
 ·simp only[Zac]at hf;obtain⟨⟨M,q⟩,Q⟩:=hf;obtain⟨a,C,g,_⟩:=StepV.local (T':=A.T) (h':=A.h) H p (fun _ b y=>z d b (fun hw=>Qgv M hw y)) (fun h=>by simp_all);obtain⟨V,N,_⟩:=g f;obtain⟨c,E,l,_⟩:=StepV.local (T':=putD A.T t.dst u) (h':=a) G o (fun _ b y=>(N b (fun hw=>Qgv Q hw y)).symm) (fun h=>by simp_all);obtain⟨U,O,_⟩:=l d;refine⟨a,c,C,E,n,fun b=>?_⟩;show c.get b=B.get b;by_cases hw:b∈fs.W;·grind[Qgv]
  grind
 ·simp only[Zac,List.isEmpty_iff]at hf;obtain⟨M,q⟩:=hf;have L:∀b,m.get b=A.h.get b:=fun b=>z d b (by rw[q];simp);obtain⟨a,C,_,g⟩:=StepV.local (T':=A.T) (h':=A.h) H p (fun h=>by simp_all) (fun _ b=>L b);have g:=g f;subst g;obtain⟨c,E,l,_⟩:=StepV.local (T':=putD A.T t.dst u) (h':=a) G o (fun _ b y=>by simp_all) (fun h=>by simp_all);obtain⟨_,O,_⟩:=l d;exact⟨a,c,C,E,n,fun b=>O b (by rw[q];simp)⟩
 simp only[Zac,List.isEmpty_iff]at hf;obtain⟨M,q⟩:=hf;have J:∀b,B.get b=m.get b:=fun b=>I f b (by rw[q];simp);obtain⟨a,C,g,_⟩:=StepV.local (T':=A.T) (h':=A.h) H p (fun _ b y=>by simp_all) (fun h=>by simp_all);obtain⟨_,N,_⟩:=g f;have w:∀b,A.h.get b=a.get b:=fun b=>(N b (by rw[q];simp)).symm;obtain⟨c,E,_,l⟩:=StepV.local (T':=putD A.T t.dst u) (h':=a) G o (fun h=>by simp_all) (fun _ b=>w b);have l:=l d;subst l;exact⟨a,c,C,E,n,fun b=>(J b).symm⟩
theorem StepV.congr{B}{fp}(k:StepV P i s A.T A.h v h1 fp)(e:SEq A B):∃a,StepV P i s B.T B.h v a fp/\SEq ⟨putD A.T s.dst v,h1⟩ ⟨putD B.T s.dst v,a⟩:=by
 obtain⟨a,l,f,g⟩:=StepV.local (T':=B.T) (h':=B.h) k (fun j _=>e.1 j) (fun _ b _=>e.2 b) (fun _ b=>e.2 b);refine⟨a,l,fun j=>?_,fun b=>?_⟩;·show lk (putD A.T s.dst v) j=lk (putD B.T s.dst v) j;rw[QbJ,QbJ,e.1 j]
 show h1.get b=a.get b;cases c:fp.all with|true=>rw[g c]|false=>
  obtain⟨m,h,d⟩:=f c;by_cases hw:b∈fp.W;·simp_all
  rw[d b hw,h b hw,e.2 b]
end Go.AM
theorem Go.AM.bHSvA{p:Prop}(h:p:=by
 rename_i s z;cases s<;>try(cases hc;done)
 refine key _ rfl fun v h1 hm=>?_;unfold aBox at hm⊢;split at hm;·simp_all[Qfn]
 grind[HM.run]):p:=h
theorem Go.AM.b1WW0{p:Prop}(h:p:=by
 simp only at f;show(if k=j then Q' .normal g l else Q' (.exit k) g l);split;·rename_i e;rw[if_pos e]at f;exact n .normal B m g l f S' E'
 rename_i e;rw[if_neg e]at f;exact n (.exit k) B m g l f S' E'):p:=h
namespace Go.AM
variable{P:Program}
variable{v:AV}{K:Act->World->Prop}{listed:Array Bool}{ops:Array Oper}{a d m:Array Value}{c c0:Ctx (okc P)}{Q:Exit->Act->World->Prop}{h h1:Heap}{L args xs:List AV}{B:List Nat}{sops:List SOper}{N b f g i n:Nat}{fpf:Nat->FP}{F0:Nat->Prop}{o:Oper}{s:SOper}{A C:St}{T:Tmps}{cv:Value}{w w' w0:World}
mutual theorem VRel.noRef{ok:Okc}{c c':Ctx ok}{w:World}(hF:∀k,c.F k->c'.F k):∀(x:AV)(v:Value),noRef x=true->VRel c w x v->VRel c' w x v
 |.any,_,_,_=>by simp[VRel]|.bool b,_,_,h=>by simpa[VRel]using h|.int k n,_,_,h=>by simpa[VRel]using h|.str s,_,_,h=>by simpa[VRel]using h|.agg cs,v,hn,h=>by simp only[VRel]at h⊢;simp only[AM.noRef]at hn;obtain⟨vs,rfl,h⟩:=h;exact⟨vs,rfl,VRels.noRef hF cs _ hn h⟩|.tup cs,v,hn,h=>by simp only[VRel]at h⊢;simp only[AM.noRef]at hn;obtain⟨vs,rfl,h⟩:=h;exact⟨vs,rfl,VRels.noRef hF cs _ hn h⟩|.nilptr,_,_,h=>by simpa[VRel]using h|.ptr b g off,v,hn,h=>by simp[AM.noRef]at hn|.fptr cs,v,hn,h=>by simp only[VRel]at h⊢;simp only[AM.noRef]at hn;obtain⟨cb,off,C,e,fr,h1,h2,h3,h4⟩:=h;exact⟨cb,off,C,e,fr,h1,hF _ h2,h3,VPre.noRef hF cs _ hn h4⟩|.nilsl,_,_,h=>by simpa[VRel]using h|.sl b g off len sz,v,hn,h=>by simp[AM.noRef]at hn|.fsl cs len sz,v,hn,h=>by
  simp only[VRel]at h⊢;simp only[AM.noRef]at hn;rcases h with h|⟨cb,off,cap,C,e,fr,h1,h2,h3,h4,h5,h6⟩;·exact .inl h
  ·exact .inr ⟨cb,off,cap,C,e,fr,h1,h2,h3,hF _ h4,h5,VPre.noRef hF cs _ hn h6⟩|.esl,_,_,h=>by simpa[VRel]using h|.nsl,_,_,h=>by simpa[VRel]using h|.nilmap,_,_,h=>by simpa[VRel]using h|.map b g,v,hn,h=>by simp[AM.noRef]at hn|.fmap ks vs,v,hn,h=>by simp only[VRel]at h⊢;simp only[AM.noRef,Zac]at hn;obtain⟨mb,es,clock,h1,h2,h3,h4,h5,h6,h7⟩:=h;exact⟨mb,es,clock,h1,hF _ h2,h3,h4,h5,VRels.noRef hF ks _ hn.1 h6,VRels.noRef hF vs _ hn.2 h7⟩|.nilfn,_,_,h=>by simpa[VRel]using h|.fn f x y,v,hn,h=>by simp only[VRel]at h⊢;simp only[AM.noRef,Zac]at hn;obtain⟨x',y',h1,h2,h3⟩:=h;exact⟨x',y',h1,VRels.noRef hF x _ hn.1 h2,VRels.noRef hF y _ hn.2 h3⟩|.nilif,_,_,h=>by simpa[VRel]using h|.yld b g,v,hn,h=>by simp[AM.noRef,AM.flatV]at hn|.typed _ _ _,v,hn,h=>by simp[AM.noRef,AM.flatV]at hn|.ifc t x,v,hn,h=>by simp only[VRel]at h⊢;simp only[AM.noRef]at hn;obtain⟨x',h1,h2⟩:=h;exact⟨x',h1,VRel.noRef hF x _ hn h2⟩theorem VRels.noRef{ok:Okc}{c c':Ctx ok}{w:World}(hF:∀k,c.F k->c'.F k):∀(x:List AV)(v:List Value),noRefs x=true->VRels c w x v->VRels c' w x v|[],_,_,h=>by simpa[VRels]using h|x::xs,v,hn,h=>by simp only[VRels]at h⊢;simp only[AM.noRefs,Zac]at hn;obtain⟨u,us,h1,h2,h3⟩:=h;exact⟨u,us,h1,VRel.noRef hF x _ hn.1 h2,VRels.noRef hF xs _ hn.2 h3⟩theorem VPre.noRef{ok:Okc}{c c':Ctx ok}{w:World}(hF:∀k,c.F k->c'.F k):∀(x:List AV)(v:List Value),noRefs x=true->VPre c w x v->VPre c' w x v|[],_,_,_=>by simp[VPre]|x::xs,v,hn,h=>by simp only[VPre]at h⊢;simp only[AM.noRefs,Zac]at hn;obtain⟨u,us,h1,h2,h3⟩:=h;exact⟨u,us,h1,VRel.noRef hF x _ hn.1 h2,VPre.noRef hF xs _ hn.2 h3⟩end
mutual theorem VRel.flat{ok:Okc}{c c':Ctx ok}{w w':World}:∀(x:AV)(v:Value),flatV x=true->VRel c w x v->VRel c' w' x v|.any,_,_,_=>by simp[VRel]|.bool b,_,_,h=>by simpa[VRel]using h|.int k n,_,_,h=>by simpa[VRel]using h|.str s,_,_,h=>by simpa[VRel]using h|.agg cs,v,hn,h=>by simp only[VRel]at h⊢;simp only[flatV]at hn;obtain⟨vs,rfl,h⟩:=h;exact⟨vs,rfl,VRels.flat cs _ hn h⟩|.tup cs,v,hn,h=>by simp only[VRel]at h⊢;simp only[flatV]at hn;obtain⟨vs,rfl,h⟩:=h;exact⟨vs,rfl,VRels.flat cs _ hn h⟩|.nilptr,_,_,h=>by simpa[VRel]using h|.ptr b g off,v,hn,h=>by simp[flatV]at hn|.fptr cs,v,hn,h=>by simp[flatV]at hn|.nilsl,_,_,h=>by simpa[VRel]using h|.sl b g off len sz,v,hn,h=>by simp[flatV]at hn|.fsl cs len sz,v,hn,h=>by simp[flatV]at hn|.esl,_,_,h=>by simpa[VRel]using h|.nsl,_,_,h=>by simpa[VRel]using h|.nilmap,_,_,h=>by simpa[VRel]using h|.map b g,v,hn,h=>by simp[flatV]at hn|.fmap ks vs,v,hn,h=>by simp[flatV]at hn|.nilfn,_,_,h=>by simpa[VRel]using h|.fn f x y,v,hn,h=>by simp only[VRel]at h⊢;simp only[flatV,Zac]at hn;obtain⟨x',y',h1,h2,h3⟩:=h;exact⟨x',y',h1,VRels.flat x _ hn.1 h2,VRels.flat y _ hn.2 h3⟩|.nilif,_,_,h=>by simpa[VRel]using h|.yld b g,v,hn,h=>by simp[AM.noRef,AM.flatV]at hn|.typed _ _ _,v,hn,h=>by simp[AM.noRef,AM.flatV]at hn|.ifc t x,v,hn,h=>by simp only[VRel]at h⊢;simp only[flatV]at hn;obtain⟨x',h1,h2⟩:=h;exact⟨x',h1,VRel.flat x _ hn h2⟩theorem VRels.flat{ok:Okc}{c c':Ctx ok}{w w':World}:∀(x:List AV)(v:List Value),flatVs x=true->VRels c w x v->VRels c' w' x v|[],_,_,h=>by simpa[VRels]using h|x::xs,v,hn,h=>by simp only[VRels]at h⊢;simp only[flatVs,Zac]at hn;obtain⟨u,us,h1,h2,h3⟩:=h;exact⟨u,us,h1,VRel.flat x _ hn.1 h2,VRels.flat xs _ hn.2 h3⟩end
def only{ok}(F:Nat->Prop)(n:Nat:=0):Ctx ok:={ρ:=fun _ _=>none,F:=F,O:=fun _=>False,base:=n}
theorem HRel.only{ok}{F:Nat->Prop}{n}{w:World}(d:∀k,F k->k<w.heap.size):HRel (only (ok:=ok) F n) .e w:=⟨fun _ _ _=>rfl,fun b x a=>by simp[Tr.get]at a,fun b x a=>by simp[Tr.get]at a,fun b g m f i base c l=>by obtain⟨x,a,_⟩:=l;simp[Tr.get]at a,fun _ _ h=>h,d,fun _ h=>h.elim⟩
theorem PSpec.pure(S:PSpec P f args v)(H:HRel c h w)(q:VRels c w args a.toList):Callable P f/\Calls P f a w (Rets P c w h v):=by
 obtain⟨p,m,s,hc,n⟩:=S;refine⟨hc,(n (only c.F) w a (HRel.only H.inF) (VRels.noRef (c:=c) (c':=only c.F) (fun _ h=>h) _ _ p q)).mono ?_⟩;rintro e i⟨o,d,rfl,E,H',V⟩;have b:∀k,k<w.heap.size->i.heap[k]?=w.heap[k]?:=fun k b=>E.keep k b (fun h=>h);obtain⟨E1,H1⟩:=H.grow E.os E.tape E.output E.size b;have g:∀k,d.F k->¬c.O k/\k<i.heap.size:=by
  intro k b;refine⟨fun l=>?_,H'.inF k b⟩;rcases E.frzNew k b with h|h|h;·exact H.disj k h l
  ·exact h
  have:=H.inO k l;omega
 refine⟨o,{c with F:=d.F},rfl,?_,H1.frozen d.F (fun k b=>E.frz k b) g,VRel.noRef (c:=d) (c':={c with F:=d.F}) (fun _ h=>h) _ _ m V⟩;refine⟨E1.os,E1.tape,E1.output,E1.size,E1.shape,E1.keep,E1.rho,fun k b=>E.frz k b,fun k b=>?_,E1.own,rfl⟩;rcases E.frzNew k b with h|h|h;·exact .inl h
 ·exact h.elim
 omega
theorem PSpec.borrow(S:PSpec P f args v)(m:flatV v=true)(H:HRel c h w)(g:VRels (lent c) w args a.toList):Callable P f/\Calls P f a w (Rets P c w h v):=by obtain⟨d,q,s,hc,n⟩:=S;have l:∀k,(c.F k\/c.O k)->k<w.heap.size:=fun k b=>b.elim (H.inF k) (H.inO k);refine⟨hc,(n (only fun k=>c.F k\/c.O k) w a (HRel.only l) (VRels.noRef (c:=lent c) (c':=only fun k=>c.F k\/c.O k) (fun _ h=>h) _ _ d g)).mono ?_⟩;rintro e i⟨o,p,rfl,E,H',V⟩;have b:∀k,k<w.heap.size->i.heap[k]?=w.heap[k]?:=fun k b=>E.keep k b (fun h=>h);obtain⟨E1,H1⟩:=H.grow E.os E.tape E.output E.size b;exact⟨o,c,rfl,E1,H1,VRel.flat _ _ m V⟩
theorem HSpec.heap{h'}(S:HSpec P f args h v h')(H:HRel c h w)(b:VRels c w args a.toList):Callable P f/\Calls P f a w (Rets P c w h' v):=⟨S.1,S.2 c w a H b⟩
theorem VPre.flat{ok}{c c':Ctx ok}:∀{xs:List AV}{vs:List Value},flatVs xs=true->VPre c w xs vs->VPre c' w' xs vs|[],_,_,_=>by simp[VPre]|x::xs,vs,hf,b=>by simp only[flatVs,Zac]at hf;simp only[VPre]at b⊢;obtain⟨v,a,rfl,d,f⟩:=b;exact⟨v,a,rfl,VRel.flat _ _ hf.1 d,VPre.flat hf.2 f⟩
theorem QkT{ok}{c c1:Ctx ok}(h1:c1.ρ b g=c.ρ b g)(h2:∀k,c.F k->c1.F k):∀{args:List AV}{vs:List Value},own1 b g args=true->VRels c w args vs->VRels c1 w args vs
 |[],vs,_,hv=>by grind[VRels]|x::xs,vs,ho,hv=>by
  simp only[VRels]at hv⊢;obtain⟨v,vs',rfl,h3,h4⟩:=hv;have rest:own1 b g xs=true/\VRel c1 w x v:=by
   cases x<;>simp only[own1,Zac,beq_iff_eq]at ho<;>first|exact⟨ho.2,VRel.noRef h2 _ _ ho.1 h3⟩|skip
   obtain⟨⟨rfl,rfl⟩,ho⟩:=ho;simp_all[VRel]
  exact⟨v,vs',rfl,rest.2,QkT h1 h2 rest.1 h4⟩
theorem GSpec.give(S:GSpec P f args b g xs v)(H:HRel c h w)(K:h.get b=some (.cells g xs))(X:VRels c w args d.toList):Callable P f/\Calls P f d w (Rets P c w (h.set b (.dead g)) v):=by
 obtain⟨hc,ho,hv,hx,u,hs⟩:=S;have B:∀{y:Blk}k,(one b y).get k=if k=b then some y else none:=fun{y}k=>Qus u k;have n:Live h b g:=⟨_,K,rfl,fun _=>by simp⟩;let A:Ctx (okc P):={ρ:=fun k y=>if k=b then c.ρ k y else none,F:=c.F,O:=fun k=>∃base,c.ρ b g=some (.loc k base),base:=c.base};have p:∀y,A.ρ b y=c.ρ b y:=fun y=>if_pos rfl;have q:∀k,A.O k->c.O k:=fun k⟨base,a⟩=>H.owned n a;have H1:HRel A (one b (.cells g xs)) w:=by
  refine⟨fun k a y=>?_,fun k x a y s=>?_,fun k x a=>?_,fun k y Q R o base i T N _ _=>?_,fun k G m=>H.disj k G (q k m),H.inF,fun k m=>H.inO k (q k m)⟩;·grind
  ·rw[B]at a;split at a;·rename_i e;subst e;cases a;rw[p];exact H.later k _ K y s
   cases a
  ·rw[B]at a;split at a
   ·rename_i e;subst e;cases a;rcases H.blk k _ K with⟨h1,O⟩|⟨o,base,C,e,fr,h1,O,h3,U,Z,h6⟩;·exact .inl ⟨(p _).trans h1,O⟩
    exact .inr ⟨o,base,C,e,fr,(p _).trans h1,⟨base,h1⟩,h3,U,Z,VPre.flat hx h6⟩
   cases a
  grind
 refine⟨hc,(hs A w d H1 (QkT (p g) (fun _ h=>h) ho X)).mono ?_⟩;rintro e Y⟨cv,z,rfl,E,hin,V⟩;have t:∀k,z.F k\/z.O k->c.F k\/A.O k\/w.heap.size<=k:=fun k a=>a.elim (E.frzNew k) fun h=>.inr (E.own k h);let L:Ctx (okc P):={ρ:=c.ρ,F:=fun k=>z.F k\/z.O k,O:=fun k=>c.O k/\¬(z.F k\/z.O k),base:=c.base};have E2:Evo c w L Y:=⟨E.os,E.tape,E.output,E.size,E.shape,fun k a m=>E.keep k a fun h=>m (q k h),fun _ _ _ h=>h,fun k a=>.inl (E.frz k a),fun k a=>(t k a).elim .inl fun h=>h.elim (fun h=>.inr (.inl (q k h))) fun h=>.inr (.inr h),fun k a=>.inl a.1,rfl⟩;refine⟨cv,L,rfl,E2,?_,VRel.noRef (c:=lent z) (c':=L) (fun _ h=>h) _ _ hv V⟩;have l:∀k,(h.set b (.dead g)).get k=if k=b then some (.dead g)else h.get k:=fun k=>Zcl _ u k _;have I:∀k y,Live (h.set b (.dead g)) k y->Live h k y:=by
  rintro k y⟨x,a,hg,J⟩;rw[l]at a;split at a;·grind
  exact⟨x,a,hg,J⟩
 refine⟨fun k a y=>?_,fun k x a y s=>?_,fun k x a=>?_,fun k y Q R o base i T N p1 p2=>H.inj k y Q R o base i (I _ _ T) (I _ _ N) p1 p2,fun k G m=>m.2 G,hin,fun k m=>Zbb (H.inO k m.1) E.size⟩
 ·rw[l]at a;split at a;·cases a
  exact H.fresh k a y
 ·rw[l]at a;split at a;·rename_i e;subst e;cases a;exact H.later k _ K y s
  exact H.later k x a y s
 rw[l]at a;split at a;·cases a;trivial
 rename_i e;refine Zco (E2.ext H.disj) (fun o base J hp=>?_) (H.blk k x a);have m:=H.owned ⟨x,a,rfl,J⟩ hp;have F:¬A.O o:=by rintro⟨i,M⟩;exact e (H.inj _ _ _ _ _ _ _ ⟨x,a,rfl,J⟩ n hp M)
 refine⟨⟨m,fun G=>?_⟩,E.keep o (H.inO _ m) F⟩;rcases t o G with h1|h1|h1;·exact H.disj o h1 m
 ·exact F h1
 have:=H.inO o m;omega
theorem GSpec.heap(S:GSpec P f args b g xs v)(a:h.get b=some (.cells g xs)):HSpec P f args h v (h.set b (.dead g)):=⟨S.1,fun _ _ _ H c=>(S.give H a c).2⟩
theorem NSpec.new{len sz}{ys}(S:NSpec P f L ys len sz)(H:HRel c h w)(K:∀k,c.F k->F0 k)(hFO:∀k,F0 k->c.F k\/c.O k)(N:flatVs ys=true\/(noRefs ys=true/\∀k,F0 k->c.F k))(ha:VRels (only (ok:=okc P) F0) w L d.toList)(B:i<lim)(hi:h.get i=none):Calls P f d w (Rets P c w (h.set i (.cells 0 ys)) (.sl i 0 0 len sz)):=by
 obtain⟨_,_,b,g,off,cs,h',m,hoff,hb,_,hs⟩:=S;have hF0:∀k,F0 k->k<w.heap.size:=fun k a=>(hFO k a).elim (H.inF k) (H.inO k);refine(hs (only F0) w d (HRel.only hF0) ha).mono ?_;rintro e X⟨cv,O,rfl,E,H',V⟩;have l:∀k,k<w.heap.size->X.heap[k]?=w.heap[k]?:=fun k a=>E.keep k a (fun h=>h);have Q:∀k,O.O k->w.heap.size<=k:=fun k s=>(E.own k s).elim (fun h=>h.elim) id;obtain⟨E1,H1⟩:=H.grow E.os E.tape E.output E.size l;let F2:Nat->Prop:=fun k=>O.F k/\(c.F k\/w.heap.size<=k);have G:∀k,c.F k->F2 k:=fun k a=>⟨E.frz k (K k a),.inl a⟩;have H2:HRel ({c with F:=F2}:Ctx (okc P)) h X:=H1.frozen F2 G fun k a=>⟨fun s=>a.2.elim (fun h=>H.disj k h s) fun h=>(by have:=H.inO k s;omega),H'.inF k a.1⟩;have E2:Evo c w ({c with F:=F2}:Ctx (okc P)) X:=⟨E1.os,E1.tape,E1.output,E1.size,E1.shape,E1.keep,E1.rho,G,fun k a=>a.2.elim .inl fun h=>.inr (.inr h),E1.own,rfl⟩;have T:∀y,c.ρ i y=none:=fun y=>H.fresh i hi y;rcases H'.blk b _ hb with⟨hp,rfl⟩|⟨q,base,C,ty,fr,hp,s,hC,Z,hbs,A⟩
 ·simp only[VRel]at V;rcases V with⟨_,rfl,rfl,rfl⟩|⟨q,base,o,cap,C,ty,fr,u,_⟩;·simp only[List.drop_nil]at m;subst m;have F:=H2.putNil (b:=i) (g:=0) B (fun y _=>T y) (.inl (T 0));exact⟨_,_,rfl,E2.trans F.1,F.2,by simp_all[VRel,Qa7]⟩
  simp_all
 simp only[VRel]at V;rcases V with⟨u,_⟩|⟨cb2,base2,o,cap,C2,ty2,fr2,u,rfl,hlc,R,hcap⟩;·simp_all
 rw[show O.ρ b g=_ from hp]at u;cases u;rw[hC]at R;cases R;have hcn:=Q q s;have hlen:=Qbq A;simp at hlen;have hy:=Qbn off A;rw[Za1,m]at hy;have hcF:¬O.F q:=fun h=>H'.disj q h s;have hcO:¬c.O q:=fun h=>by have:=H.inO q h;omega
 let z:Ctx (okc P):=({c with F:=F2}:Ctx (okc P)).with i 0 (.loc q (base+off)) (some q);have J:∀k y,k≠i->z.ρ k y=c.ρ k y:=fun k y hne=>by show(if k=i/\y=0 then _ else c.ρ k y)=_;simp_all
 have hr2:∀y,y≠0->z.ρ i y=none:=fun y hne=>by show(if i=i/\y=0 then _ else c.ρ i y)=_;simp_all
 have hr0:z.ρ i 0=some (.loc q (base+off)):=Qa7;have I:∀k,z.O k->c.O k\/k=q:=fun k a=>a.imp id fun h=>ZbZ h;have E3:Evo c w z X:=⟨E1.os,E1.tape,E1.output,E1.size,E1.shape,fun k h1 _=>l k h1,fun k y p hp=>by grind,G,fun k a=>a.2.elim .inl fun h=>.inr (.inr h),fun k a=>(I k a).elim .inl fun h=>.inr (by omega),rfl⟩;have n:∀k,(h.set i (.cells 0 ys)).get k=if k=i then some (.cells 0 ys)else h.get k:=fun k=>Zcl _ B k _;refine⟨_,z,rfl,E3,?_,?_⟩
 ·refine⟨fun k a y=>?_,fun k x a y hlt=>?_,fun k x a=>?_,fun k y k' y' v b1 b1' l1 l2 p1 p2=>?_,fun k K s=>?_,fun k K=>H'.inF k K.1,fun k s=>?_⟩
  ·rw[n]at a;split at a;·cases a
   rename_i e;rw[J k y e];exact H.fresh k a y
  ·rw[n]at a;split at a;·grind
   rename_i e;rw[J k y e];exact H.later k x a y hlt
  ·rw[n]at a;split at a
   ·rename_i e;subst e;cases a;refine .inr ⟨q,base+off,C,ty,fr,hr0,.inr rfl,hC,Z,by omega,?_⟩;rcases N with N|⟨N,hFc⟩;·exact VPre.flat N hy
    refine VPre.noRef (c:=O) (c':=z) (fun k U=>⟨U,?_⟩) _ _ N hy;rcases E.frzNew k U with h1|h1|h1;·exact .inl (hFc k h1)
    ·exact h1.elim
    omega
   rename_i e;refine Zco (E3.ext H.disj) (fun cb' base' Y t=>?_) (H.blk k x ‹_›);have M:=H.owned ⟨x,a,rfl,Y⟩ t;exact⟨.inl M,l cb' (H.inO _ M)⟩
  ·have key:∀k y b,Live (h.set i (.cells 0 ys)) k y->z.ρ k y=some (.loc v b)->(k=i/\v=q)\/(k≠i/\Live h k y/\c.ρ k y=some (.loc v b)/\v<w.heap.size):=by
    rintro k y b⟨x,a,hg,Y⟩t;rw[n]at a;split at a;·grind
    rename_i e;rw[J k y e]at t;exact .inr ⟨e,⟨x,a,hg,Y⟩,t,H.inO _ (H.owned ⟨x,a,hg,Y⟩ t)⟩
   rcases key k y b1 l1 p1 with⟨k1,k2⟩|⟨k1,k2,k3,k4⟩<;>rcases key k' y' b1' l2 p2 with⟨j1,j2⟩|⟨j1,j2,j3,j4⟩;·rw[k1,j1]
   ·omega
   ·omega
   exact H.inj _ _ _ _ _ _ _ k2 j2 k3 j3
  ·rcases I k s with h1|rfl;·exact K.2.elim (fun h2=>H.disj k h2 h1) fun h2=>by have:=H.inO k h1;omega
   exact hcF K.1
  rcases I k s with h1|rfl;·exact Zbb (H.inO k h1) E.size
  grind
 simp only[VRel];grind
theorem NStep.calls{fp}(N:NStep P i f args h v h1 fp)(H:HRel c h w)(l:VRels c w args a.toList):Callable P f/\Calls P f a w (Rets P c w h1 v):=by
 obtain⟨g,R,n,o⟩:=N;have own:g=args->noRefs g=true->VRels (only (ok:=okc P) c.F) w g a.toList:=fun e p=>by subst e;exact VRels.noRef (c:=c) (c':=only c.F) (fun _ h=>h) _ _ p l
 have lend:(mapH (frzH 4) args).run h=some (g,h)->VRels (lent c) w g a.toList:=fun hm=>(Qdm (Qe4 H 4) _ _ _ _ l hm).2;rcases o with⟨s,len,sz,d,b,m,hi,rfl,rfl,_⟩|⟨d,b,rfl,_⟩
 ·refine⟨d.1,?_⟩;rcases n with⟨e,_⟩|⟨hm,_⟩;·exact d.new H (F0:=c.F) (fun _ h=>h) (fun _ h=>.inl h) (b.imp id fun h=>⟨h.1,fun _ h=>h⟩) (own e d.2.1) m hi
  rcases b with b|⟨b,q⟩;·exact d.new H (F0:=fun k=>c.F k\/c.O k) (fun _ h=>.inl h) (fun _ h=>h) (.inl b) (VRels.noRef (c:=lent c) (c':=only fun k=>c.F k\/c.O k) (fun _ h=>h) _ _ d.2.1 (lend hm)) m hi
  exact d.new H (F0:=c.F) (fun _ h=>h) (fun _ h=>.inl h) (.inr ⟨b,fun _ h=>h⟩) (own q d.2.1) m hi
 rcases n with⟨e,_⟩|⟨hm,_⟩;·subst e;exact d.pure H l
 rcases b with b|b;·exact d.borrow b H (lend hm)
 subst b;exact d.pure H l
theorem NStep.heap{fp}(N:NStep P i f args h v h1 fp):HSpec P f args h v h1:=by
 have hc:Callable P f:=by
  obtain⟨b,R,_,⟨_,_,_,a,_⟩|⟨a,_⟩⟩:=N;·exact a.1
  exact a.2.2.choose_spec.1
 exact⟨hc,fun _ _ _ H c=>(N.calls H c).2⟩
mutual theorem VRel.inB{ok:Okc}{B:List Nat}{c c':Ctx ok}{w:World}(hr:∀b∈B,∀g,c'.ρ b g=c.ρ b g)(hF:∀k,c.F k->c'.F k):∀(x:AV)(v:Value),AM.inB B x=true->VRel c w x v->VRel c' w x v
 |.any,_,_,_=>by simp[VRel]|.bool b,_,_,h=>by simpa[VRel]using h|.int k n,_,_,h=>by simpa[VRel]using h|.str s,_,_,h=>by simpa[VRel]using h|.agg cs,v,hn,h=>by simp only[VRel]at h⊢;simp only[AM.inB]at hn;obtain⟨vs,rfl,h⟩:=h;exact⟨vs,rfl,VRels.inB hr hF cs _ hn h⟩|.tup cs,v,hn,h=>by simp only[VRel]at h⊢;simp only[AM.inB]at hn;obtain⟨vs,rfl,h⟩:=h;exact⟨vs,rfl,VRels.inB hr hF cs _ hn h⟩|.nilptr,_,_,h=>by simpa[VRel]using h|.ptr b g off,v,hn,h=>by simp only[AM.inB,QdI]at hn;simp only[VRel]at h⊢;rw[hr b hn];exact h|.fptr cs,v,hn,h=>by simp only[VRel]at h⊢;simp only[AM.inB]at hn;obtain⟨cb,off,C,e,fr,h1,h2,h3,h4⟩:=h;exact⟨cb,off,C,e,fr,h1,hF _ h2,h3,VPre.inB hr hF cs _ hn h4⟩|.nilsl,_,_,h=>by simpa[VRel]using h|.sl b g off len sz,v,hn,h=>by simp only[AM.inB,QdI]at hn;simp only[VRel]at h⊢;rw[hr b hn];exact h|.fsl cs len sz,v,hn,h=>by
  simp only[VRel]at h⊢;simp only[AM.inB]at hn;rcases h with h|⟨cb,off,cap,C,e,fr,h1,h2,h3,h4,h5,h6⟩;·exact .inl h
  ·exact .inr ⟨cb,off,cap,C,e,fr,h1,h2,h3,hF _ h4,h5,VPre.inB hr hF cs _ hn h6⟩|.esl,_,_,h=>by simpa[VRel]using h|.nsl,_,_,h=>by simpa[VRel]using h|.nilmap,_,_,h=>by simpa[VRel]using h|.map b g,v,hn,h=>by simp only[AM.inB,QdI]at hn;simp only[VRel]at h⊢;rw[hr b hn];exact h|.fmap ks vs,v,hn,h=>by simp only[VRel]at h⊢;simp only[AM.inB,Zac]at hn;obtain⟨mb,es,clock,h1,h2,h3,h4,h5,h6,h7⟩:=h;exact⟨mb,es,clock,h1,hF _ h2,h3,h4,h5,VRels.inB hr hF ks _ hn.1 h6,VRels.inB hr hF vs _ hn.2 h7⟩|.nilfn,_,_,h=>by simpa[VRel]using h|.fn f x y,v,hn,h=>by simp only[VRel]at h⊢;simp only[AM.inB,Zac]at hn;obtain⟨x',y',h1,h2,h3⟩:=h;exact⟨x',y',h1,VRels.inB hr hF x _ hn.1 h2,VRels.inB hr hF y _ hn.2 h3⟩|.nilif,_,_,h=>by simpa[VRel]using h|.yld b g,v,hn,h=>by simp only[AM.inB,QdI]at hn;simp only[VRel]at h⊢;rw[hr b hn];exact h|.ifc t x,v,hn,h=>by simp only[VRel]at h⊢;simp only[AM.inB]at hn;obtain⟨x',h1,h2⟩:=h;exact⟨x',h1,VRel.inB hr hF x _ hn h2⟩|.typed t n x,v,hn,h=>by simp only[VRel]at h⊢;simp only[AM.inB]at hn;exact⟨h.1,VRel.inB hr hF x _ hn h.2⟩theorem VRels.inB{ok:Okc}{B:List Nat}{c c':Ctx ok}{w:World}(hr:∀b∈B,∀g,c'.ρ b g=c.ρ b g)(hF:∀k,c.F k->c'.F k):∀(x:List AV)(v:List Value),inBs B x=true->VRels c w x v->VRels c' w x v|[],_,_,h=>by simpa[VRels]using h|x::xs,v,hn,h=>by simp only[VRels]at h⊢;simp only[AM.inBs,Zac]at hn;obtain⟨u,us,h1,h2,h3⟩:=h;exact⟨u,us,h1,VRel.inB hr hF x _ hn.1 h2,VRels.inB hr hF xs _ hn.2 h3⟩theorem VPre.inB{ok:Okc}{B:List Nat}{c c':Ctx ok}{w:World}(hr:∀b∈B,∀g,c'.ρ b g=c.ρ b g)(hF:∀k,c.F k->c'.F k):∀(x:List AV)(v:List Value),inBs B x=true->VPre c w x v->VPre c' w x v|[],_,_,_=>by simp[VPre]|x::xs,v,hn,h=>by simp only[VPre]at h⊢;simp only[AM.inBs,Zac]at hn;obtain⟨u,us,h1,h2,h3⟩:=h;exact⟨u,us,h1,VRel.inB hr hF x _ hn.1 h2,VPre.inB hr hF xs _ hn.2 h3⟩end
theorem MRel.inB{ok}{c c':Ctx ok}(i:∀b∈B,∀g,c'.ρ b g=c.ρ b g)(d:∀k,c.F k->c'.F k):∀{x:List (AV×AV)}{es:List MapEntry}{clock:Nat},inBe B x=true->MRel c w x es clock->MRel c' w x es clock|[],_,_,_,h=>by simpa[MRel]using h|(k,x)::r,es,clock,a,h=>by simp only[MRel]at h⊢;simp only[inBe,Zac]at a;obtain⟨e,f,h1,p,n,o,l,m⟩:=h;exact⟨e,f,h1,VRel.inB i d k _ a.1.1 p,VRel.inB i d x _ a.1.2 n,o,l,MRel.inB i d a.2 m⟩
theorem FStep.calls{fp}(S:FStep P f args h v h1 fp)(H:HRel c h w)(ha:VRels c w args m.toList):Callable P f/\Calls P f m w (Rets P c w h1 v):=by
 obtain⟨B,D,W,k1,f1,f2,f3,f4,⟨hc,hs⟩,f6,f7,f8,f9,_,_,rfl,_⟩:=S;have hB:∀b∈B,b<lim:=fun b n=>Qd7 f1 n;have hD:∀b∈D,b<lim:=fun b n=>Qd7 f2 n;have I:=Qtg (h:=h) hB (fun b n e=>by grind[blkIn]);have G:=QfM (k:=k1) (h:=h) hD f6;let O:Ctx (okc P):={ρ:=fun k y=>if k∈B then c.ρ k y else none,F:=c.F,O:=fun k=>∃b y base,b∈B/\Live h b y/\c.ρ b y=some (.loc k base),base:=c.base};have d:∀b∈B,∀y,O.ρ b y=c.ρ b y:=fun b n y=>if_pos n;have hrn:∀b,b∉B->∀y,O.ρ b y=none:=fun b n y=>if_neg n;have K:∀k,O.O k->c.O k:=fun k⟨b,y,base,_,U,a⟩=>H.owned U a;have hlB:∀k y,Live (pick h B) k y->k∈B/\Live h k y:=by
  rintro k y⟨x,a,hg,L⟩;rw[I]at a;split at a;·rename_i e;exact⟨e,x,a,hg,L⟩
  cases a
 have H1:HRel O (pick h B) w:=by
  refine⟨fun k a y=>?_,fun k x a y J=>?_,fun k x a=>?_,fun k y z X l base i s q F A=>?_,fun k T o=>H.disj k T (K k o),H.inF,fun k o=>H.inO k (K k o)⟩
  ·rw[I]at a;split at a;·rename_i e;rw[d k e];exact H.fresh k a y
   simp_all
  ·rw[I]at a;split at a;·rename_i e;rw[d k e];exact H.later k x a y J
   cases a
  ·rw[I]at a;split at a;·rename_i e;have hin:=f4 k e;rw[a]at hin;have n:=H.blk k x a;cases x with|dead g=>trivial|loop=>simp[blkIn]at hin|cells g cs=>
   simp only[blkIn]at hin;rcases n with⟨h1,h2⟩|⟨l,base,C,ty,fr,h1,h2,M,h4,h5,h6⟩;·exact .inl ⟨(d k e g).trans h1,h2⟩
   exact .inr ⟨l,base,C,ty,fr,(d k e g).trans h1,⟨k,g,base,e,⟨_,a,rfl,fun _=>by simp⟩,h1⟩,M,h4,h5,VPre.inB d (fun _ h=>h) _ _ hin h6⟩|map g es=>simp only[blkIn]at hin;obtain⟨l,es',clock,h1,h2,M,h4,h5⟩:=n;exact⟨l,es',clock,(d k e g).trans h1,⟨k,g,0,e,⟨_,a,rfl,fun _=>by simp⟩,h1⟩,M,MRel.inB d (fun _ h=>h) hin h4,h5⟩
   cases a
  obtain⟨N,s⟩:=hlB _ _ s;obtain⟨Q,q⟩:=hlB _ _ q;rw[d k N]at F;rw[d z Q]at A;exact H.inj _ _ _ _ _ _ _ s q F A
 refine⟨hc,(hs O w m H1 (VRels.inB d (fun _ h=>h) _ _ f3 ha)).mono ?_⟩;rintro e w'⟨cv,c',rfl,E,H',V⟩;have hdn:∀k,k∉D->k1.get k=none:=fun k a=>by grind
 let R:Ctx (okc P):={ρ:=fun k y=>if k∈D then c'.ρ k y else c.ρ k y,F:=c'.F,O:=fun k=>(c.O k/\¬O.O k)\/c'.O k,base:=c.base};have t:∀k∈D,∀y,R.ρ k y=c'.ρ k y:=fun k a y=>if_pos a;have u:∀k,k∉D->∀y,R.ρ k y=c.ρ k y:=fun k a y=>if_neg a;have X2:Ext c' w' R w':=by
  refine⟨fun k y p hp=>?_,fun _ h=>h,fun _ _ _ h=>h,fun _ C _ fr h=>⟨C,fr,h,rfl⟩⟩;by_cases a:k∈D;·simp_all
  rw[H'.fresh k (hdn k a) y]at hp;cases hp
 have E2:Evo c w R w':=by
  refine⟨E.os,E.tape,E.output,E.size,E.shape,fun k a o=>E.keep k a fun h=>o (K k h),fun k y p hp=>?_,fun k a=>E.frz k a,fun k a=>?_,fun k a=>?_,rfl⟩
  ·by_cases a:k∈D
   ·rw[t k a];by_cases Y:k∈B;·exact E.rho k y p ((d k Y y).trans hp)
    rw[H.fresh k (f9 k a Y) y]at hp;cases hp
   simp_all
  ·rcases E.frzNew k a with h1|h1|h1;·exact .inl h1
   ·simp_all
   omega
  rcases a with a|a;·exact .inl a.1
  exact(E.own k a).imp (K k) id
 have hlv:∀k y,Live (over k1 h D) k y->(k∈D/\Live k1 k y)\/(k∉D/\Live h k y):=by
  rintro k y⟨x,a,hg,L⟩;rw[G]at a;split at a;·rename_i e;exact .inl ⟨e,x,a,hg,L⟩
  rename_i e;exact .inr ⟨e,x,a,hg,L⟩
 have Z:∀k y l base,k∉D->Live h k y->c.ρ k y=some (.loc l base)->¬O.O l:=by rintro k y l base a U hp⟨b,X,i,n,hl',hp'⟩;have:=H.inj _ _ _ _ _ _ _ U hl' hp hp';simp_all
 refine⟨cv,R,rfl,E2,?_,Zcm X2 _ _ V⟩;refine⟨fun k a y=>?_,fun k x a y J=>?_,fun k x a=>?_,fun k y z X l base i s q F A=>?_,fun k T o=>?_,fun k T=>H'.inF k T,fun k o=>?_⟩
 ·rw[G]at a;split at a;·simp_all
  rename_i e;rw[u k e];exact H.fresh k a y
 ·rw[G]at a;split at a;·rename_i e;rw[t k e];exact H'.later k x a y J
  rename_i e;rw[u k e];exact H.later k x a y J
 ·rw[G]at a;split at a;·refine Zco X2 (fun l base L hp=>?_) (H'.blk k x a);exact⟨.inr (H'.owned ⟨x,a,rfl,L⟩ hp),rfl⟩
  rename_i e;refine Zco (E2.ext H.disj) (fun l base L hp=>?_) (H.blk k x a);have U:Live h k x.gen:=⟨x,a,rfl,L⟩;have o:=H.owned U hp;have hn:=Z k _ l base e U hp;exact⟨.inl ⟨o,hn⟩,E.keep l (H.inO _ o) hn⟩
 ·have cross:∀k y z X base i,k∈D->Live k1 k y->R.ρ k y=some (.loc l base)->z∉D->Live h z X->R.ρ z X=some (.loc l i)->False:=by
   intro k y z X base i N s F Q q A;rw[t k N]at F;rw[u z Q]at A;rcases E.own l (H'.owned s F)with h1|h1;·grind
   have:=H.inO _ (H.owned q A);omega
  rcases hlv _ _ s with⟨N,s⟩|⟨N,s⟩<;>rcases hlv _ _ q with⟨Q,q⟩|⟨Q,q⟩;·rw[t k N]at F;rw[t z Q]at A;exact H'.inj _ _ _ _ _ _ _ s q F A
  ·grind
  ·grind
  rw[u k N]at F;rw[u z Q]at A;exact H.inj _ _ _ _ _ _ _ s q F A
 ·rcases o with⟨h1,h2⟩|h1
  ·rcases E.frzNew k T with M|M|M;·exact H.disj k M h1
   ·exact h2 M
   have:=H.inO k h1;omega
  exact H'.disj k T h1
 rcases o with⟨h1,_⟩|h1;·exact Zbb (H.inO k h1) E.size
 exact H'.inO k h1
theorem FStep.heap{fp}(S:FStep P f args h v h1 fp):HSpec P f args h v h1:=by
 have hc:Callable P f:=by obtain⟨_,_,_,_,_,_,_,_,b,_⟩:=S;exact b.1
 exact⟨hc,fun _ _ _ H a=>(S.calls H a).2⟩
def Marks{ok}(c:Ctx ok)(w:World):List Deferred->Prop|[]=>c.base<=w.heap.size|d::a=>(∃D,d={target:=.collected D,args:=#[]}/\c.base<=D/\¬c.O D/\¬c.F D/\w.heap[D]?=some (.deferred (some []))/\∀b∈a,b.target≠.collected D)/\Marks c w a
theorem Marks.mono{ok}{c c':Ctx ok}(E:Evo c w c' w'):∀{ds:List Deferred},Marks c w ds->Marks c' w' ds
 |[],h=>by have h:c.base<=w.heap.size:=h;have:=E.size;show c'.base<=w'.heap.size;rw[E.base];omega|d::ds,⟨⟨D,h1,l,a,g,f,i⟩,k⟩=>by
  have b:=Qbk f;refine⟨⟨D,h1,by rw[E.base];exact l,fun h=>?_,fun h=>?_,by rw[E.keep D b a];exact f,i⟩,Marks.mono E k⟩
  ·rcases E.own D h with h|h;·exact a h
   omega
  rcases E.frzNew D h with h|h|h;·exact g h
  ·exact a h
  omega
theorem Marks.low{ok}{c:Ctx ok}:∀{ds:List Deferred},Marks c w ds->c.base<=w.heap.size|[],h=>h|_::_,h=>h.2.low
structure SRel{ok:Okc}(N:Nat)(c:Ctx ok)(A:St)(a:Act)(w:World):Prop where
 heap:HRel c A.h w
 tmps:TRel c w A.T a
 size:a.tmps.size=N
 defers:Marks c w a.defers
theorem SRel.congr{ok}{c:Ctx ok}{B}{a}(S:SRel N c A a w)(e:SEq A B):SRel N c B a w:=⟨Qcw e.2 S.heap,fun i=>by rw[<-e.1 i];exact S.tmps i,S.size,S.defers⟩
theorem SRel.put{ok}{c c':Ctx ok}{a}{dst}(S:SRel N c A a w)(E:Evo c w c' w')(H:HRel c' h1 w')(f:∀d,dst=some d->d<N)(V:VRel c' w' v cv):SRel N c' ⟨putD A.T dst v,h1⟩ (a.put dst cv) w':=by have b:TRel c' w' A.T a:=fun i=>Zcm (E.ext S.heap.disj) _ _ (S.tmps i);cases dst with|none=>exact⟨H,b,S.size,S.defers.mono E⟩|some d=>
 refine⟨H,fun i=>?_,by simp[Act.put,S.size],by simpa[Act.put]using S.defers.mono E⟩;have g:d<a.tmps.size:=by rw[S.size];exact f d rfl
 simp only[QbJ,Act.put,Zab];by_cases e:d=i;·simp_all
 rw[if_neg e];simpa[Array.getElem?_setIfInBounds_ne e]using b i
theorem noDefer{s}(a:okOp P o.op s=true):(∀b,o.op≠.defer b)\/s=.bad:=by grind[okOp]
theorem QhI{ro}{fp}{a}(S:SRel N c A a w)(x:o.dst=s.dst)(J:∀d,s.dst=some d->d<N)(H:okOp P o.op s.op=true)(T:StepX P i s.op A.T A.h v h1 fp)(O:∀c' M w',SRel N c' ⟨putD A.T s.dst v,h1⟩ M w'->Evo c w c' w'->K M w'):o.wpIn (FW ro) 0 P a w K Q:=by
 obtain⟨out,h2,hm,m⟩:=T;have C:o.semAt ro a.eval=execOp a.eval o:=by grind[noDefer,Oper.semAt_eq,aop,HM.run]
 have n:=Qte S.heap S.tmps H hm;refine⟨fun _ _=>trivial,?_⟩;show o.uponIn (FW ro) 0 P a K Q ((o.semAt ro a.eval).run P w);rw[C];have fin:∀e w',Rets P c w h1 v e w'->(match(motive:=Ending->World->Prop)e,w' with|.returned v,B=>K (a.put o.dst v) B|.panicked chain,B=>Q (.panic chain) a B|.outgrown,_=>LetsOut Q):=by rintro e w'⟨L,c',rfl,E,H',V⟩;exact O c' _ w' (by rw[x];exact S.put E H' J V) E
 have called:∀(f:Nat)(l:Array Value),(execOp a.eval o).run P w=.ok (.enter f l) w->Calls P f l w (Rets P c w h1 v)->o.uponIn (FW ro) 0 P a K Q ((execOp a.eval o).run P w):=by intro f l F k;rw[F,Oper.uponIn_enter];refine⟨fun h=>by simp[FW,Fence.wide]at h,callsFW (k.mono ?_)⟩;omega
 match out,hm,m,n with
 |.val u,hm,m,n=>
  obtain⟨rfl,rfl,_⟩:=m;obtain⟨nx,L,c',w',y,hn,E,H',V⟩:=n;rw[y];have z:=O c' (a.put o.dst L) w' (by rw[x];exact S.put E H' J V) E;rcases hn with rfl|⟨rfl,rfl⟩;·exact z
  ·exact z|.call .pure f args,hm,m,n=>obtain⟨t,rfl,_⟩:=m;obtain⟨rfl,l,y,p,_⟩:=n;obtain⟨hc,k⟩:=t.pure S.heap (p (by simp));exact called f l (y hc) k|.call .borrow f args,hm,m,n=>obtain⟨t,X,rfl,_⟩:=m;obtain⟨rfl,l,y,_,p⟩:=n;obtain⟨hc,k⟩:=t.borrow X S.heap (p rfl);exact called f l (y hc) k|.call .heap f args,hm,m,n=>
  obtain⟨rfl,l,y,p,_⟩:=n;rcases m with⟨t,_⟩|⟨b,g,xs,t,Z,rfl,_⟩|I|I;·obtain⟨hc,k⟩:=t.heap S.heap (p (by simp));simp_all
  ·obtain⟨hc,k⟩:=t.give S.heap Z (p (by simp));simp_all
  ·obtain⟨hc,k⟩:=I.calls S.heap (p (by simp));simp_all
  ·obtain⟨hc,k⟩:=I.calls S.heap (p (by simp));simp_all|.round b g args,hm,m,n=>obtain⟨t,_⟩:=m;obtain⟨rfl,R,l,G,p,y⟩:=n;obtain⟨fn,tmps,U,body,Y,q⟩:=t c w l R S.heap p G;rw[y,Y,Oper.uponIn_round];refine⟨fun h=>by simp[FW,Fence.wide]at h,trivial,fun fr cs _=>?_⟩;obtain⟨e,w',hR,hc⟩:=q.2 fr cs (room_wide _);refine⟨e,w',?_,hc⟩;have:=fin e w' hR;cases e<;>exact this
theorem QfO{ro}{bi}{fp}{a}(S:SRel N c A a w)(ho:ops[i]?=some o)(h:okOper P N ops o s=true)(g:StepV P bi s A.T A.h v h1 fp)(t:∀c' u w',SRel N c' ⟨putD A.T s.dst v,h1⟩ u w'->Evo c w c' w'->K u w'):wpOpIn (FW ro) 0 P ops Q i K a w:=by
 unfold okOper at h;simp only[Zac,beq_iff_eq]at h;obtain⟨⟨⟨⟨z,I⟩,C⟩,k⟩,F⟩:=h;have x:∀d,s.dst=some d->d<N:=by grind
 unfold wpOpIn;rw[ho];simp only;unfold StepV at g
 cases y:s.guard with|none=>
  rw[y]at g k;have f:o.guard=none:=by grind[okGuard]
  have:Region.wanted o (yielded ops a.tmps)=true:=by simp[Region.wanted,f]
  rw[this];exact QhI S z x C g t|some p=>obtain⟨slot,n⟩:=p;rw[y]at g k;simp only at g;obtain⟨b,l,g⟩:=g;cases f:o.guard with|none=>rw[f]at k;simp[okGuard]at k|some q=>
   obtain⟨j,m⟩:=q;rw[f]at k;simp only[okGuard,Zac,beq_iff_eq,decide_eq_true_eq]at k;obtain⟨⟨rfl,H⟩,E⟩:=k;have B:slot<a.tmps.size:=by rw[S.size];exact E
   have hw:Region.wanted o (yielded ops a.tmps)=b:=by
    have G:=S.tmps slot;unfold wantedA at l;split at l;·simp_all[VRel,yielded,Region.wanted]
    ·simp_all[VRel,VRels,yielded,Region.wanted]
    cases l
   rw[hw];split at g;·rename_i e;subst e;simp only[if_true];grind[QhI]
   rename_i e;obtain⟨rfl,rfl,_⟩:=g;have:b=false:=by simpa using e
   rw[this];simp only[Zat,if_false];refine⟨fun _ _=>trivial,t c _ w ?_ (.refl c w)⟩;rw[z];exact S.put (.refl c w) S.heap x (by simp[VRel,VRels,undef])
theorem Qut(o)(h):(lift o).fp h=([],[]):=by cases o<;>rfl
theorem QoV{s}(hc:s.cls=0):(aop i T s).fp h=([],[]):=by cases s<;>simp only[SOp.cls,reduceCtorEq]at hc<;>first|exact Qut _ _|rfl|(rename_i m x xs;cases m<;>simp at hc;done)|(simp at hc;done)
theorem Quu{s}(hc:s.cls=1):(aop i T s).ro:=by
 cases s<;>simp only[SOp.cls,reduceCtorEq,Nat.reduceEqDiff]at hc;case convB x=>
  refine HM.Qb5 ?_ fun _=>trivial;have src:∀(y:AV),(aSrc 1 y fun ys n=>match bytesOf ys with|some s=>HM.ret (AV.str s)|none=>.fail).ro:=by
   intro y;unfold aSrc;have fin:∀ys:List AV,(match bytesOf ys with|some s=>HM.ret (AV.str s)|none=>HM.fail).ro:=by intro ys;split<;>trivial
   split
   ·split
    ·refine QfL fun cs=>?_;split;·exact fin _
     ·trivial
    ·trivial
   ·split;·exact fin _
    ·trivial
   ·exact fin []
   ·exact fin []
   ·exact fin []
   ·simp_all
   ·trivial
  unfold aConvB;split;·trivial
  ·exact src _
 case eqn neg x=>
  refine HM.Qb5 ?_ fun _=>trivial;unfold aEqN aNilS;split
  ·intro y;dsimp only;split
   ·rename_i g' _ _;generalize Nat.beq g' _=bb;cases bb;·trivial
    simp_all[QiZ]
   ·trivial
  ·exact QiZ _
 case load n x=>
  refine HM.Qb5 ?_ fun _=>trivial;unfold aLoad;split
  ·refine QfL fun cs=>?_;split;·exact QiZ _
   ·split<;>trivial
  ·split;·exact QiZ _
   ·split<;>trivial
  ·trivial
 case len k x=>
  refine HM.Qb5 ?_ fun _=>trivial;unfold aLenC;split
  ·unfold aLen;split<;>try trivial
   intro x;dsimp only;split;·rename_i g' es;generalize Nat.beq g' _=bb;cases bb<;>trivial
   ·trivial
  ·trivial
 case lookup row ks zero ok x k=>
  refine HM.Qb5 ?_ fun _=>trivial;unfold aLookup;split
  ·split;·trivial
   ·refine Qql fun es=>?_;split<;>trivial
   ·split<;>trivial
   ·trivial
  ·trivial
 case call m x args=>
  simp only[aop];unfold aCall;split
  ·split;·exact HM.Qb5 (Qdc (QeE 4) _) fun _=>trivial
   ·trivial
  ·split<;>trivial
  ·trivial
theorem Qmz{s}{a}{out}(ho:out.whole=true)(hc:s.cls<=1)(hm:(aop i T s).run h=some (out,a)):False:=by
 have lf:∀(o:Option AV),(lift o).run h≠some (out,a):=by intro o e;obtain⟨v,_,k⟩:=QaZ e;cases k;cases ho
 have hf:∀(m:HM AV),(hval m).run h≠some (out,a):=by intro m e;obtain⟨v,h1,_,k⟩:=QaU e;cases k;cases ho
 have d:∀(u:AV),(HM.ret (AOut.val u)).run h≠some (out,a):=by intro u e;simp only[HM.run,Zab,Zal]at e;obtain⟨rfl,rfl⟩:=e;cases ho
 cases s<;>simp only[aop]at hm<;>first|exact absurd hm (lf _)|exact absurd hm (hf _)|exact absurd hm (d _)|(simp only[HM.run,reduceCtorEq]at hm;done)|skip
 rename_i m x xs
 cases m with|heap=>simp[SOp.cls]at hc|pure=>
  unfold aCall at hm;split at hm;·simp only[HM.run,Zab,Zal]at hm;obtain⟨rfl,rfl⟩:=hm;cases ho
  ·simp[HM.run]at hm
  simp[HM.run]at hm|borrow=>
  unfold aCall at hm;split at hm;·simp only at hm;obtain⟨c,f,g,b⟩:=run_bind hm;simp only[HM.run,Zab,Zal]at b;obtain⟨rfl,rfl⟩:=b;cases ho
  ·simp[HM.run]at hm
  simp[HM.run]at hm
theorem StepX.cls{s}{fp}(d:StepX P i s T h v h1 fp)(hc:s.cls<=1):fp.all=false/\fp.W=[]/\(s.cls=0->fp.R=[]):=by
 obtain⟨out,k,hm,a⟩:=d;have key:fp=fpOf ((aop i T s).fp h)->fp.all=false/\fp.W=[]/\(s.cls=0->fp.R=[]):=by intro e;subst e;refine⟨rfl,?_,fun c=>by simp[fpOf,QoV c]⟩;grind[HM.ro_fp,Quu,fpOf,QoV]
 match out,hm,a with|.val u,hm,a=>exact key a.2.2|.call .pure f args,hm,a=>exact key a.2.2|.call .borrow f args,hm,a=>exact key a.2.2.2|.call .heap f args,hm,a=>exact(Qmz rfl hc hm).elim|.round b g args,hm,a=>exact(Qmz rfl hc hm).elim
theorem StepV.cls{fp}(a:StepV P i s T h v h1 fp)(hc:s.op.cls<=1):fp.all=false/\fp.W=[]/\(s.op.cls=0->fp.R=[]):=by
 unfold StepV at a;split at a;·exact a.cls hc
 obtain⟨b,_,a⟩:=a;split at a;·exact a.cls hc
 simp_all
def StepI(P:Program)(base:Nat)(sops:List SOper)(fpf:Nat->FP)(i:Nat)(A B:St):Prop:=∃s v h1,sops[i]?=some s/\StepV P (base+i) s A.T A.h v h1 (fpf i)/\B=⟨putD A.T s.dst v,h1⟩
def RunL(P:Program)(base:Nat)(sops:List SOper)(fpf:Nat->FP):List Nat->St->St->Prop|[],A,C=>A=C|i::l,A,C=>∃B,StepI P base sops fpf i A B/\RunL P base sops fpf l B C
section
variable{base:Nat}{sops:List SOper}{fpf:Nat->FP}
theorem RunL.congr:∀{l:List Nat}{A B C:St},RunL P base sops fpf l A C->SEq A B->∃D,RunL P base sops fpf l B D/\SEq C D|[],A,B,C,a,e=>by cases a;exact⟨B,rfl,e⟩|i::l,A,B,C,a,e=>by obtain⟨A1,⟨s,v,h1,h,g,rfl⟩,a⟩:=a;obtain⟨b,k,f⟩:=g.congr e;obtain⟨D,c,d⟩:=a.congr f;exact⟨D,⟨_,⟨s,v,b,h,k,rfl⟩,c⟩,d⟩
def Apart(sops:List SOper)(fpf:Nat->FP)(k i:Nat):Prop:=∀s t,sops[k]?=some s->sops[i]?=some t->s.apart t=true/\(fpf k).apart (fpf i)=true
theorem RunL.front:∀{d c:List Nat}{i:Nat}{A C:St},RunL P base sops fpf (d++i::c) A C->(∀k∈d,Apart sops fpf k i)->∃B C',StepI P base sops fpf i A B/\RunL P base sops fpf (d++c) B C'/\SEq C' C|[],c,i,A,C,a,_=>by obtain⟨B,f,a⟩:=a;exact⟨B,C,f,a,.refl C⟩|k::d,c,i,A,C,a,b=>by obtain⟨A1,⟨s,v,h1,f,z,rfl⟩,a⟩:=a;obtain⟨B,C',⟨t,u,G,m,q,rfl⟩,h,e⟩:=RunL.front a (fun k w=>b k (by simp[w]));obtain⟨F,p⟩:=b k (by simp) s t f m;obtain⟨l,g,y,o,x⟩:=StepV.comm z q F p;obtain⟨D,E,n⟩:=h.congr x.symm;exact⟨_,D,⟨t,u,l,m,y,rfl⟩,⟨_,⟨s,v,g,f,o,rfl⟩,E⟩,n.symm.trans e⟩
inductive Bef(sops:List SOper):Nat->Nat->Prop|one{j k:Nat}{s:SOper}:sops[j]?=some s->k∈s.after->Bef sops k j|more{j k e:Nat}{s:SOper}:sops[j]?=some s->e∈s.after->Bef sops k e->Bef sops k j
end
structure Fits(P:Program)(N:Nat)(ops:Array Oper)(sops:List SOper):Prop where
 size:ops.size=sops.length
 ok:∀(i:Nat)(o:Oper),ops[i]?=some o->∃s,sops[i]?=some s/\okOper P N ops o s=true
theorem Fits.after(F:Fits P N ops sops)(ho:ops[i]?=some o)(d:sops[i]?=some s):∀k,k∈s.after↔∃e∈o.after,Region.binds .any e=true/\e.on=k:=by obtain⟨c,b,a⟩:=F.ok i o ho;grind[okOper,okAfter]
def rest(n:Nat)(a:Array Bool):List Nat:=(List.range n).filter fun i=>!a.getD i true
theorem QeF{a}:i∈rest n a↔i<n/\a.getD i true=false:=by simp[rest]
theorem Qgw:∀(l:List Nat)(p:Nat->Bool)(i:Nat),l.Pairwise (·<·)->i∈l->p i=true->∃a d,l.filter p=a++i::d/\l.filter (fun k=>p k&&k !=i)=a++d/\∀k∈a,k<i/\p k=true
 |[],p,i,_,hi,_=>by simp at hi|x::l,p,i,c,hi,hp=>by
  rw[ZaB]at c;by_cases e:x=i
  ·subst e;have f:l.filter (fun k=>p k&&k !=x)=l.filter p:=by
    apply ZbA;intro k g;have:=c.1 k g;have:(k !=x)=true:=by simp;omega
    simp[this]
   refine⟨[],l.filter p,?_,?_,by simp⟩;·simp_all
   simp_all
  have b:i∈l:=by grind
  obtain⟨a,d,h1,h,m⟩:=Qgw l p i c.2 b hp;grind
theorem Qqn(hi:i∈rest n listed):∃l1 l2,rest n listed=l1++i::l2/\rest n (listed.setIfInBounds i true)=l1++l2/\∀k∈l1,k<i/\k<n/\listed.getD k true=false:=by
 obtain⟨h1,h2⟩:=QeF.1 hi;obtain⟨l1,l2,k1,k2,k3⟩:=Qgw (List.range n) (fun k=>!listed.getD k true) i ZbF (by simpa using h1) (by simp[h2]);refine⟨l1,l2,k1,?_,?_⟩
 ·rw[<-k2];unfold rest;apply ZbA;intro k _;by_cases e:k=i;·simp_all
  ·have e2:(k !=i)=true:=by simpa using e
   rw[getD_set_ne true (fun h=>e h.symm),e2,Zad]
 grind
structure Free(sops:List SOper)(fpf:Nat->FP):Prop where
 back:∀(j:Nat)(s:SOper),sops[j]?=some s->∀k∈s.after,k<j
 apart:∀(k i:Nat),k<i->i<sops.length->Bef sops k i\/Apart sops fpf k i
theorem Qq3{ro}{base}(F:Fits P N ops sops)(R:Free sops fpf)(hQ:∀c a w,SRel N c C a w->Evo c0 w0 c w->Q .normal a w):∀(fuel:Nat)(listed:Array Bool)(A C':St)(c:Ctx (okc P))(a:Act)(w:World),listed.size=ops.size->(rest sops.length listed).length<=fuel->(∀j,listed.getD j false=true->∀k,Bef sops k j->listed.getD k false=true)->RunL P base sops fpf (rest sops.length listed) A C'->SEq C' C->SRel N c A a w->Evo c0 w0 c w->wpAnyIn (FW ro) 0 P .any ops Q fuel listed a w:=by
 intro fuel;induction fuel with|zero=>
  intro listed A C' c a w hsz hf hcl hr he hS hE;have h0:rest sops.length listed=[]:=Zb2 (by omega);refine⟨?_,?_⟩;·rw[List.eq_nil_iff_forall_not_mem];intro j hj;obtain⟨g1,o,g2,g3⟩:=mem_ready.1 hj;have:j<ops.size:=(Array.getElem?_eq_some_iff.1 g2).1;have:j∈rest sops.length listed:=QeF.2 ⟨by rw[<-F.size];exact this,g1⟩;simp_all
  ·rw[h0]at hr;cases hr;exact hQ c a w (hS.congr he) hE|succ fuel ih=>
  intro listed A C' c a w hsz hf hcl hr he hS hE;refine⟨?_,?_⟩
  ·intro hnil;have h0:rest sops.length listed=[]:=by cases hrr:rest sops.length listed with|nil=>rfl|cons i l=>
    exfalso;have hi:i∈rest sops.length listed:=by rw[hrr];simp
    obtain⟨h1,h2⟩:=QeF.1 hi;have hlt:i<ops.size:=by grind
    have hready:i∈Region.ready .any ops listed:=by
     rw[mem_ready];refine⟨h2,ops[i],Array.getElem?_eq_getElem hlt,fun e he hb=>?_⟩;obtain⟨s,hs,_⟩:=F.ok i _ (Array.getElem?_eq_getElem hlt);have hmem:=(F.after (Array.getElem?_eq_getElem hlt) hs e.on).2 ⟨e,he,hb,rfl⟩;have hback:=R.back i s hs e.on hmem;have hon:e.on<listed.size:=by omega
     cases hv:listed.getD e.on false with|true=>rfl|false=>
      exfalso;have hv2:listed.getD e.on true=false:=by simp_all
      have:e.on∈rest sops.length listed:=QeF.2 ⟨by omega,hv2⟩;rw[hrr]at this;have hsorted:(rest sops.length listed).Pairwise (·<·):=List.Pairwise.filter _ ZbF;rw[hrr,ZaB]at hsorted;rcases Zav.1 this with h|h;·omega
      ·grind
    rw[hnil]at hready;simp at hready
   rw[h0]at hr;cases hr;exact hQ c a w (hS.congr he) hE
  ·intro i hi;obtain⟨g1,o,ho,g3⟩:=mem_ready.1 hi;have hlt:i<ops.size:=(Array.getElem?_eq_some_iff.1 ho).1;have hmr:i∈rest sops.length listed:=QeF.2 ⟨by rw[<-F.size];exact hlt,g1⟩;obtain⟨s,hs,hok⟩:=F.ok i o ho;have hbefi:∀k,Bef sops k i->listed.getD k false=true:=by intro k hb;cases hb with|one h1 h2=>rw[hs]at h1;cases h1;obtain⟨e,e1,e2,e3⟩:=(F.after ho hs k).1 h2;rw[<-e3];exact g3 e e1 e2|more h1 h2 h3=>rw[hs]at h1;cases h1;rename_i e';obtain⟨e,e1,e2,e3⟩:=(F.after ho hs e').1 h2;exact hcl e' (by grind) k h3
   obtain⟨l1,l2,k1,k2,k3⟩:=Qqn hmr;rw[k1]at hr;obtain⟨B,C'',⟨s',v,h1,hs',hv,rfl⟩,hr',he'⟩:=RunL.front hr (fun k hk=>by
    obtain⟨m1,m2,m3⟩:=k3 k hk;rcases R.apart k i m1 (by grind)with hb|hb;·grind
    ·exact hb);rw[hs]at hs';cases hs';refine QfO hS ho hok hv ?_;intro c' a' w' hS' hE';refine ih _ _ C'' c' a' w' (by simpa using hsz) ?_ ?_ (by simp_all) (he'.trans he) hS' (hE.trans hE');·grind
   ·intro j hj k hb;by_cases hji:j=i;·grind[getD_set_true]
    ·rw[getD_set_ne false (fun h=>hji h.symm)]at hj;grind[getD_set_true]
end Go.AM
theorem _root_.Go.AM.Zcp:type_of%@Go.AM.VRel.noRef:=@Go.AM.VRel.noRef
theorem _root_.Go.AM.Zcq:type_of%@Go.AM.VRels.noRef:=@Go.AM.VRels.noRef
namespace Go.AM
variable{P:Program}
variable{u v:AV}{ops:Array Oper}{draw:Bool}{Q:Exit->Act->World->Prop}{fs:FP}{h h1:Heap}{a b:List (Nat×Nat)}{dead:List Nat}{sops:List SOper}{N bi i:Nat}{x:Nat->Blk}{fpf:Nat->FP}{f y z:SCode}{s t:SOper}{Q':SX->St->Prop}{A B C:St}{T:Tmps}{α:Type}{w w0:World}{c c0:Ctx (okc P)}
theorem Qgh{ro}{base}(F:Fits P N ops sops)(hQ:∀c a w,SRel N c C a w->Evo c0 w0 c w->Q .normal a w):∀(l:List Nat)(A:St)(c:Ctx (okc P))(a:Act)(w:World),RunL P base sops fpf l A C->SRel N c A a w->Evo c0 w0 c w->wpOpsIn (FW ro) 0 P ops Q l a w
 |[],A,c,a,w,d,h,f=>by cases d;exact hQ c a w h f|i::l,A,c,a,w,d,h,f=>by
  obtain⟨B,⟨s,v,h1,n,t,rfl⟩,d⟩:=d
  rw[wpOpsIn_cons];cases ho:ops[i]? with|none=>
   exfalso;have h1:ops.size<=i:=by simp_all
   have y:i<sops.length:=(Zaf.1 n).1;have:=F.size;omega|some o=>obtain⟨x,b,k⟩:=F.ok i o ho;rw[n]at b;cases b;exact QfO h ho k t fun q p u g m=>Qgh F hQ l _ q p u d g (f.trans m)
theorem Qgx(acc:List Nat):∀(l:List Nat)(m k:Nat),(l.foldl (fun m e=>m|||2^e|||acc.getD e 0) m).testBit k=true->m.testBit k=true\/∃e∈l,k=e\/(acc.getD e 0).testBit k=true
 |[],m,k,h=>.inl h|e::l,m,k,h=>by
  simp only[ZaS]at h;rcases Qgx acc l _ k h with h1|⟨b,a,h1⟩;·grind
  grind
theorem QhJ:∀(r pre:List SOper)(acc:List Nat),sops=pre++r->acc.length=pre.length->(∀j k,(acc.getD j 0).testBit k=true->Bef sops k j)->∀j k,((masksFrom acc r).getD j 0).testBit k=true->Bef sops k j
 |[],pre,acc,_,_,h=>h|s::r,pre,acc,g,f,h=>by
  refine QhJ r (pre++[s]) _ (by simp[g]) (by simp[f]) ?_;intro j k d;by_cases l:j<acc.length;·grind
  by_cases c:j=acc.length
  ·subst c;have e:(acc++[maskOf acc s]).getD acc.length 0=maskOf acc s:=by simp
   rw[e]at d;have a:sops[acc.length]?=some s:=by simp_all
   rcases Qgx acc s.after 0 k d with h1|⟨i,b,h1⟩;·simp at h1
   rcases h1 with rfl|h1;·exact .one a b
   exact .more a b (h i k h1)
  grind
theorem HM.Qtk(m:HM α):∀(h:Heap)(a:α)(h1:Heap),m.run h=some (a,h1)->∀b,h.get b≠none->h1.get b≠none:=by induction m with|ret x=>intro h a h1 hm b c;simp only[HM.run,Zab,Zal]at hm;obtain⟨rfl,rfl⟩:=hm;exact c|fail=>intro h a h1 hm;simp[HM.run]at hm|look b k d=>intro h a h1 hm;exact d _ h a h1 hm|put b x k d=>
 intro h a h1 hm g c;obtain⟨f,hm⟩:=Qa5 hm;refine d _ a h1 hm g ?_;rw[Zcl _ f];split;·simp
 exact c
theorem Qi1{s}{a}{out}(ho:out.whole=true)(hc:s.still=true)(hm:(aop i T s).run h=some (out,a)):False:=by
 have lf:∀(o:Option AV),(lift o).run h≠some (out,a):=by intro o e;obtain⟨v,_,k⟩:=QaZ e;cases k;cases ho
 have hf:∀(m:HM AV),(hval m).run h≠some (out,a):=by intro m e;obtain⟨v,h1,_,k⟩:=QaU e;cases k;cases ho
 have d:∀(u:AV),(HM.ret (AOut.val u)).run h≠some (out,a):=by intro u e;simp only[HM.run,Zab,Zal]at e;obtain⟨rfl,rfl⟩:=e;cases ho
 cases s<;>simp only[aop]at hm<;>first|exact lf _ hm|exact hf _ hm|exact d _ hm|(simp only[HM.run,reduceCtorEq]at hm;done)|skip
 rename_i m x xs
 cases m with|heap=>simp[SOp.still]at hc|pure=>
  unfold aCall at hm;split at hm;·simp only[HM.run,Zab,Zal]at hm;obtain⟨rfl,rfl⟩:=hm;cases ho
  ·simp[HM.run]at hm
  simp[HM.run]at hm|borrow=>
  unfold aCall at hm;split at hm;·simp only at hm;obtain⟨b,g,f,c⟩:=run_bind hm;simp only[HM.run,Zab,Zal]at c;obtain⟨rfl,rfl⟩:=c;cases ho
  ·simp[HM.run]at hm
  simp[HM.run]at hm
theorem StepX.mono{s}{fp}(d:StepX P i s T h v h1 fp)(hc:s.still=true){b}(c:h.get b≠none):h1.get b≠none:=by obtain⟨out,k,hm,ho⟩:=d;have a:=HM.Qtk _ h out k hm b c;match out,hm,ho with|.val u,hm,ho=>obtain⟨_,rfl,_⟩:=ho;exact a|.call .pure f args,hm,ho=>obtain⟨_,rfl,_⟩:=ho;exact a|.call .borrow f args,hm,ho=>obtain⟨_,_,rfl,_⟩:=ho;exact a|.call .heap f args,hm,ho=>exact(Qi1 rfl hc hm).elim|.round b g args,hm,ho=>exact(Qi1 rfl hc hm).elim
theorem StepV.mono{fp}(a:StepV P i s T h v h1 fp)(hc:s.op.still=true){b}(c:h.get b≠none):h1.get b≠none:=by
 unfold StepV at a;split at a;·exact a.mono hc c
 obtain⟨t,_,a⟩:=a;split at a;·grind[StepX.mono]
 simp_all
def newFP(i:Nat)(h h1:Heap)(fp:FP):Prop:=fp.all=false/\(∀b,b∈fp.R\/b∈fp.W->b=i/\h.get i=none/\h1.get i≠none)
theorem Qfn{r:Nat->Nat->AV}(hm:(HM.new .dyn i x fun b g=>.ret (r b g)).run h=some (v,h1)):newFP i h h1 (fpOf ((hval (HM.new .dyn i x fun b g=>.ret (r b g))).fp h)):=by unfold HM.new at hm⊢;simp only[HM.run]at hm;simp only[hval,HM.bind,HM.fp];cases a:h.get i with|some z=>rw[a]at hm;simp[HM.run]at hm|none=>rw[a]at hm;obtain⟨d,hm⟩:=Qa5 hm;simp only[HM.run,Zab,Zal]at hm;obtain⟨rfl,rfl⟩:=hm;refine⟨rfl,fun b c=>?_⟩;simp only[fpOf,HM.bind,HM.fp,ZaU,or_self,Zav,Za2,or_false]at c;refine⟨c,a,?_⟩;rw[Zcl _ d];simp
theorem Qq4:newFP i h h1 (fpOf ([],[])):=⟨rfl,fun b a=>by simp[fpOf]at a⟩
theorem StepX.fresh{s}{fp}(a:StepX P i s T h v h1 fp)(hc:s.fresh=true):newFP i h h1 fp:=by
 obtain⟨out,d,hm,ho⟩:=a;have key:∀m:HM AV,aop i T s=hval m->(∀v h1,m.run h=some (v,h1)->newFP i h h1 (fpOf ((hval m).fp h)))->newFP i h h1 fp:=by intro m e f;rw[e]at hm;obtain⟨u,g,n,he⟩:=QaU hm;simp_all
 cases s<;>try(cases hc;done)
 ·exact bHSvA
 ·exact bHSvA
 ·rename_i fz s sz len z k;cases fz<;>try(cases hc;done)
  cases s<;>try(cases hc;done)
  refine key _ rfl fun v h1 hm=>?_;unfold aBuildSlice at hm⊢;split at hm
  ·rename_i cs hf;split at hm;·simp_all[Qfn]
   grind[HM.run]
  grind[HM.run]
 ·rename_i s;cases s<;>try(cases hc;done)
  refine key _ rfl fun v h1 hm=>?_;simp_all[aMakeMap,Qfn]
 rename_i s sz b z l c;cases s<;>try(cases hc;done)
 refine key _ rfl fun v h1 hm=>?_;unfold aMakeSlice at hm⊢;split at hm
 ·split at hm;·simp_all[Qfn]
  grind[HM.run]
 grind[HM.run]
theorem StepV.fresh{fp}(a:StepV P i s T h v h1 fp)(hc:s.op.fresh=true):newFP i h h1 fp:=by
 unfold StepV at a;split at a;·exact a.fresh hc
 obtain⟨t,_,a⟩:=a;split at a;·exact StepX.fresh a hc
 obtain⟨_,rfl,rfl⟩:=a;exact Qq4
def HM.seer{α}:HM α->Prop|.ret _=>True|.fail=>True|.look _ k=>k none=.fail/\∀x,(k x).seer|.put _ _ _=>False
variable{m:HM α}{k:List AV->HM α}
theorem HM.Quv(m:HM α):m.seer->∀h a h1,m.run h=some (a,h1)->(m.fp h).2=[]/\∀b∈(m.fp h).1,h.get b≠none:=by
 induction m with|ret a=>intro _ h a h1 _;exact⟨rfl,fun b hb=>by simp[HM.fp]at hb⟩|fail=>intro _ h a h1 hm;simp[HM.run]at hm|look b k ih=>
  rintro⟨hn,hr⟩h a h1 hm;simp only[HM.run]at hm;obtain⟨k1,k2⟩:=ih _ (hr _) h a h1 hm;refine⟨k1,fun b' hb'=>?_⟩;simp only[HM.fp,Zav]at hb';rcases hb' with rfl|hb';·grind[HM.run]
  exact k2 b' hb'|put b x k ih=>intro hr;exact hr.elim
theorem HM.Qq5{β}{f:α->HM β}(h1:m.seer)(d:∀a,(f a).seer):(m.bind f).seer:=by induction m with|ret a=>exact d a|fail=>trivial|look b k c=>exact⟨by simp only[h1.1];rfl,fun x=>c x (h1.2 x)⟩|put b x k c=>exact h1.elim
theorem HM.QmA(o:Option α):(HM.opt o).seer:=by cases o<;>trivial
theorem HM.Qqo{b g}(a:∀cs,(k cs).seer):(HM.cells b g k).seer:=by refine⟨rfl,fun x=>?_⟩;match x with
 |some (.cells c cs)=>simp only;cases Nat.beq c g<;>first|exact trivial|exact a cs
 |some (.map _ _)=>trivial|some (.dead _)=>trivial|some (.loop ..)=>trivial|none=>trivial
theorem Qq6(n)(x):(aLoad n x).seer:=by
 unfold aLoad;split
 ·refine HM.Qqo fun cs=>?_;split;·exact HM.QmA _
  split<;>trivial
 ·split;·exact HM.QmA _
  split<;>trivial
 trivial
theorem Qtl(k)(x):(aLenC k x).seer:=by
 unfold aLenC;split
 ·unfold aLen;split<;>try trivial
  refine⟨rfl,fun y=>?_⟩;match y with|some (.map a es)=>simp only;rename_i b g _;cases Nat.beq a g<;>trivial|some (.cells _ _)=>trivial|some (.dead _)=>trivial|some (.loop ..)=>trivial|none=>trivial
 trivial
theorem StepV.sees{fp}(d:StepV P i s T h v h1 fp)(hc:s.op.sees=true):fp.all=false/\fp.W=[]/\∀b∈fp.R,h.get b≠none:=by
 have key:∀{s:SOp},s.sees=true->StepX P i s T h v h1 fp->fp.all=false/\fp.W=[]/\∀b∈fp.R,h.get b≠none:=by
  intro s hc d;obtain⟨out,l,hm,ho⟩:=d;have fin:∀m:HM AV,m.seer->aop i T s=hval m->fp.all=false/\fp.W=[]/\∀b∈fp.R,h.get b≠none:=by intro m a e;have c:(hval m).seer:=HM.Qq5 a fun _=>trivial;rw[e]at hm;have f:=HM.Quv _ c h _ _ hm;obtain⟨u,g,k,he⟩:=QaU hm;cases he;obtain⟨rfl,rfl,rfl⟩:=ho;rw[e];exact⟨rfl,f.1,f.2⟩
  cases s<;>try(cases hc;done)
  ·exact fin _ (Qq6 _ _) rfl
  exact fin _ (Qtl _ _) rfl
 unfold StepV at d;grind
theorem Qq7{l}{m}{ft}(f:StepV P bi s A.T A.h v h1 fs)(k:StepV P l t B.T B.h u m ft)(hc:s.op.sees=true\/s.op.fresh=true)(hf:t.op.fresh=true)(d:s.op.still=true)(hm:∀b,h1.get b≠none->B.h.get b≠none):fs.apart ft=true:=by
 obtain⟨q,w⟩:=k.fresh hf;have key:fs.all=false/\∀b,b∈fs.R\/b∈fs.W->B.h.get b≠none:=by
  rcases hc with h|h;·obtain⟨g,i,n⟩:=f.sees h;refine⟨g,fun b x=>hm b (f.mono d ?_)⟩;simp_all
  obtain⟨g,i⟩:=f.fresh h;grind
 obtain⟨g,i⟩:=key;have p:∀xs a:List Nat,(∀b∈xs,∀c∈a,b≠c)->disj xs a=true:=by intro xs a o;unfold disj;grind
 unfold FP.apart;grind
theorem Qgy{g}{ft}(d:StepV P bi s A.T A.h v h1 fs)(c:StepV P i t B.T B.h u g ft)(hc:s.op.cls=0\/t.op.cls=0\/(s.op.cls<=1/\t.op.cls<=1)):fs.apart ft=true:=by
 rcases hc with h|h|⟨h,f⟩;·obtain⟨a,b,k⟩:=d.cls (by omega);grind[FP.apart,disj]
 ·obtain⟨a,b,k⟩:=c.cls (by omega);grind[FP.apart,disj]
 obtain⟨a,b,_⟩:=d.cls h;obtain⟨l,b2,_⟩:=c.cls f;simp_all[FP.apart,disj]
theorem RunL.each{base}:∀{l:List Nat}{A C:St},RunL P base sops fpf l A C->∀i∈l,∃(s:SOper)(B:St)(v:AV)(h1:Heap),sops[i]?=some s/\StepV P (base+i) s B.T B.h v h1 (fpf i)
 |[],A,C,_,i,hi=>by simp at hi|j::l,A,C,a,i,hi=>by
  obtain⟨B,⟨s,v,h1,b,c,rfl⟩,a⟩:=a;rcases Zav.1 hi with h|h;·grind
  exact a.each i h
theorem RunL.grow{base}(a:(sops.all fun s=>s.op.still)=true):∀{l:List Nat}{A C:St},RunL P base sops fpf l A C->∀i∈l,∃(s:SOper)(B:St)(v:AV)(h1:Heap),sops[i]?=some s/\StepV P (base+i) s B.T B.h v h1 (fpf i)/\∀b,A.h.get b≠none->B.h.get b≠none
 |[],A,C,_,i,hi=>by simp at hi|j::l,A,C,c,i,hi=>by
  obtain⟨B,⟨s,v,h1,g,d,rfl⟩,c⟩:=c;rcases Zav.1 hi with h|h;·grind
  obtain⟨t,D,u,k,e,f,hm⟩:=c.grow a i h;exact⟨t,D,u,k,e,f,fun b m=>hm b (d.mono (ZaH.1 a s (Zaa g)) m)⟩
theorem RunL.two{base}(c:(sops.all fun s=>s.op.still)=true):∀{g d:List Nat}{A C:St}{k:Nat},RunL P base sops fpf (g++k::d) A C->∀i∈d,∃(s t:SOper)(B D:St)(v u:AV)(h1 f:Heap),sops[k]?=some s/\sops[i]?=some t/\StepV P (base+k) s B.T B.h v h1 (fpf k)/\StepV P (base+i) t D.T D.h u f (fpf i)/\∀b,h1.get b≠none->D.h.get b≠none|[],d,A,C,k,a,i,hi=>by obtain⟨B,⟨s,v,h1,l,h,rfl⟩,a⟩:=a;obtain⟨t,D,u,f,e,m,hm⟩:=a.grow c i hi;exact⟨s,t,A,D,v,u,h1,f,l,e,h,m,hm⟩|_::g,d,A,C,k,a,i,hi=>by obtain⟨B,_,a⟩:=a;exact RunL.two c a i hi
theorem QmB{n k}(a:k<n):List.range n=List.range k++k::List.range' (k+1) (n-k-1):=by
 have h1:n=k+(1+(n-k-1)):=by omega
 conv=>lhs;rw[h1,Zb0]
 rw[<-List.range'_append_1,Zb0];grind[Zcg]
theorem Quw{base}(n:freeB sops a=true)(f:RunL P base sops fpf (List.range sops.length) A C)(hp:∀p∈a,(fpf p.1).apart (fpf p.2)=true):Free sops fpf:=by
 unfold freeB at n;simp only[ZaH,Zau,Zac,Zbo]at n;refine⟨?_,?_⟩;·intro j s d k I;have x:j<sops.length:=(Zaf.1 d).1;simp_all
 intro k i l hi;rcases(n i hi).2 k l with h|h;·exact .inl (QhJ (sops:=sops) sops [] [] (by simp) rfl (by simp) i k h)
 right;intro s t d q;unfold pairOK at h;rw[d,q]at h;simp only[Zac,Zbo]at h;refine⟨h.1,?_⟩;obtain⟨w,B1,v1,h1,m,b⟩:=f.each k (by simp;omega);obtain⟨u,B2,v2,G,g,c⟩:=f.each i (by simp;omega);rw[d]at m;cases m;rw[q]at g;cases g;rcases h.2 with(((h|h)|h)|h)|h;·exact Qgy b c (.inl (by simpa using h))
 ·exact Qgy b c (.inr (.inl (by simpa using h)))
 ·grind[Qgy,Zaw]
 ·simp_all
 obtain⟨⟨B,y⟩,v⟩:=h;have o:(sops.all fun s=>s.op.still)=true:=v;rw[QmB (show k<sops.length by omega)]at f;obtain⟨w,u,B1,B2,F,E,H,z,m,g,q1,q2,hm⟩:=f.two o i (by grind);grind[Qq7]
theorem Qd3:∀{os:List Oper}{a:List SOper},okOpers P N ops os a=true->os.length=a.length/\∀(i:Nat)(o:Oper),os[i]?=some o->∃s,a[i]?=some s/\okOper P N ops o s=true|[],[],_=>⟨rfl,fun i o h=>by simp at h⟩|[],_::_,h=>by simp[okOpers]at h|_::_,[],h=>by simp[okOpers]at h|o::os,s::a,h=>by simp only[okOpers,Zac]at h;obtain⟨h1,b⟩:=Qd3 h.2;grind
theorem Qux(h:okOpers P N ops ops.toList sops=true):Fits P N ops sops:=by obtain⟨h1,a⟩:=Qd3 h;exact⟨by simpa using h1,fun i o ho=>a i o (by simp_all)⟩
theorem Qfo(n j)(d):(Array.replicate n false).getD j d=if j<n then false else d:=by
 by_cases h:j<n;·simp[h]
 simp[h]
theorem QmC(n m)(h:n<=m):rest n (Array.replicate m false)=List.range n:=by unfold rest;apply ZbI.2;intro i hi;rw[Qfo,if_pos (by grind)];rfl
theorem Qgz{ro}{base id}{a}(d:okRegion P N ops draw sops b=true)(f:RunL P base sops fpf (List.range sops.length) A C)(hp:∀p∈b,(fpf p.1).apart (fpf p.2)=true)(S:SRel N c A a w)(hQ:∀c' g w',SRel N c' C g w'->Evo c w c' w'->Q .normal g w'):(Code.region id ops draw).wpIn (FW ro) 0 P Q a w:=by unfold okRegion at d;simp only[Zac,Zbo,Zbh]at d;obtain⟨h1,h⟩:=d;have F:=Qux h1;cases draw with|false=>refine wpIn_region ?_;rw[F.size];exact Qgh F hQ _ A c a w f S (.refl c w)|true=>
 obtain⟨hm,hf⟩:=h.resolve_left (by simp);refine wpIn_region_any hm ?_;have R:=Quw hf f hp;obtain⟨E1,H1⟩:=S.heap.drew;have S1:SRel N c A a w.drew:=⟨H1,fun i=>Zcm (E1.ext S.heap.disj) _ _ (S.tmps i),S.size,S.defers.mono E1⟩;refine Qq3 (base:=base) F R hQ ops.size _ A C c a w.drew (by simp) ?_ ?_ ?_ (.refl C) S1 E1;·rw[QmC _ _ (by rw[F.size];omega)];simp[F.size]
 ·intro j k;rw[Qfo]at k;simp_all
 rw[QmC _ _ (by rw[F.size];omega)];exact f
def W(P:Program)(N:Nat)(d:SCode)(Q:SX->St->Prop)(A:St):Prop:=∀code,okCode P N code d=true->∀(c:Ctx (okc P))(a:Act)(w:World),SRel N c A a w->∀(ro:Option Nat),(d.rf=true->ro=none)->∀(Q':Exit->Act->World->Prop),(∀e B f g b,Q e B->SRel N f B g b->Evo c w f b->Q' e.toExit g b)->code.wpIn (FW ro) 0 P Q' a w
section rules
variable{N:Nat}{Q:SX->St->Prop}{A:St}
theorem W.mono(h:W P N f Q A)(k:∀e B,Q e B->Q' e B):W P N f Q' A:=fun code b c a w S ro d R m=>h code b c a w S ro d R fun e B g i l n S' E'=>m e B g i l (k e B n) S' E'
theorem W.congr(h:W P N f Q A)(e:SEq B A):W P N f Q B:=fun code b c a w S ro d R g=>h code b c a w (S.congr e) ro d R g
theorem W.skip(h:Q .normal A):W P N .skip Q A:=by intro code b c a w S ro d Q' f;cases code<;>simp only[okCode,Zat]at b;exact wpIn_skip (f .normal A c a w h S (.refl c w))
theorem W.ret(h:Q .ret A):W P N .ret Q A:=by intro code b c a w S ro d Q' f;cases code<;>simp only[okCode,Zat]at b;exact wpIn_ret (f .ret A c a w h S (.refl c w))
theorem W.exit(h:Q (.exit i) A):W P N (.exit i) Q A:=by intro code b c a w S ro d Q' f;cases code<;>simp only[okCode,Zat,beq_iff_eq]at b;subst b;exact wpIn_exit (f (.exit _) A c a w h S (.refl c w))
theorem W.seq{x:SCode}(h:W P N x (fun e B=>match e with|.normal=>W P N y Q B|e=>Q e B) A):W P N (.seq x y) Q A:=by intro code b c a w S ro d Q' l;cases code<;>simp only[okCode,Zat,Zac]at b;rename_i n cy;refine wpIn_seq (h n b.1 c a w S ro (fun e=>d (by simp[SCode.rf,e])) _ ?_);intro e B g m k f S' E';cases e with|normal=>exact f cy b.2 g m k S' ro (fun e=>d (by simp[SCode.rf,e])) Q' fun q B2 t o s p S2 E2=>l q B2 t o s p S2 (E'.trans E2)|exit i=>exact l (.exit i) B g m k f S' E'|ret=>exact l .ret B g m k f S' E'
theorem W.cond{x}{t}(h:ev A.T x=.bool t)(h1:t=true->W P N y Q A)(k:t=false->W P N z Q A):W P N (.cond x y z) Q A:=by intro code b c a w S ro d Q' g;cases code<;>simp only[okCode,Zat,Zac]at b;rename_i o cy i;have f:=Qau S.tmps b.1.1;rw[h]at f;simp only[VRel]at f;refine wpIn_cond f ?_;cases t with|true=>exact h1 rfl cy b.1.2 c a w S ro (fun e=>d (by simp[SCode.rf,e])) Q' g|false=>exact k rfl i b.2 c a w S ro (fun e=>d (by simp[SCode.rf,e])) Q' g
theorem W.block{b:SCode}(h:W P N b (fun e B=>match e with|.exit j=>if j=i then Q .normal B else Q (.exit j) B|e=>Q e B) A):W P N (.block i b) Q A:=by intro code d c a w S ro o Q' n;cases code<;>simp only[okCode,Zat,Zac,beq_iff_eq]at d;rename_i j p;obtain⟨rfl,d⟩:=d;refine wpIn_block (h p d c a w S ro (fun e=>o (by simp[SCode.rf,e])) _ ?_);intro e B m g l f S' E';cases e with|normal=>exact n .normal B m g l f S' E'|ret=>exact n .ret B m g l f S' E'|exit k=>
 exact b1WW0
theorem lk_rm(T)(l)(i):lk (rm T l) i=if l.any (Nat.beq i)then .any else lk T i:=by induction T with|nil=>simp[rm,lk]|cons p T b=>obtain⟨j,u⟩:=p;simp only[rm];cases c:l.any (Nat.beq j)with
 |true=>
  simp only[cond_true,b,lk];by_cases e:j=i;·simp_all
  have a:Nat.beq j i=false:=by simp_all[ZaI]
  rw[a];simp|false=>
  simp only[cond_false,lk,b];by_cases e:j=i;·grind
  have a:Nat.beq j i=false:=by simp_all[ZaI]
  rw[a];simp
theorem SRel.forget{a}(S:SRel N c ⟨T,h⟩ a w)(l):SRel N c ⟨rm T l,h⟩ a w:=⟨S.heap,fun i=>by rw[lk_rm];split<;>first|exact S.tmps i|simp[VRel],S.size,S.defers⟩
theorem W.region(base)(fpf)(k:RunL P base sops fpf (List.range sops.length) A C)(hp:∀p∈b,(fpf p.1).apart (fpf p.2)=true)(hQ:Q .normal ⟨rm C.T dead,C.h⟩):W P N (.region sops b dead) Q A:=by intro code d c a w S ro i Q' f;cases code<;>simp only[okCode,Zat]at d;exact Qgz d k hp S fun l h g S' E'=>f .normal _ l h g hQ (S'.forget dead) E'
end rules
end Go.AM
theorem Go.AM.b1gge{p:Prop}(h:p:=by
 intro i;refine VRel.rebase _ ?_;by_cases hi:i<args.length
 ·have :=Qin args a.toList 0 [] i l rfl;simp only[ZaT]at this;have e:(a++Array.replicate (fn.ntmps-a.size) undef).getD i undef=a.toList.getD i undef:=by simp_all[Array.getElem?_append_left]
  simp_all
 simp_all[Qio,VRel]):p:=h
namespace Go.AM
variable{P:Program}
variable{v x:AV}{a:Act}{R:Ending->World->Prop}{h h':Heap}{args vs:List AV}{f:Nat}{o:Obj}{n:Option Nat}{T:Tmps}{t:TypeId}{y:Value}{w w0:World}
inductive SRes where|tmp(t:Nat)|cell(a:Nat)(n:Option Nat)deriving Inhabited
structure SFn where
 n:Nat
 res:List SRes
 body:SCode
variable{sf:SFn}
def argT:Nat->List AV->Tmps|_,[]=>[]|k,x::xs=>(k,x)::argT (k+1) xs
def resV(T:Tmps)(h:Heap):List SRes->Option (List AV)
 |[]=>some []|.tmp t::r=>match resV T h r with|some b=>some (lk T t::b)|none=>none
 |.cell a n::r=>match(aLoad n (lk T a)).run h,resV T h r with|some (v,_),some b=>some (v::b)|_,_=>none
def resOf:List AV->AV|[v]=>v|a=>.tup a
def okRes(P:Program):List ResultVar->List SRes->Bool|[],[]=>true|.tmp t::r,.tmp d::b=>t==d&&okRes P r b|.cell a t::r,.cell c n::b=>a==c&&rowT P t n&&okRes P r b|_,_=>false
def okFn(P:Program)(f:Nat)(sf:SFn):Bool:=match P.funcs[f]? with|some fn=>(match fn.body with|some code=>okCode P fn.ntmps code sf.body&&fn.ntmps==sf.n&&okRes P fn.results.toList sf.res&&!(fn.name== "runtime.NumGoroutine")|none=>false)|none=>false
theorem Qmi{c:Ctx (okc P)}(H:HRel c h w)(k:VRel c w x y)(l:rowT P t n=true)(hm:(aLoad n x).run h=some (v,h')):∃a cv,y=.pointer (some a)/\(loadVar t a).run P w=.ok cv w/\VRel c w v cv:=by
 cases x<;>simp only[aLoad,HM.run]at hm<;>try(cases hm;done)
 case ptr b g off=>obtain⟨cs,z,hm⟩:=Qbm hm;simp only[VRel]at k;obtain⟨E,base,hp,rfl⟩:=k;obtain⟨C,e,F,I,i,B,A,d⟩:=H.here z hp;cases n with
  |none=>cases m:cs[off]? with|none=>simp[m,HM.opt,HM.run]at hm|some u=>simp only[m,HM.opt,HM.run,Zab,Zal]at hm;obtain⟨rfl,rfl⟩:=hm;obtain⟨cv,f,q⟩:=QdA off d m;rw[ZbN,ZaY]at f;exact⟨_,cv,rfl,by simp[loadVar,Qc9 l,Qeq i,f],q⟩
  |some n=>
   simp only at hm;split at hm;·rename_i s;simp only[HM.run,Zab,Zal]at hm;obtain⟨rfl,rfl⟩:=hm;obtain⟨p,o⟩:=Qda l w;have hlen:=Qbq d;simp at hlen;refine⟨_,.agg ((C.toList.drop (base+off)).take n).toArray,rfl,by simp[loadVar,p,o,QbL (P:=P) (n:=n) (o:=base+off) i (by omega)],?_⟩;simp only[VRel];refine⟨_,rfl,?_⟩;have:=QaK d off n s;simp_all
   simp[HM.run]at hm
 case fptr cs=>simp only[VRel]at k;obtain⟨E,off,C,e,F,rfl,G,i,d⟩:=k;cases n with
  |none=>cases cs with|nil=>simp[HM.opt,HM.run]at hm|cons u cs=>simp only[HM.opt,Zbs,HM.run,Zab,Zal]at hm;obtain⟨rfl,rfl⟩:=hm;obtain⟨cv,f,q⟩:=QdA 0 d (x:=u) rfl;rw[ZbN,ZaY]at f;exact⟨_,cv,rfl,by simp[loadVar,Qc9 l,Qeq i];simp_all,q⟩
  |some n=>
   simp only at hm;split at hm;·rename_i s;simp only[HM.run,Zab,Zal]at hm;obtain⟨rfl,rfl⟩:=hm;obtain⟨p,o⟩:=Qda l w;have hlen:=Qbq d;simp at hlen;refine⟨_,.agg ((C.toList.drop off).take n).toArray,rfl,by simp[loadVar,p,o,QbL (P:=P) (n:=n) (o:=off) i (by omega)],?_⟩;simp only[VRel];refine⟨_,rfl,?_⟩;have:=QaK d 0 n (by simpa using s);simp_all
   simp[HM.run]at hm
def resM(tmps:Array Value):ResultVar->Sem Value|.tmp t=>pure (tmps.getD t undef)|.cell a t=>do loadVar t (<-asAddr (tmps.getD a undef))
theorem QfP{c:Ctx (okc P)}(H:HRel c h w)(g:TRel c w T a):∀{rs:List ResultVar}{f:List SRes}{vs:List AV},okRes P rs f=true->resV T h f=some vs->∃b,(rs.mapM (resM a.tmps)).run P w=.ok b w/\VRels c w vs b
 |[],[],vs,_,d=>by simp_all[resV,VRels]|[],_::_,_,ho,_=>by simp[okRes]at ho|.tmp t::rs,[],_,ho,_=>by simp[okRes]at ho|.cell a t::rs,[],_,ho,_=>by simp[okRes]at ho|.tmp t::rs,.cell _ _::f,_,ho,_=>by simp[okRes]at ho|.cell a t::rs,.tmp _::f,_,ho,_=>by simp[okRes]at ho|.tmp t::rs,.tmp q::f,vs,ho,d=>by
  simp only[okRes,Zac,beq_iff_eq]at ho;obtain⟨rfl,ho⟩:=ho;simp only[resV]at d;split at d;·rename_i us i;cases d;obtain⟨b,h1,k⟩:=QfP H g ho i;exact⟨a.tmps.getD t undef::b,by simp_all[resM],by simp only[VRels];exact⟨_,_,rfl,g t,k⟩⟩
  cases d|.cell p t::rs,.cell z n::f,vs,ho,d=>by
  simp only[okRes,Zac,beq_iff_eq]at ho;obtain⟨⟨rfl,l⟩,ho⟩:=ho;simp only[resV]at d;split at d;·rename_i v y us o i;cases d;obtain⟨b,h1,k⟩:=QfP H g ho i;obtain⟨x,m,e,u,s⟩:=Qmi H (g p) l o;exact⟨m::b,by simp_all[resM,asAddr],by simp only[VRels];grind⟩
  cases d
theorem Qgi{c:Ctx (okc P)}(H:HRel c h w)(i:TRel c w T a){fn}{f}(ho:okRes P fn.results.toList f=true)(l:resV T h f=some vs):∃cv,(results fn a.tmps).run P w=.ok cv w/\VRel c w (resOf vs) cv:=by
 obtain⟨g,h1,b⟩:=QfP H i ho l;have e:results fn a.tmps=(fn.results.toList.mapM (resM a.tmps))>>=fun vs=>pure (if h:vs.toArray.size=1 then vs.toArray[0]else Value.tuple vs.toArray):=by unfold results;rw[Array.mapM_eq_mapM_toList];simp only[bind_map_left];rfl
 rw[e];refine⟨_,by simp only[Sem.run_bind,h1,Result.andThen_ok,Sem.run_pure];rfl,?_⟩;match vs,b with|[],b=>simp only[VRels]at b;subst b;simp[resOf,VRel,VRels]|[v],b=>simp only[VRels]at b;obtain⟨cv,_,rfl,k,rfl⟩:=b;simpa[resOf]using k|v::u::vs,b=>have d:=b;simp only[VRels]at d;obtain⟨cv,_,rfl,_,m,_,rfl,_⟩:=d;simp only[resOf];rw[dif_neg (by simp)];simp only[VRel];exact⟨_,rfl,b⟩
theorem Qin{c:Ctx (okc P)}:∀(xs:List AV)(vs:List Value)(k:Nat)(us:List Value)(i:Nat),VRels c w xs vs->us.length=k->VRel c w (lk (argT k xs) i) ((us++vs).getD i undef)
 |[],vs,k,us,i,_,_=>by simp[argT,lk,VRel]|x::xs,vs,k,us,i,h,d=>by
  simp only[VRels]at h;obtain⟨v,a,rfl,h1,b⟩:=h;simp only[argT,lk];by_cases e:k=i;·simp_all
  have :Nat.beq k i=false:=by simp_all[ZaI]
  rw[this];have:=Qin xs a (k+1) (us++[v]) i b (by simp[d]);simp_all
theorem Qio:∀(xs:List AV)(k i:Nat),k+xs.length<=i->lk (argT k xs) i=.any
 |[],_,_,_=>rfl|x::xs,k,i,h=>by
  simp only[ZaD]at h;simp only[argT,lk];have:Nat.beq k i=false:=by rw[ZaI];simp;omega
  rw[this];exact Qio xs (k+1) i (by omega)
theorem Qcq(h:okFn P f sf=true):∃fn code,P.funcs[f]?=some fn/\fn.body=some code/\okCode P sf.n code sf.body=true/\fn.ntmps=sf.n/\okRes P fn.results.toList sf.res=true/\Callable P f:=by
 unfold okFn at h;split at h
 ·rename_i fn hf;split at h;·rename_i code hc;simp only[Zac,beq_iff_eq,Zbh]at h;obtain⟨⟨⟨h1,a⟩,b⟩,c⟩:=h;exact⟨fn,code,hf,hc,a▸h1,a,b,fn,hf,by simp[hc],c⟩
  cases h
 cases h
abbrev Ctx.rb{ok}(c:Ctx ok)(n:Nat):Ctx ok:={c with base:=n}
variable{c c0:Ctx (okc P)}
theorem Ext.base{ok}(c:Ctx ok)(w)(n):Ext c w (c.rb n) w:=⟨fun _ _ _ h=>h,fun _ h=>h,fun _ _ _ h=>h,fun _ C _ a h=>⟨C,a,h,rfl⟩⟩
theorem HRel.rebase{ok}{c:Ctx ok}(H:HRel c h w)(n):HRel (c.rb n) h w:=⟨H.fresh,H.later,fun b x a=>Zco (c:=c) (c':=(c.rb n)) (Ext.base c w n) (fun f base d hp=>⟨H.owned ⟨x,a,rfl,d⟩ hp,rfl⟩) (H.blk b x a),H.inj,H.disj,H.inF,H.inO⟩
theorem VRel.rebase{ok}{c:Ctx ok}{v}(n)(h:VRel c w x v):VRel (c.rb n) w x v:=Zcm (Ext.base c w n) _ _ h
theorem Evo.rebase{ok}{c c':Ctx ok}{w'}{n}(E:Evo (c.rb n) w c' w'):Evo c w (c'.rb (c.base)) w':=⟨E.os,E.tape,E.output,E.size,E.shape,E.keep,E.rho,E.frz,E.frzNew,E.own,rfl⟩
theorem HRel.mark{ok}{c:Ctx ok}(H:HRel c h w){D}(n:¬c.O D)(q:¬c.F D)(m:w.heap[D]?=some (.deferred (some []))):HRel c h (w.putObj D o)/\Ext c w c (w.putObj D o):=by
 have other:∀k,k≠D->(w.putObj D o).heap[k]?=w.heap[k]?:=fun k a=>World.putObj_heap_other a;have E:Ext c w c (w.putObj D o):=by
  refine⟨fun _ _ _ h=>h,fun _ h=>h,fun f p hf hc=>?_,fun f C e l hc=>⟨C,l,?_,rfl⟩⟩;·grind
  grind
 refine⟨⟨H.fresh,H.later,fun b x d=>Zco E (fun f base i hp=>?_) (H.blk b x d),H.inj,H.disj,fun k a=>by rw[World.putObj_size];exact H.inF k a,fun k a=>by rw[World.putObj_size];exact H.inO k a⟩,E⟩;have g:=H.owned ⟨x,d,rfl,i⟩ hp;grind
theorem QkU{fn}(s:w0.heap.size<=c.base)(fin:∀w,HRel c h w->TRel c w T a->Evo c0 w0 c w->∃v,(results fn a.tmps).run P w=.ok v w/\R (.returned v) w):∀(ds:List Deferred)(w:World),Marks c w ds->HRel c h w->TRel c w T a->Evo c0 w0 c w->LeavesInM Fence.wide 0 P fn a.tmps R ds .returning w
 |[],w,_,H,f,E=>fin w H f E|d::ds,w,⟨⟨D,h1,Q,z,o,n,y⟩,m⟩,H,f,E=>by
  obtain⟨H',X⟩:=H.mark (o:=.deferred none) z o n;have other:∀k,k≠D->(w.putObj D (.deferred none)).heap[k]?=w.heap[k]?:=fun k G=>World.putObj_heap_other G;refine⟨by simp,.inl ⟨D,w.putObj D (.deferred none),by rw[h1],run_takeDeferred n,?_⟩⟩;refine QkU s fin ds _ ?_ H' (fun i=>Zcm X _ _ (f i)) ?_;·clear fin;induction ds with|nil=>show c.base<=_;rw[World.putObj_size];exact m|cons O ds B=>
   obtain⟨⟨D2,q,u,A,t,I,p⟩,L⟩:=m;refine⟨⟨D2,q,u,A,t,?_,p⟩,B (fun J l=>y J (List.mem_cons_of_mem _ l)) L⟩;rw[other D2 (fun e=>?_)];·exact I
   simp_all
  refine⟨E.os,E.tape,E.output,by grind[World.putObj_size],fun b C e F hc=>?_,fun b g K=>?_,E.rho,E.frz,E.frzNew,E.own,E.base⟩;·obtain⟨C',x,M,N⟩:=E.shape b C e F hc;grind
  rw[other b (by omega)];exact E.keep b g K
theorem QkV{R:List AV->Heap->Prop}(b:okFn P f sf=true)(u:args.length<=sf.n)(hw:W P sf.n sf.body (fun e B=>(e=.normal\/e=.ret)/\∃vs,resV B.T B.h sf.res=some vs/\R vs B.h) ⟨argT 0 args,h⟩){a}(H:HRel c h w)(l:VRels c w args a.toList):Calls P f a w fun e w'=>∃cv c' vs h',e=.returned cv/\Evo c w c' w'/\HRel c' h' w'/\VRel c' w' (resOf vs) cv/\R vs h':=by
 obtain⟨fn,code,hf,m,hc,v,p,_⟩:=Qcq b;have hlen:=QaE l;have hlen:args.length=a.size:=by omega
 refine(callsIn_wide (n:=0)).1 (callsIn_of_wp_marks hf m trivial ?_);refine hw code hc (c.rb (w.heap.size)) _ w ⟨H.rebase _,?_,?_,Zar _⟩ none (fun _=>rfl) _ ?_
 ·exact b1gge
 ·simp;omega
 intro e B c' d w' o S' E';obtain⟨he,vs,k,n⟩:=o;have out:LeavesInM Fence.wide 0 P fn d.tmps (fun e w'=>∃cv c' vs h',e=.returned cv/\Evo c w c' w'/\HRel c' h' w'/\VRel c' w' (resOf vs) cv/\R vs h') d.defers .returning w':=by refine QkU (c0:=(c.rb (w.heap.size))) (w0:=w) (T:=B.T) (h:=B.h) (c:=c') (by rw[E'.base];simp_all) ?_ d.defers w' S'.defers S'.heap S'.tmps E';intro t H2 g E2;obtain⟨cv,q,s⟩:=Qgi H2 g p k;exact⟨cv,q,cv,(c'.rb (c.base)),vs,B.h,rfl,E2.rebase,H2.rebase _,s.rebase _,n⟩
 rcases he with rfl|rfl;·exact out
 exact out
theorem HSpec.of_W(a:okFn P f sf=true)(m:args.length<=sf.n)(hw:W P sf.n sf.body (fun e B=>(e=.normal\/e=.ret)/\∃vs,resV B.T B.h sf.res=some vs/\resOf vs=v/\∀b,B.h.get b=h'.get b) ⟨argT 0 args,h⟩):HSpec P f args h v h':=by obtain⟨_,_,_,_,_,_,_,hc⟩:=Qcq a;refine⟨hc,fun c w d H n=>(QkV (R:=fun vs k=>resOf vs=v/\∀b,k.get b=h'.get b) a m hw H n).mono ?_⟩;rintro e o⟨i,g,vs,k,rfl,E,H',V,rfl,l⟩;exact⟨i,g,rfl,E,Qcw l H',V⟩
theorem PSpec.of_W(d)(l:okFn P f sf=true)(y:args.length<=sf.n)(m:noRefs args=true)(o:noRef v=true)(hw:W P sf.n sf.body (fun e B=>(e=.normal\/e=.ret)/\∃vs,resV B.T B.h sf.res=some vs/\∃k,(frzH d (resOf vs)).run B.h=some (v,k)) ⟨argT 0 args,.e⟩):PSpec P f args v:=by
 obtain⟨_,_,_,_,_,_,_,hc⟩:=Qcq l;refine⟨m,o,.e,hc,fun c w n H m=>(QkV (R:=fun vs k=>∃q,(frzH d (resOf vs)).run k=some (v,q)) l y hw H m).mono ?_⟩;rintro e u⟨s,i,vs,k,rfl,E,H',V,q,x⟩;obtain⟨_,V'⟩:=Qe4 H' d _ _ _ _ V x;have t:∀b,i.F b\/i.O b->b<u.heap.size:=fun b a=>a.elim (H'.inF b) (H'.inO b);refine⟨s,only (fun b=>i.F b\/i.O b) c.base,rfl,?_,HRel.only t,Zcp (c:=lent i) (c':=only (fun b=>i.F b\/i.O b) c.base) (fun _ h=>h) _ _ o V'⟩;refine⟨E.os,E.tape,E.output,E.size,E.shape,E.keep,fun b g p hp=>?_,fun b a=>.inl (E.frz b a),fun b a=>?_,fun b a=>a.elim,rfl⟩;·rw[H.fresh b rfl g]at hp;cases hp
 rcases a with a|a;·exact E.frzNew b a
 rcases E.own b a with h1|h1;·simp_all
 omega
end Go.AM
namespace Go.AM
variable{P:Program}
def RunF(P:Program)(base:Nat):Nat->List SOper->List FP->St->St->Prop|_,[],fs,A,C=>fs=[]/\A=C|i,s::r,fs,A,C=>∃f a v h1,fs=f::a/\StepV P (base+i) s A.T A.h v h1 f/\RunF P base (i+1) r a ⟨putD A.T s.dst v,h1⟩ C
theorem RunF.to_L{base}{sops}:∀(r pre:List SOper)(fs a:List FP)(A C:St),sops=pre++r->a.length=pre.length->RunF P base pre.length r fs A C->RunL P base sops (fun i=>(a++fs).getD i ⟨false,[],[]⟩) (List.range' pre.length r.length) A C
 |[],pre,fs,a,A,C,c,d,h=>by obtain⟨rfl,rfl⟩:=h;simp[RunL]|s::r,pre,fs,a,A,C,c,d,h=>by
  obtain⟨f,b,v,h1,rfl,k,g⟩:=h;rw[ZaD,Zcg];refine⟨⟨putD A.T s.dst v,h1⟩,⟨s,v,h1,by rw[c];simp,?_,rfl⟩,?_⟩;·simp_all
  have :=RunF.to_L (sops:=sops) r (pre++[s]) b (a++[f]) _ C (by simp[c]) (by simp[d]) (by simpa using g);simp_all
theorem W.regionF{N}{Q}{A C}{sops}{a}{dead}(base)(fs)(b:RunF P base 0 sops fs A C)(hp:(a.all fun p=>(fs.getD p.1 ⟨false,[],[]⟩).apart (fs.getD p.2 ⟨false,[],[]⟩))=true)(hQ:Q .normal ⟨rm C.T dead,C.h⟩):W P N (.region sops a dead) Q A:=by have h1:=RunF.to_L (P:=P) (base:=base) (sops:=sops) sops [] fs [] A C (by simp) rfl b;refine W.region base _ (by simpa[Zb0]using h1) ?_ hQ;simp_all
end Go.AM
namespace Go.AM
variable{P:Program}
variable{N:Nat}{b c:SCode}{Q:SX->St->Prop}{A:St}
def WL(P:Program)(N:Nat)(b:SCode)(Q:SX->St->Prop)(A:St):Prop:=∀f,okCode P N f b=true->∀(c:Ctx (okc P))(a:Act)(w:World),SRel N c A a w->∀(ro:Option Nat),(b.rf=true->ro=none)->∀(Q':Exit->Act->World->Prop),(∀e B g h d,Q e B->SRel N g B h d->Evo c w g d->Q' e.toExit h d)->Lp ro P f Q' a w
theorem WL.loop(h:WL P N b Q A):W P N (.loop b) Q A:=by intro code d c a w S ro f Q' g;cases code<;>simp only[okCode,Zat]at d;exact(h _ d c a w S ro (fun e=>f (by simp[SCode.rf,e])) Q' g).loop
theorem WL.round(h:W P N b (fun e B=>match e with|.normal=>WL P N b Q B|e=>Q e B) A):WL P N b Q A:=by intro o f c a w S ro d Q' k;refine Lp.round (h o f c a w S ro d _ ?_);intro e B m l n g S2 E2;cases e with|normal=>exact g o f m l n S2 ro d Q' fun t B3 p s u q S3 E3=>k t B3 p s u q S3 (E2.trans E3)|ret=>exact k .ret B m l n g S2 E2|exit i=>exact k (.exit i) B m l n g S2 E2
def WX(P:Program)(N:Nat)(c:SCode)(Q:SX->St->Prop)(A:St):Prop:=W P N c Q A/\∀b,c=.loop b->WL P N b Q A
theorem WX.of(h:W P N c Q A)(hc:∀b,c≠.loop b):WX P N c Q A:=⟨h,fun b e=>absurd e (hc b)⟩
end Go.AM
