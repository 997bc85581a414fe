/- A part of the proof of GuardsLoopCardSaid: lemmas on the way (AmGy, AmH, AmHa). Conditions: none of ours. -/
import Derived.Lib.UnsafeStr
import Derived.Lib.Builder
import Derived.LaidEqlPtr
import Derived.Test.YtikknocmfjfohaaGreatDoorAmL3
theorem Go.AM.b3Oiu{p:Prop}(h:p:=by
 rcases l with⟨_,R,_⟩|⟨M,base,o,cap,C,q,L,hp,rfl,E,S,f⟩;·omega
 obtain⟨rfl,f⟩:=f.resolve_left (by omega);have d:VRels c w (List.replicate (len+1) zero).flatten (Builtin.zeroCells z.cells (len+1)).toList:=QcW (c:=c) (w:=w) (Qcs _ _ hc) (len+1);have hlen:((List.replicate (len+1) zero).flatten).length=(len+1)*s:=by simp[p]
 obtain⟨B,G,O,y,F⟩:=QdB (P:=P) H I m hp (vs:=(List.replicate (len+1) zero).flatten) (off:=off) (by omega) d (onesI d (Qj9 n _));refine⟨.tuple #[],B,G,?_,y,F,by simp[VRel]⟩;simp_all[Builtin.clear_,run_underlying,zeroValue,typeInfo]):p:=h
theorem Go.AM.bbZs9{p:Prop}(h:p:=by
 have N:args=#[y]:=by grind
 have R:argTypes=#[t]:=by grind
 simp_all[resolve,invoke,builtin]):p:=h
theorem Go.AM.b2mXs{p:Prop}(h:p:=by
 unfold notInt at q;split at q;·cases q
 ·cases q
 rename_i h1 h2;cases Y:P.underlying A with|none=>exact absurd Y h2|some d=>exact⟨d,rfl,fun k e=>h1 k (by rw[Y,e])⟩):p:=h
theorem Go.AM.bv4P7{p:Prop}(h:p:=by
 have :(do let d<-resolve a.eval {callee:=.builtin .append,args:=args,argTypes:=argTypes} ty;invoke d.target d.args:Sem Next)=(do pure (.value (<-Builtin.append_ #[t,A] ty #[a.eval u,a.eval J]))):=by
  have N:args=#[u,J]:=by grind
  have R:argTypes=#[t,A]:=by grind
  simp_all[resolve,invoke,builtin]
 rw[this];exact .ofSound C):p:=h
theorem Go.AM.b2OFI{p:Prop}(h:p:=by
 simp only[Zab]at b;obtain⟨⟨⟨B,q⟩,A⟩,C⟩:=b;obtain⟨r,h1,d,g⟩:=QaU hm;cases g;obtain⟨kt,et,M⟩:=QfD B;exact .ofU (Qgn (P:=P) H M (Qav p q) (Qav p A) (Qav p C) d) (QlM d)):p:=h
set_option linter.unusedSectionVars false
set_option maxHeartbeats 32000000
set_option maxRecDepth 100000
set_option linter.unusedVariables false
set_option linter.unusedSimpArgs false
namespace Go.AM
variable{P:Program}{ok:Okc}{c:Ctx ok}{w:World}{h:Heap}
variable{m:Array TypeId}{neg:Bool}{h':Heap}{M p:IntKind}{ks:List LK}{us:List Value}{f:MapEntry->MapEntry}{i n:Nat}{s:Site}{t t2 ty:TypeId}{J k ti:TypeInfo}{B E I K R U a l z:Value}
theorem run_bind'{α β}{m:HM α}{f}{r:β×Heap}(hm:(m.bind f).run h=some r):∃a h1,m.run h=some (a,h1)/\(f a).run h1=some r:=by induction m generalizing h with|ret a=>exact⟨a,h,rfl,hm⟩|fail=>simp[HM.bind,HM.run]at hm|look b k d=>exact d _ hm|put b x k d=>
 obtain⟨l,hm⟩:=Qa7 (k:=k.bind f) hm;obtain⟨a,h1,g,i⟩:=d hm;refine⟨a,h1,?_,i⟩;have c:Nat.blt b lim=true:=by simp_all
 simp only[HM.run,c,cond_true];exact g
def aBoxT(t:Nat)(s:Site)(i:Nat)(x:AV):HM AV:=if x.boxable then .new s i (fun g=>.cells g x.cells) fun b g=>.ret (.typed t x.cells.length (.ptr b g 0))else .fail
theorem QlJ{z v}(H:HRel c h w)(hi:P.info? t=some k)(o:k.zero=some a)(hc:cOK z a=true)(hm:(aBoxT t s i z).run h=some (v,h')):Sound P c w (Instr.alloc t true (.tuple #[])) v h':=by
 unfold aBoxT at hm;split at hm
 ·rename_i m;obtain⟨b,g,d,u,hm⟩:=QdC hm;simp only[HM.run,Zaa,Zal]at hm;obtain⟨rfl,rfl⟩:=hm;have q:=Qep (c:=c) (w:=w) z a hc;have f:=VRel_cells' q m;obtain⟨p,hp,l,n⟩:=H.newCells d u (C:=a.cells) (e:=t) (Qa3 f);refine⟨.pointer (some ⟨w.heap.size,0,none⟩),p,_,?_,l,n,?_⟩;·simp[Instr.alloc,newVar,newRow,zeroValue,typeInfo,hi,o]
  simp only[VRel];refine⟨.inl ⟨w.heap.size,a.cells,(0,0),.inl rfl,?_,.inr ?_⟩,_,0,hp,by simp⟩;·show(w.heap.push _)[w.heap.size]?=_;simp
  have :=QaH f;simp_all
 grind[HM.run]
def AV.bare:AV->AV|.typed _ _ v=>v|v=>v
variable{v x y:AV}{ys:List AV}
theorem VRel.bare{v}(h:VRel c w x v):VRel c w x.bare v:=by cases x<;>first|exact h|exact(by simp only[VRel]at h;exact h.2)
def aEqP(neg:Bool)(x y:AV):Option AV:=match x.bare,y.bare with|.ptr b g o,.ptr c d a=>if b=c/\g=d/\o=a then some (.bool (true !=neg))else none|_,_=>none
def eqPT(P:Program)(t:TypeId):Bool:=match P.underlying t with|some (.pointer e)=>(match P.info? e with|some i=>i.size !=0|none=>false)|_=>false
theorem Qjx{c f}{j}(a)(hp:P.underlying c=some (.pointer f))(b:P.info? f=some j):(Op.equal c (.pointer (some a)) (.pointer (some a))).run P w=.ok true w:=by
 have h:∀d:Nat,(Op.equalIn (d+1) c (.pointer (some a)) (.pointer (some a))).run P w=.ok true w:=fun d=>by simp[Op.equalIn,run_underlying hp,sizeOf,typeInfo,b,run_sameAddr_same]
 simp_all[Op.equal,Op.maxDepth]
theorem Qgb(w:World)(o):(w.drew.alloc o).heap[w.heap.size]?=some o:=by show(w.heap.push o)[w.heap.size]?=_;simp
theorem Qp9{op}{ox oy}{k cy}(m:op=if neg then .neq else .eql)(f:VRel c w x k)(h:VRel c w y cy)(a:eqPT P t=true)(hm:aEqP neg x y=some v):Pure P c w (do eqGuard op t ox oy k cy;binOp op t k cy) v:=by
 unfold aEqP at hm;have f:=f.bare;have h:=h.bare;split at hm
 ·rename_i b g o C E F A s;rw[A]at f;rw[s]at h;split at hm
  ·rename_i p;obtain⟨rfl,rfl,rfl⟩:=p;cases hm;simp only[VRel]at f h;obtain⟨q,base,hp,rfl⟩:=f;obtain⟨B,l,d,rfl⟩:=h;rw[hp]at d;cases d;unfold eqPT at a;split at a
   ·rename_i e z;split at a
    ·rename_i i hi;have u:i.size≠0:=by simpa using a
     have n:=Qjx (w:=w) ⟨q,base+o,none⟩ z hi;subst m;cases neg;·refine⟨.bool true,?_,by simp[VRel]⟩;simp_all[eqGuard,binOp]
     refine⟨.bool false,?_,by simp[VRel]⟩;simp_all[eqGuard,binOp]
    cases a
   cases a
  cases hm
 cases hm
def aConvP(t n:Nat)(x:AV):Option AV:=match x with|.typed c a (.ptr b g o)=>if c=t/\a=n then some x else none|_=>none
def convPT(P:Program)(src dst:TypeId)(T n:Nat):Bool:=match P.underlying src,P.underlying dst with|some (.pointer t),some .unsafePointer=>n !=0&&(match P.info? t with|some i=>i.size !=0|none=>false)|some .unsafePointer,some (.pointer u)=>n !=0&&(P.info? u).isSome&&liesAt P P.depth T (n/P.cellsOf T) 0 u 1|_,_=>false
theorem QnR{src dst}{t}(y:VRel c w x l)(d:convPT P src dst t n=true)(hm:aConvP t n x=some v):Pure P c w (convert src dst l) v:=by
 unfold aConvP at hm;split at hm
 ·rename_i F A b g o;split at hm
  ·rename_i J;obtain⟨rfl,rfl⟩:=J;cases hm;have h:=y;simp only[VRel]at y;obtain⟨q,_,_,_,G⟩:=y;obtain⟨k,C,K,h1,E,B⟩:=q.old (.inr ⟨_,G⟩);have s:l=.pointer (some ⟨k,0,none⟩):=by simp_all
   subst s;have f:w.shape? k=some (F,C.size):=by simp[World.shape?,E]
   unfold convPT at d;split at d
   ·rename_i e z m;simp only[Zab,bne_iff_ne,ne_eq]at d;obtain⟨p,hi⟩:=d;split at hi
    ·rename_i i a;have H:i.size≠0:=by simpa using hi
     have I:C.size=A:=B.resolve_left p;exact⟨_,Lib.run_to_unsafe (P:=P) (w:=w) ⟨k,0,none⟩ z m a H f (by grind),h⟩
    cases hi
   ·rename_i u z m;simp only[Zab,bne_iff_ne,ne_eq]at d;obtain⟨⟨p,hi⟩,L⟩:=d;obtain⟨i,a⟩:=Option.isSome_iff_exists.1 hi;have I:C.size=A:=B.resolve_left p;exact⟨_,Lib.run_from_unsafe (P:=P) (w:=w) ⟨k,0,none⟩ z m a f (by simp_all),h⟩
   cases d
  cases hm
 cases hm
def tagT(t:Nat):AV->AV|.sl b g off len sz=>.typed t 0 (.sl b g off len sz)|v=>v
def aAppendT(t:Nat)(s:Site)(i:Nat)(sz bytes:Nat)(x y:AV):HM AV:=match x with|.nilsl=>(aAppend s i sz bytes .nilsl y).bind fun v=>.ret (tagT t v)|.typed c 0 (.sl b g 0 (len+1) a)=>if c=t then(aAppend s i sz bytes (.sl b g 0 (len+1) a) y).bind fun v=>.ret (tagT t v)else .fail|_=>.fail
theorem Qlx{e}{sz bytes}{cy}(H:HRel c h w)(hx:VRel c w x I)(U:VRel c w y cy)(T:AppT P t t2 e sz bytes ti z)(hm:(aAppendT e s i sz bytes x y).run h=some (v,h')):Sound P c w (Builtin.append_ #[t,t2] ty #[I,cy]) v h':=by
 have tagged:∀(u:AV)(h1:Heap),Sound P c w (Builtin.append_ #[t,t2] ty #[I,cy]) u h1->(∀F q,(Builtin.append_ #[t,t2] ty #[I,cy]).run P w=.ok F q->(∃L,Evo c w L q)->∀b g off len sz,u=.sl b g off len sz->TyAt q e 0 F)->Sound P c w (Builtin.append_ #[t,t2] ty #[I,cy]) (tagT e u) h1:=by
  rintro u h1⟨F,L,q,G,E,H',V⟩K;refine⟨F,L,q,G,E,H',?_⟩;cases u<;>first|exact V|skip
  simp only[tagT,VRel];refine⟨K F q G ⟨L,E⟩ _ _ _ _ _ rfl,?_⟩;simp_all[VRel]
 unfold aAppendT at hm;split at hm
 ·obtain⟨u,h1,d,J⟩:=run_bind' hm;simp only[HM.run,Zaa,Zal]at J;obtain⟨rfl,rfl⟩:=J;refine tagged u h1 (Qey (P:=P) (ty:=ty) H hx U T d) ?_;rintro F q G _ b g off len sz rfl;simp only[VRel]at hx;subst hx;obtain⟨K,⟨d2,p,m⟩,hi,hz,rfl,rfl,X⟩:=T;have d:=Qc8 (P:=P) H U d;obtain⟨ys,n,us,S,d⟩:=d;split at d;·rename_i k;obtain⟨O,B,N⟩:=k;simp only[slLen,Zb8]at O B;cases n with|zero=>simp[HM.run]at d|succ n=>have hg:=Qct (P:=P) (w:=w) (ty:=ty) (t:=t) (t2:=t2) (dlen:=0) (dcap:=0) (base:=none) (cy:=cy) (olds:=[]) (us:=us) K p m hi hz S.lenOf S.first (fun w1 _=>by simp[Builtin.firstCells]) (by omega) (by simpa using O) (by omega);rw[G]at hg;cases hg;exact .inl ⟨w.heap.size,_,(0,0),.inr ⟨rfl,_,_,rfl⟩,Qgb w _,.inl rfl⟩
  grind[HM.run]
 ·rename_i t' b0 g0 f s';split at hm
  ·rename_i e0;subst e0;obtain⟨u,h1,d,J⟩:=run_bind' hm;simp only[HM.run,Zaa,Zal]at J;obtain⟨rfl,rfl⟩:=J;have l:VRel c w (.sl b0 g0 0 (f+1) s') I:=by simp_all[VRel]
   have Z:TyAt w t' 0 I:=by simp_all[VRel]
   refine tagged u h1 (Qey (P:=P) (ty:=ty) H l U T d) ?_;rintro F q G⟨L,E⟩b g off len sz rfl;obtain⟨K,⟨d2,p,m⟩,hi,hz,rfl,rfl,X⟩:=T;replace d:=Qc8 (P:=P) H U d;obtain⟨ys,n,us,S,d⟩:=d;split at d
   ·rename_i k;obtain⟨O,B,N⟩:=k;simp only[slLen]at O B;dsimp only at d;split at d
    ·rename_i e1;subst e1;obtain⟨cs,Y,d⟩:=Qbl d;split at d
     ·rename_i hl;have hxx:=l;simp only[VRel]at l;rcases l with⟨hp,hz0,_⟩|⟨R,base,o,cap,C,e',fr,hp,rfl,hlc,hC,hcap⟩;·omega
      obtain⟨cb2,C2,fr2,q1,q2,q3⟩:=Z.old (.inl rfl);have q1:=q1.resolve_left (by simp);obtain⟨_,l2,J,q1⟩:=q1;simp only[Value.slice.injEq,Zaa,Addr.mk.injEq]at q1;obtain⟨⟨rfl,rfl,_⟩,_,_⟩:=q1;by_cases A:f+1+n<=cap;·have a:=Qbv (P:=P) (w:=w) (ty:=ty) (base:=some ⟨R,0,none⟩) (dlen:=f+1) (dcap:=cap) K p m hi S.lenOf (S.first w rfl) A;rw[G]at a;simp only at a;cases Q:(storeCells ((⟨R,0,none⟩:Addr).add ((f+1)*ti.size)) us).run P w with|halt x y=>rw[Q]at a;cases a|ok x y=>rw[Q]at a;simp only[Result.andThen_ok,Result.ok.injEq]at a;obtain⟨rfl,rfl⟩:=a;obtain⟨C',fr',s1,s2⟩:=E.shape _ _ _ _ q2;exact .inl ⟨R,C',fr',.inr ⟨rfl,_,_,rfl⟩,s1,.inl rfl⟩
      obtain⟨M,So⟩:=Qfa (P:=P) H hxx Y hl;have a:=Qct (P:=P) (w:=w) (ty:=ty) (t:=t) (t2:=t2) (dlen:=f+1) (dcap:=cap) (base:=some ⟨R,0,none⟩) (cy:=cy) (olds:=M) (us:=us) K p m hi hz S.lenOf S.first So.first (by omega) O (by omega);rw[G]at a;cases a;exact .inl ⟨w.heap.size,_,(0,0),.inr ⟨rfl,_,_,rfl⟩,Qgb w _,.inl rfl⟩
     grind[HM.run]
    grind[HM.run]
   grind[HM.run]
  grind[HM.run]
 grind[HM.run]
def aUsd(x:AV):Option AV:=match x with|.nilsl=>some .nilptr|.typed t 0 (.sl b g 0 (_+1) _)=>some (.typed t 0 (.ptr b g 0))|_=>none
theorem Qqa{i}(f:VRel c w x i)(hm:aUsd x=some v):Pure P c w (Builtin.unsafeSliceData_ m ty #[i]) v:=by
 unfold aUsd at hm;split at hm;·cases hm;simp only[VRel]at f;subst f;exact⟨_,Lib.run_unsafeSliceData_nil _ _ _ _ _,by simp[VRel]⟩
 ·rename_i t b g len s;cases hm;simp only[VRel]at f;obtain⟨h,p⟩:=f;obtain⟨E,C,u,h1,y,B⟩:=h.old (.inl rfl);rcases p with⟨_,F,_⟩|⟨a,base,o,cap,C2,e,q,hp,rfl,n,A,d⟩;·omega
  have h1:=h1.resolve_left (by simp);obtain⟨_,l,k,h1⟩:=h1;simp only[Value.slice.injEq,Zaa,Addr.mk.injEq]at h1;obtain⟨⟨rfl,rfl,_⟩,_,_⟩:=h1;obtain⟨z,_⟩:=d.resolve_left (by omega);refine⟨.pointer (some ⟨a,0,none⟩),Lib.run_unsafeSliceData_row _ _ _ _ _ _ (by omega),?_⟩;simp only[VRel];exact⟨.inl ⟨a,C,u,.inl rfl,y,.inl rfl⟩,a,base,hp,by simp;omega⟩
 cases hm
def bytesIn:List AV->Option (List UInt8)|[]=>some []|.int .u8 n::r=>if 0<=n/\n<256 then(bytesIn r).map (UInt8.ofNat n.toNat::·)else none|_=>none
theorem Qhp:∀{ys:List AV}{us:List Value}{s:List UInt8},bytesIn ys=some s->VRels c w ys us->us=s.map fun b=>Value.int .u8 b.toNat
 |[],us,s,d,f=>by simp_all[bytesIn,VRels]|y::ys,us,s,d,f=>by
  have h:∃n s2,y=.int .u8 n/\(0<=n/\n<256)/\bytesIn ys=some s2/\s=UInt8.ofNat n.toNat::s2:=by
   cases y<;>try(simp[bytesIn]at d;done)
   rename_i k n;cases k<;>try(simp[bytesIn]at d;done)
   simp only[bytesIn]at d;split at d;·rename_i g;cases a:bytesIn ys with|none=>simp[a]at d|some s2=>simp only[a,Zbz,Zaa]at d;exact⟨n,s2,rfl,g,rfl,d.symm⟩
   cases d
  obtain⟨n,s2,rfl,g,a,rfl⟩:=h;simp only[VRels]at f;obtain⟨v,l,rfl,h1,i⟩:=f;simp only[VRel]at h1;subst h1;rw[Qhp a i];simp only[ZaK,List.cons.injEq,Value.int.injEq,true_and,and_true];grind[UInt8.toNat_ofNat']
def aUstr(t:Nat)(x n:AV):HM AV:=match x,n with|.nilptr,.int .i64 0=>.ret (.str [])|.typed a _ (.ptr b g 0),.int .i64 n=>if a=t/\0<n/\n<=9223372036854775807 then .cells b g fun cs=>(match bytesIn (cs.take n.toNat)with|some s=>if s.length=n.toNat then .put b (.dead g) (.ret (.str s))else .fail|none=>.fail)else .fail|_,_=>.fail
def ustrT(P:Program)(a:TypeId)(t:Nat):Bool:=match P.underlying a with|some (.pointer e)=>e==t&&P.cellsOf e==1|_=>false
theorem Qps{S it}{t}{n}(H:HRel c h w)(F:VRel c w x R)(E:VRel c w n U)(A:ustrT P S t=true)(hm:(aUstr t x n).run h=some (v,h')):Sound P c w (Builtin.unsafeString_ #[S,it] ty #[R,U]) v h':=by
 unfold aUstr at hm;split at hm;·simp only[HM.run,Zaa,Zal]at hm;obtain⟨rfl,rfl⟩:=hm;simp only[VRel]at F E;subst F;subst E;refine .here H (Lib.run_unsafeString_none _ _ _ _ _) ?_;simp only[VRel];rfl
 ·rename_i t' k b g n;split at hm
  ·rename_i hc;obtain⟨rfl,h0,h63⟩:=hc;obtain⟨cs,N,hm⟩:=Qbl hm;split at hm
   ·rename_i s X;split at hm
    ·rename_i hl;obtain⟨z,hm⟩:=Qa7 hm;simp only[HM.run,Zaa,Zal]at hm;obtain⟨rfl,rfl⟩:=hm;simp only[VRel]at F E;subst E;obtain⟨O,Z,base,hp,G⟩:=F;obtain⟨d,C,I,h1,o,_⟩:=O.old (.inr ⟨_,G⟩);have h1:R=.pointer (some ⟨d,0,none⟩):=by simp_all
     rw[h1]at G;simp only[Value.pointer.injEq,Zaa,Addr.mk.injEq,and_true]at G;obtain⟨rfl,f⟩:=G;have f:base=0:=by omega
     subst f;subst h1;obtain⟨C',e',fr',hO,B,hfr,hbs,i⟩:=H.here N hp;rw[o]at B;cases B;unfold ustrT at A;split at A
     ·rename_i e hu;simp only[Zab,beq_iff_eq]at A;obtain⟨rfl,Q⟩:=A;have hlen:s.length<=cs.length:=by
       have :(cs.take n.toNat).length=s.length:=by
        have L:∀(u:List AV)(s:List UInt8),bytesIn u=some s->u.length=s.length:=by intro u;induction u with|nil=>intro s h;simp only[bytesIn,Zaa]at h;subst h;rfl|cons y u ih=>
         intro s h;cases y<;>try(simp[bytesIn]at h;done)
         rename_i k m;cases k<;>try(simp[bytesIn]at h;done)
         simp only[bytesIn]at h;split at h;·cases o:bytesIn u with|none=>simp[o]at h|some s2=>simp only[o,Zbz,Zaa]at h;subst h;simp[ih s2 o]
         cases h
        grind
       grind
      have J:=Qbs i;simp at J;have hrel:=Qhp X (by have:=QaL i 0 n.toNat (by omega);simpa using this);have T:s≠[]:=by grind
      have M:(n:Int)=(s.length:Int):=by omega
      have q:∀j x,s[j]?=some x->w.cell? ((⟨d,0,none⟩:Addr).add j)=some (.int .u8 x.toNat):=by
       intro j x Y;have hjl:j<s.length:=(Zai.1 Y).1;have h6:(List.take n.toNat (C.toList.drop 0))[j]?=some (.int .u8 x.toNat):=by grind
       grind[Addr.add,World.cell?]
      have l:=Lib.run_unsafeString_row (P:=P) (w:=w) S it ty e hu Q d C.size (by simp[World.shape?,o]) s T (by omega) (by omega) q;rw[<-M]at l;have hlt:=Qbk o;have hw:(w.freeze ⟨d,0,none⟩ s.length).heap[d]?=some (.cells C e (if I.1==I.2 then(0,s.length)else(min I.1 0,max I.2 (s.length)))):=by grind[World.freeze]
      have K:∀k,k≠d->(w.freeze ⟨d,0,none⟩ s.length).heap[k]?=w.heap[k]?:=by grind[World.freeze]
      have hsz:(w.freeze ⟨d,0,none⟩ s.length).heap.size=w.heap.size:=by grind[World.freeze]
      have a:(w.freeze ⟨d,0,none⟩ s.length).os=w.os/\(w.freeze ⟨d,0,none⟩ s.length).tape=w.tape/\(w.freeze ⟨d,0,none⟩ s.length).output=w.output:=by simp only[World.freeze];grind
      have p:Live h b g:=⟨_,N,rfl,fun k=>by simp⟩;have:=H.put (w':=w.freeze ⟨d,0,none⟩ s.length) (cb:=d) (base:=0) (x:=.dead g) z (fun y hy=>H.later b _ N y hy) (.inr hp) (.inr ⟨g,0,p,hp⟩) a.1 a.2.1 a.2.2 (by omega) (by omega) (fun k _ hk=>K k hk) (fun C2 e2 fr2 V=>by grind) (fun _=>trivial);exact⟨_,_,_,l,this.1,this.2,by simp[VRel]⟩
     cases A
    grind[HM.run]
   grind[HM.run]
  grind[HM.run]
 grind[HM.run]
def aMapEnt(row:Bool)(ks:List LK)(zero x k:AV):HM AV:=if keyOK row ks k then match x with
 |.map b g=>.entries b g fun es=>match aFind row ks k es 0 with|some (some (i,v))=>.put b (.map g (es.set i (k,v))) (.ret (.tup [v,.int .i64 (.ofNat i)]))|some none=>.put b (.map g (es++[(k,zero)])) (.ret (.tup [zero,.int .i64 (.ofNat es.length)]))|none=>.fail
 |_=>.fail else .fail
def aEntSt(x s v:AV):HM AV:=match x,s with
 |.map b g,.int _ (.ofNat i)=>.entries b g fun es=>match es[i]? with|some p=>.put b (.map g (es.set i (p.1,v))) (.ret .any)|none=>.fail
 |_,_=>.fail
theorem Qgo(m:∀e,(f e).born=e.born){p}:∀{es:List (AV×AV)}{ms:List MapEntry}{clock:Nat}(i:Nat),MRel c w es ms clock->(∀e,ms[i]?=some e->VRel c w p.1 (f e).key/\VRel c w p.2 (f e).val)->MRel c w (es.set i p) (ms.modify i f) clock|[],ms,clock,i,hm,_=>by simp_all[MRel]|(n,x)::es,ms,clock,i,hm,hf=>by simp only[MRel]at hm;obtain⟨e,k,rfl,h1,d,b,g,a⟩:=hm;cases i with|zero=>obtain⟨l,h⟩:=hf e (by simp);obtain⟨q,o⟩:=p;simp only[Zb1,List.modify_zero_cons,MRel];exact⟨_,_,rfl,l,h,by simp_all,by simp_all,a⟩|succ i=>simp only[List.set_cons_succ,List.modify_succ_cons,MRel];exact⟨_,_,rfl,h1,d,b,by simpa using g,Qgo m i a (fun e he=>hf e (by simpa using he))⟩
theorem QfC:∀{es:List (AV×AV)}{ms:List MapEntry}{clock:Nat}(i:Nat){e:MapEntry},MRel c w es ms clock->ms[i]?=some e->e.born+es.length=clock+i|[],ms,clock,i,e,hm,hi=>by simp_all[MRel]|(k,x)::es,ms,clock,i,e,hm,hi=>by simp only[MRel]at hm;obtain⟨h,a,rfl,h1,g,f,d,b⟩:=hm;cases i with|zero=>simp at hi;subst hi;simp;omega|succ i=>have:=QfC i b (by simpa using hi);simp;omega
theorem Qj8:∀{es:List (AV×AV)}{ms:List MapEntry}{clock:Nat},MRel c w es ms clock->ms.length=es.length|[],ms,clock,hm=>by simp_all[MRel]|(k,x)::es,ms,clock,hm=>by simp only[MRel]at hm;obtain⟨h,a,rfl,h1,f,d,g,b⟩:=hm;simp[Qj8 b]
theorem QlK{kt et}{row}{zero k r}{cx ck zv}(H:HRel c h w)(T:MapT P t row ks kt et)(hx:VRel c w x cx)(hkey:VRel c w k ck)(hi:P.info? et=some ti)(hz:ti.zero=some zv)(hc:cOK zero zv=true)(hm:(aMapEnt row ks zero x k).run h=some (r,h')):Sound P c w (Instr.mapEntry t cx ck) r h':=by
 unfold aMapEnt at hm;split at hm
 ·rename_i hok;have hck:=fun e=>Qez (P:=P) T hkey hok e;cases x<;>simp only at hm<;>try(cases hm;done)
  case map b g=>
   obtain⟨es,hb,hm⟩:=Qcy hm;simp only[VRel]at hx;obtain⟨cb,hp,rfl⟩:=hx;obtain⟨ms,clock,hO,hC,hR,hcl⟩:=H.atMap hb hp;split at hm;·rename_i i xo hf;obtain⟨hlim,hm⟩:=Qa7 hm;simp only[HM.run,Zaa,Zal]at hm;obtain⟨rfl,rfl⟩:=hm;obtain⟨r',h1,h2⟩:=QbI (P:=P) (w:=w) T hkey hR hf;cases r' with|none=>simp[FoundRel]at h2|some r'=>
    obtain⟨i',xv⟩:=r';simp only[FoundRel]at h2;obtain⟨rfl,hxv⟩:=h2;obtain⟨_,k',hk1,hk2⟩:=Qh1 hf;simp only[Nat.sub_zero]at hk1;obtain⟨e,he,hke,hve⟩:=QeA i hR hk1;have hrow:row=true\/∃lk,ks=[lk]:=by cases hrw:row with|true=>exact .inl rfl|false=>have hkk:=T.hk;have hr:=T.hr;rw[hrw]at hr;have hl:=Qcn hkk hr;match ks,hl with|[lk],_=>exact .inr ⟨lk,rfl⟩
    obtain⟨hsame,hbits⟩:=Qiy hk2 hkey hke hrow;have hkeep:(Instr.keyThatStays e.key ck).run P w=.ok ck w:=by simp_all[Instr.keyThatStays]
    have hborn:e.born=i:=by grind[QfC]
    rw[ZaT]at he;obtain⟨c',E,H'⟩:=H.setMap hlim hb hp (es':=es.set i (k,xo)) (ms':=ms.modify i fun e=>{e with key:=ck}) (clock':=clock) (fun c' w' E=>by have :=Qgo (f:=fun e=>{e with key:=ck}) (fun _=>rfl) (p:=(k,xo)) i (MRel.mono (E.ext H.disj) _ _ _ hR) (fun e' he'=>by rw[ZaT,he]at he';cases he';exact⟨Zcg (E.ext H.disj) _ _ hkey,Zcg (E.ext H.disj) _ _ hve⟩);exact⟨by simp_all,by simpa using hcl⟩);refine⟨.tuple #[xv,goInt e.born],c',_,?_,E,H',?_⟩;·simp[Instr.mapEntry,run_underlying T.hu,QbS hC,hck,h1,he,hkeep,Qdl hC]
    ·simp only[VRel];refine⟨_,rfl,?_⟩;simp only[VRels];exact⟨_,_,rfl,Zcg (E.ext H.disj) _ _ hxv,_,_,rfl,by simp_all[VRel,goInt],rfl⟩
   ·rename_i hf;obtain⟨hlim,hm⟩:=Qa7 hm;simp only[HM.run,Zaa,Zal]at hm;obtain⟨rfl,rfl⟩:=hm;obtain⟨r',h1,h2⟩:=QbI (P:=P) (w:=w) T hkey hR hf;have:r'=none:=by grind[FoundRel]
    subst this;have hzr:∀{c':Ctx ok}{w':World},VRel c' w' zero zv:=Qep _ _ hc;obtain⟨c',E,H'⟩:=H.setMap hlim hb hp (es':=es++[(k,zero)]) (ms':=ms.push {key:=ck,val:=zv,born:=clock}) (clock':=clock+1) (fun c' w' E=>by have:=Qgm (Zcg (E.ext H.disj) _ _ hkey) (hzr (c':=c') (w':=w')) (MRel.mono (E.ext H.disj) _ _ _ hR);exact⟨by simp_all,by simpa using hcl⟩);refine⟨.tuple #[zv,goInt clock],c',_,?_,E,H',?_⟩;·simp[Instr.mapEntry,run_underlying T.hu,QbS hC,hck,h1,Qdl hC,zeroValue,typeInfo,hi,hz]
    ·simp only[VRel];refine⟨_,rfl,?_⟩;simp only[VRels];exact⟨_,_,rfl,hzr,_,_,rfl,by grind[VRel,goInt],rfl⟩
   grind[HM.run]
 grind[HM.run]
theorem Qqb{s r}(hm:(aEntSt x s v).run h=some (r,h')):r=.any:=by
 unfold aEntSt at hm;split at hm;·grind[Qcy,HM.run]
 grind[HM.run]
theorem QnS{s r}{u cs cv}(H:HRel c h w)(B:VRel c w x u)(C:VRel c w s cs)(F:VRel c w v cv)(hm:(aEntSt x s v).run h=some (r,h')):SoundU P c w (Instr.entryStore t u cs cv) h':=by
 unfold aEntSt at hm;split at hm
 ·rename_i b g M i;obtain⟨es,q,hm⟩:=Qcy hm;simp only[VRel]at B C;obtain⟨L,hp,rfl⟩:=B;subst C;obtain⟨ms,clock,N,y,k,n⟩:=H.atMap q hp;split at hm
  ·rename_i p m;obtain⟨d,hm⟩:=Qa7 hm;simp only[HM.run,Zaa,Zal]at hm;obtain⟨rfl,rfl⟩:=hm;obtain⟨e,he,l,I⟩:=QeA i k m;have hlen:=Qj8 k;have G:i<ms.size:=by grind
   have o:∀(j:Nat)(z:j<ms.size),ms[j].born=j:=fun j z=>by have:=QfC j k (e:=ms[j]) (by simp[z]);omega
   have a:ms.findIdx? (fun e=>(e.born:Int)==((i:Nat):Int))=some i:=by grind[Array.findIdx?_eq_some_iff_getElem]
   rw[ZaT]at he;obtain⟨A,E,H'⟩:=H.setMap d q hp (es':=es.set i (p.1,v)) (ms':=ms.modify i fun e=>{e with val:=cv}) (clock':=clock) (fun A K E=>by have :=Qgo (f:=fun e=>{e with val:=cv}) (fun _=>rfl) (p:=(p.1,v)) i (MRel.mono (E.ext H.disj) _ _ _ k) (fun J f=>by rw[ZaT,he]at f;cases f;exact⟨Zcg (E.ext H.disj) _ _ l,Zcg (E.ext H.disj) _ _ F⟩);exact⟨by simp_all,by simpa using n⟩);refine⟨A,_,?_,E,H'⟩;simp[Instr.entryStore,QbS y,asInt,asIntOf,a,Qdl y]
  grind[HM.run]
 grind[HM.run]
def aAppendZ(s:Site)(i:Nat)(sz bytes:Nat)(zero:List AV)(x n:AV):HM AV:=match x,n with|.nilsl,.int .i64 (.ofNat (n+1))=>if(n+1)*bytes<=140737488355328/\n+1<=140737488355328/\0<sz then .new s i (fun g=>.cells g (List.replicate (n+1) zero).flatten) fun b g=>.ret (.sl b g 0 (n+1) sz)else .fail|_,_=>.fail
theorem Qh2{e}{i}(m:P.underlying t=some (.slice e))(f:P.underlying t2=some (.int p))(hi:P.info? e=some i)(q:i.zero=some z)(c:i.size≠0)(s:0<n)(u:n*i.bytes<=140737488355328)(k:n<=140737488355328):(Builtin.append_ #[t,t2] ty #[.slice none 0 0,.int .i64 n]).run P w=.ok (.slice (some ⟨w.heap.size,0,none⟩) n (grownCap w n 0 e)) (w.drew.alloc (.cells ((Builtin.zeroCells z.cells n).toList++(Builtin.zeroCells z.cells (grownCap w n 0 e-n)).toList).toArray e)):=by
 have l:¬(n<=0):=by omega
 have d:n≠0:=by omega
 have hw:IntKind.i64.wrap (n:Int)=n:=by rw[<-wr_eq];grind[wr_of,lo,AM.hi]
 have h:¬(n*i.size=0):=by have:=Nat.mul_pos s (Nat.pos_of_ne_zero c);omega
 have o:¬((n:Int)<0):=by omega
 have g:¬(281474976710656<(n:Int)*(i.bytes:Int)):=by omega
 have b:¬(9223372036854775807<(n:Int)):=by omega
 have a:¬(281474976710656<Builtin.nextslicecap n 0*i.bytes):=by simp_all[Qiw]
 simp only[Builtin.append_,ZaT,List.getElem?_toArray,Zbu,ZbU,Sem.run_bind,run_underlying m,run_underlying f,Result.andThen_ok,QaO hi,Sem.run_pure];simp[asInt,asIntOf,typeInfo,zeroValue,hi,q,l,hw,o,g,b,a,c,h,Question.forced,newRow,grownCap,Builtin.firstCells];rw[if_neg d];congr 3;simp_all
theorem Qly{e}{sz bytes}{zero}{n}{m}(H:HRel c h w)(F:VRel c w x B)(C:VRel c w n E)(L:P.underlying t=some (.slice e))(A:P.underlying t2=some (.int M))(hi:P.info? e=some m)(I:m.zero=some z)(p:m.size=sz)(q:m.bytes=bytes)(y:z.cells.size=sz)(hc:cOKs zero z.cells.toList=true)(hm:(aAppendZ s i sz bytes zero x n).run h=some (v,h')):Sound P c w (Builtin.append_ #[t,t2] ty #[B,E]) v h':=by
 subst p;subst q;unfold aAppendZ at hm;split at hm
 ·rename_i n;split at hm;·rename_i a;obtain⟨N,u,O⟩:=a;obtain⟨b,g,f,K,hm⟩:=QdC hm;simp only[HM.run,Zaa,Zal]at hm;obtain⟨rfl,rfl⟩:=hm;simp only[VRel]at F C;subst F;subst C;have G:=Qh2 (P:=P) (w:=w) (ty:=ty) (n:=n+1) L A hi I (by omega) (by omega) N u;have k:VRels c w (List.replicate (n+1) zero).flatten (Builtin.zeroCells z.cells (n+1)).toList:=QcW (c:=c) (w:=w) (Qcs _ _ hc) (n+1);have o:=Qh0 w (need:=n+1) (old:=0) e;obtain⟨J,E',H',V'⟩:=QfB H f K (e:=e) (rest:=(Builtin.zeroCells z.cells (grownCap w (n+1) 0 e-(n+1))).toList) k (len:=n+1) (cap:=grownCap w (n+1) 0 e) (sz:=m.size) o (by have l:=QcQ z.cells (grownCap w (n+1) 0 e-(n+1));have d:=QcQ z.cells (n+1);rw[y]at l d;simp only[Zaf,Array.length_toList,l,d];rw[<-ZbO];simp_all);exact⟨_,J,_,G,E',H',V'⟩
  grind[HM.run]
 grind[HM.run]
theorem onesI(b:VRels c w ys us)(f:ys.all AV.one=true):∀u∈us,u.oneCell'=true:=by
 intro u k;have i:=QaH b;obtain⟨j,m,rfl⟩:=Zb7.1 k;obtain⟨n,d,b⟩:=QcE j b (Zak (by omega:j<ys.length));rw[Zak m]at d;cases d;have h1:(ys[j]).one=true:=by simp_all
 have o:=Qdk (x:=ys[j]) b (by cases h:ys[j]<;>simp_all[AV.one,AV.cells]);have:(us[j]).cells=#[us[j]]\/∃a,us[j]=.agg a:=by cases us[j]<;>simp[Value.cells]
 rcases this with g|⟨a,g⟩;·simp_all
 rw[g]at b;exfalso;cases h:ys[j]<;>rw[h]at b h1<;>simp[AV.one]at h1<;>simp[VRel]at b;rcases b.1 with⟨_,_,_,l,_⟩|⟨_,_,_,_,l,_⟩<;>simp_all
def aClear(sz:Nat)(zero:List AV)(x:AV):HM AV:=match x with
 |.nilsl|.esl|.nsl=>.ret .any|.sl b g off len s=>match len with|0=>.ret .any|len+1=>if s=sz then .cells b g fun cs=>if off+(len+1)*sz<=cs.length/\zero.length=sz/\zero.all AV.one=true then .put b (.cells g (putR cs off (List.replicate (len+1) zero).flatten)) (.ret .any)else .fail else .fail
 |.typed _ (_+1) (.sl b g off (len+1) s)=>if s=sz then .cells b g fun cs=>if off+(len+1)*sz<=cs.length/\zero.length=sz/\zero.all AV.one=true then .put b (.cells g (putR cs off (List.replicate (len+1) zero).flatten)) (.ret .any)else .fail else .fail|_=>.fail
theorem Qj9{zero}(h:zero.all AV.one=true):∀n:Nat,((List.replicate n zero).flatten).all AV.one=true|0=>rfl|n+1=>by simp_all
theorem QnT{e}{sz}{zero}(H:HRel c h w)(l:VRel c w x K)(u:P.underlying t=some (.slice e))(hi:P.info? e=some J)(T:J.zero=some z)(Q:z.cells.size=sz)(hc:cOKs zero z.cells.toList=true)(hm:(aClear sz zero x).run h=some (v,h')):Sound P c w (Builtin.clear_ #[t] ty #[K]) v h':=by
 unfold aClear at hm;split at hm;·simp only[HM.run,Zaa,Zal]at hm;obtain⟨rfl,rfl⟩:=hm;simp only[VRel]at l;subst l;exact .here H (cv:=.tuple #[]) (by simp[Builtin.clear_,run_underlying u]) (by simp[VRel])
 ·simp only[HM.run,Zaa,Zal]at hm;obtain⟨rfl,rfl⟩:=hm;simp only[VRel]at l;obtain⟨a,rfl⟩:=l;exact .here H (cv:=.tuple #[]) (by cases a<;>simp[Builtin.clear_,run_underlying u]) (by simp[VRel])
 ·simp only[HM.run,Zaa,Zal]at hm;obtain⟨rfl,rfl⟩:=hm;simp only[VRel]at l;obtain⟨a,k,rfl⟩:=l;exact .here H (cv:=.tuple #[]) (by simp[Builtin.clear_,run_underlying u]) (by simp[VRel])
 ·rename_i b g off len s;split at hm
  ·simp only[HM.run,Zaa,Zal]at hm;obtain⟨rfl,rfl⟩:=hm;simp only[VRel]at l;rcases l with⟨_,_,_,rfl⟩|⟨M,base,o,cap,C,q,L,hp,rfl,_⟩;·exact .here H (cv:=.tuple #[]) (by simp[Builtin.clear_,run_underlying u]) (by simp[VRel])
   exact .here H (cv:=.tuple #[]) (by simp[Builtin.clear_,run_underlying u]) (by simp[VRel])
  rename_i len;split at hm
  ·rename_i A;subst A;obtain⟨cs,I,hm⟩:=Qbl hm;split at hm
   ·rename_i i;obtain⟨N,p,n⟩:=i;obtain⟨m,hm⟩:=Qa7 hm;simp only[HM.run,Zaa,Zal]at hm;obtain⟨rfl,rfl⟩:=hm;simp only[VRel]at l;exact b3Oiu
   grind[HM.run]
  grind[HM.run]
 ·rename_i b g off len s;split at hm
  ·rename_i A;subst A;obtain⟨cs,I,hm⟩:=Qbl hm;split at hm
   ·rename_i i;obtain⟨N,p,n⟩:=i;obtain⟨m,hm⟩:=Qa7 hm;simp only[HM.run,Zaa,Zal]at hm;obtain⟨rfl,rfl⟩:=hm;simp only[VRel]at l;replace l:=l.2;exact b3Oiu
   grind[HM.run]
  grind[HM.run]
 grind[HM.run]
end Go.AM
namespace Go.AM
variable{P:Program}{ok:Okc}{c:Ctx ok}{w:World}{h:Heap}
variable{v:AV}{f:AV->HM AV}{a:Act}{args:Array Value}{cl:Call}{m:HM AV}{h':Heap}{B:List Nat}{b i:Nat}{place:Nat->Option (Nat×Nat)}{o:Option AV}{y:Option Opd}{x:Option Operand}{s:Sem Value}{T:Tmps}{t ty:TypeId}{k:TypeInfo->Value->Bool}
inductive AOut where|val(v:AV)|call(m:CallM)(f:Nat)(args:List AV)|round(b g:Nat)(args:List AV)
def mapH(f:AV->HM AV):List AV->HM (List AV)|[]=>.ret []|x::xs=>(f x).bind fun y=>(mapH f xs).bind fun a=>.ret (y::a)
def frzH:Nat->AV->HM AV|0,v=>.ret v|d+1,v=>match v with|.sl b g off len sz=>.cells b g fun cs=>if off+len*sz<=cs.length then(mapH (frzH d) ((cs.drop off).take (len*sz))).bind fun a=>.ret (.fsl a len sz)else .fail|.ptr b g off=>.cells b g fun cs=>(mapH (frzH d) (cs.drop off)).bind fun a=>.ret (.fptr a)|.agg cs=>(mapH (frzH d) cs).bind fun a=>.ret (.agg a)|.tup cs=>(mapH (frzH d) cs).bind fun a=>.ret (.tup a)|v=>.ret v
mutual def noRef:AV->Bool|.ptr ..|.sl ..|.map ..|.yld ..|.typed ..=>false|.agg cs|.tup cs|.fptr cs|.fsl cs _ _=>noRefs cs|.fmap ks vs=>noRefs ks&&noRefs vs|.fn _ x y=>noRefs x&&noRefs y|.ifc _ v=>noRef v|.any|.bool _|.int _ _|.str _|.nilptr|.nilsl|.esl|.nsl|.nilmap|.nilfn|.nilif=>true termination_by structural x=>x def noRefs:List AV->Bool|[]=>true|x::xs=>noRef x&&noRefs xs termination_by structural x=>x end
def hasB:List Nat->Nat->Bool|[],_=>false|x::xs,b=>bif Nat.beq x b then true else hasB xs b
theorem QdF:hasB B b=true↔b∈B:=by induction B with|nil=>simp[hasB]|cons x xs a=>
 simp only[hasB];by_cases e:x=b;·subst e;simp
 have :Nat.beq x b=false:=by simp_all[ZaH]
 grind
mutual def inB(B:List Nat):AV->Bool|.ptr b _ _=>hasB B b|.sl b _ _ _ _=>hasB B b|.map b _=>hasB B b|.yld b _=>hasB B b|.agg cs|.tup cs|.fptr cs|.fsl cs _ _=>inBs B cs|.fmap ks vs=>inBs B ks&&inBs B vs|.fn _ x y=>inBs B x&&inBs B y|.ifc _ v=>inB B v|.typed _ _ v=>inB B v|.any|.bool _|.int _ _|.str _|.nilptr|.nilsl|.esl|.nsl|.nilmap|.nilfn|.nilif=>true termination_by structural x=>x def inBs(B:List Nat):List AV->Bool|[]=>true|x::xs=>inB B x&&inBs B xs termination_by structural x=>x end
def inBe(B:List Nat):List (AV×AV)->Bool|[]=>true|p::r=>inB B p.1&&inB B p.2&&inBe B r
mutual def flatV:AV->Bool|.ptr ..|.sl ..|.map ..|.yld ..|.fptr _|.fsl ..|.fmap ..|.typed ..=>false|.agg cs|.tup cs=>flatVs cs|.fn _ x y=>flatVs x&&flatVs y|.ifc _ v=>flatV v|.any|.bool _|.int _ _|.str _|.nilptr|.nilsl|.esl|.nsl|.nilmap|.nilfn|.nilif=>true termination_by structural x=>x def flatVs:List AV->Bool|[]=>true|x::xs=>flatV x&&flatVs xs termination_by structural x=>x end
def lift(r:Option AV):HM AOut:=match r with|some v=>.ret (.val v)|none=>.fail
def hval(m:HM AV):HM AOut:=m.bind fun v=>.ret (.val v)
def aPick(c a b:AV):Option AV:=match c with|.bool t=>some (if t then a else b)|_=>none
def aNil(x:AV):Option AV:=match x with|.ptr ..|.fptr _|.fn ..|.ifc ..|.typed ..=>some x|_=>none
def aSliceC(sz:Option Nat)(x:AV)(l h m:Option AV):Option AV:=match sz,x with|some n,.sl _ _ _ _ s=>if s=n then aSlice x l h m else none|some n,.fsl _ _ s=>if s=n then aSlice x l h m else none|some _,.nilsl=>aSlice x l h m|some _,.esl=>aSlice x l h m|none,.str _=>aSlice x l h m|_,_=>none
def aLenC(k:Nat)(x:AV):HM AV:=if lenKind x=k then aLen x else .fail
def evs(T:Tmps)(xs:List Opd):List AV:=xs.map (ev T)
def evParts(T:Tmps)(xs:List (Nat×Nat×Opd)):List (Nat×Nat×AV):=xs.map fun p=>(p.1,p.2.1,ev T p.2.2)
def evo(T:Tmps)(x:Option Opd):Option AV:=x.map (ev T)
def aCall(m:CallM)(x:AV)(args:List AV):HM AOut:=match x with
 |.fn f first captured=>match m with|.borrow=>(mapH (frzH 4) (first++args++captured)).bind fun a=>.ret (.call .borrow f a)|m=>.ret (.call m f (first++args++captured))
 |.yld b g=>match m with|.heap=>.ret (.round b g args)|_=>.fail
 |_=>.fail
def aop(i:Nat)(T:Tmps):SOp->HM AOut|.mov x=>.ret (.val (ev T x))|.pick c a b=>lift (aPick (ev T c) (ev T a) (ev T b))|.alloc s z=>hval (aBox s i z)|.allocT t s z=>hval (aBoxT t s i z)|.box s x=>hval (aBox s i (ev T x))|.build zero parts=>lift (aBuild zero (evParts T parts))|.bslice fz s sz len zero parts=>hval (aBuildSlice fz s i sz len zero (evParts T parts))|.load n x=>hval (aLoad n (ev T x))|.store n x v=>hval (aStore n (ev T x) (ev T v))|.nilchk x=>lift (aNil (ev T x))|.bin op x y=>lift (aBin op (ev T x) (ev T y))|.eq k neg x y=>lift (aEq k neg (ev T x) (ev T y))|.eqn neg x=>hval (aEqN neg (ev T x))|.cap x=>lift (aCap (ev T x))|.ment row ks zero x k=>hval (aMapEnt row ks zero (ev T x) (ev T k))|.estore x s v=>hval (aEntSt (ev T x) (ev T s) (ev T v))|.clear sz _ zero x=>hval (aClear sz zero (ev T x))|.appendZ s sz bytes zero x n=>hval (aAppendZ s i sz bytes zero (ev T x) (ev T n))|.eqp neg x y=>lift (aEqP neg (ev T x) (ev T y))|.convP t n x=>lift (aConvP t n (ev T x))|.usd x=>lift (aUsd (ev T x))|.ustr t x n=>hval (aUstr t (ev T x) (ev T n))|.un op x=>lift (aUn op (ev T x))|.conv k x=>lift (aConv k (ev T x))|.convS x=>lift (aConvS (ev T x))|.convB x=>hval (aConvB (ev T x))|.ext k _ args=>lift (aExt k (evs T args))|.mkfn f xs d=>.ret (.val (.fn f (evs T xs) (evs T d)))|.mkmap s=>hval (aMakeMap s i)|.mkslice s sz bytes zero l c=>hval (aMakeSlice s i sz bytes zero (ev T l) (ev T c))|.slice sz x l h m=>lift (aSliceC sz (ev T x) (evo T l) (evo T h) (evo T m))|.sliceK sz x l h=>lift (aSliceK sz (ev T x) (evo T l) (evo T h))|.faddr off x=>lift (aFAddr off (ev T x))|.field n off x=>lift (aField n off (ev T x))|.iaddr arr sz x j=>lift (aIAddr arr sz (ev T x) (ev T j))|.index arr x j=>lift (aIndex arr (ev T x) (ev T j))|.lookup row ks zero ok x k=>hval (aLookup row ks zero ok (ev T x) (ev T k))|.mupd row ks x k v=>hval (aMapUpd row ks (ev T x) (ev T k) (ev T v))|.extract j x=>lift (aExtract j (ev T x))|.len k x=>hval (aLenC k (ev T x))|.append s sz bytes x y=>hval (aAppend s i sz bytes (ev T x) (ev T y))|.appendT t s sz bytes x y=>hval (aAppendT t s i sz bytes (ev T x) (ev T y))|.copy sz x y=>hval (aCopy sz (ev T x) (ev T y))|.maxmin mn xs=>lift (aMax mn (evs T xs))|.call m x args=>aCall m (ev T x) (evs T args)|.bad=>.fail
def okOpd:Operand->Opd->Bool|.tmp t,.t i=>t==i|.const v,.c x=>cOK x v|.func f,.f n=>f==n|.global g,.g n=>g==n|_,_=>false
def okOpds:List Operand->List Opd->Bool|[],[]=>true|x::xs,y::a=>okOpd x y&&okOpds xs a|_,_=>false
def okOpdo:Option Operand->Option Opd->Bool|none,none=>true|some x,some y=>okOpd x y|_,_=>false
def okParts(place:Nat->Option (Nat×Nat)):List (Nat×Operand)->List (Nat×Nat×Opd)->Bool|[],[]=>true|(i,x)::xs,(off,size,y)::a=>(match place i with|some (o,s)=>o==off&&s==size|none=>false)&&okOpd x y&&okParts place xs a|_,_=>false
def LK.same:LK->LK->Bool|.b,.b|.i,.i|.s,.s=>true|_,_=>false
variable{ks:List LK}
def LK.sames:List LK->List LK->Bool|[],[]=>true|x::xs,y::a=>x.same y&&LK.sames xs a|_,_=>false
def mapTB(P:Program)(t:TypeId)(row:Bool)(ks:List LK):Bool:=match P.underlying t with|some (.map b _)=>rowB P b==row&&(match flatK P 40 b with|some a=>LK.sames ks a|none=>false)|_=>false
def mapElemZero(P:Program)(t:TypeId)(zero:AV):Bool:=match P.underlying t with|some (.map _ a)=>(match zeroOf P a with|some b=>cOK zero b|none=>false)|_=>false
def buildTB(P:Program)(t:TypeId):Bool:=match P.underlying t with|some (.array _ e)=>(P.info? e).isSome|some (.struct fields)=>(fields.toList.mapM (fun f=>(P.info? f.type).map fun i=>(f.offset,i.size))).isSome|_=>false
def elemTB(P:Program)(t:TypeId)(sz bytes:Nat)(k:TypeInfo->Value->Bool):Bool:=match P.underlying t with|some (.slice e)=>(match P.info? e with|some a=>a.size==sz&&a.bytes==bytes&&(match a.zero with|some z=>k a z|none=>false)|none=>false)|_=>false
def notInt(P:Program)(t:TypeId):Bool:=match P.underlying t with|some (.int _)|none=>false|_=>true
def isConstO:Operand->Bool|.const _=>true|_=>false
def okCall(P:Program)(c:Call)(s:SOp):Bool:=match c.callee,s with|.value f,.call _ x args=>okOpd f x&&okOpds c.args.toList args|.builtin .len,.len k x=>(match c.args.toList,c.argTypes.toList with|[y],[t]=>okOpd y x&&lenT P t k|_,_=>false)|.builtin .cap,.cap x=>(match c.args.toList,c.argTypes.toList with|[y],[t]=>okOpd y x&&capT P t|_,_=>false)|.builtin .append,.append _ sz bytes x y=>(match c.args.toList,c.argTypes.toList with|[a,b],[t,d]=>okOpd a x&&okOpd b y&&notInt P d&&elemTB P t sz bytes (fun h z=>z.cells.size==sz)|_,_=>false)|.builtin .append,.appendT e _ sz bytes x y=>(match c.args.toList,c.argTypes.toList with|[a,b],[t,d]=>okOpd a x&&okOpd b y&&notInt P d&&elemTB P t sz bytes (fun h z=>z.cells.size==sz)&&(match P.underlying t with|some (.slice i)=>i==e|_=>false)|_,_=>false)|.builtin .append,.appendZ _ sz bytes zero x y=>(match c.args.toList,c.argTypes.toList with|[a,b],[t,d]=>okOpd a x&&okOpd b y&&(match P.underlying d with|some (.int _)=>true|_=>false)&&elemTB P t sz bytes (fun h z=>z.cells.size==sz&&cOKs zero z.cells.toList)|_,_=>false)|.builtin .clear,.clear sz bytes zero x=>(match c.args.toList,c.argTypes.toList with|[a],[t]=>okOpd a x&&elemTB P t sz bytes (fun h z=>z.cells.size==sz&&cOKs zero z.cells.toList)|_,_=>false)|.builtin .unsafeSliceData,.usd x=>(match c.args.toList with|[y]=>okOpd y x|_=>false)|.builtin .unsafeString,.ustr t x n=>(match c.args.toList,c.argTypes.toList with|[a,m],[l,_]=>okOpd a x&&okOpd m n&&ustrT P l t|_,_=>false)|.builtin .copy,.copy sz x y=>(match c.args.toList,c.argTypes.toList with|[a,b],[t,_]=>okOpd a x&&okOpd b y&&(match P.underlying t with|some (.slice e)=>(match P.info? e with|some h=>h.size==sz|none=>false)|_=>false)|_,_=>false)|.builtin .max,.maxmin false xs=>okOpds c.args.toList xs|.builtin .min,.maxmin true xs=>okOpds c.args.toList xs|.value (.func g),.ext k f xs=>g==f&&extFn P f k&&okOpds c.args.toList xs|_,_=>false
def okOp(P:Program)(o:Op)(s:SOp):Bool:=match o,s with|.move x,.mov y=>okOpd x y|.assign x,.mov y=>okOpd x y|.pick c a b,.pick E L M=>okOpd c E&&okOpd a L&&okOpd b M|.alloc t,.alloc _ z=>(match zeroOf P t with|some A=>cOK z A|none=>false)|.alloc t,.allocT R _ z=>t==R&&(match zeroOf P t with|some A=>cOK z A|none=>false)|.box _ x,.box _ y=>okOpd x y|.build t parts,.build zero I=>(match zeroOf P t with|some A=>cOKs zero A.cells.toList|none=>false)&&buildTB P t&&okParts (placeOf P t) parts.toList I|.buildSlice t len parts,.bslice _ _ sz B zero I=>len==B&&decide (len*sz<=16777216)&&(match P.underlying t with|some (.slice e)=>(match P.info? e with|some F=>F.size==sz&&(match F.zero with|some z=>cOKs zero (zeroRow z.cells (len*sz)).toList|none=>false)|none=>false)|_=>false)&&okParts (fun i=>some (i*sz,sz)) parts.toList I|.load t x,.load n y=>rowT P t n&&okOpd x y|.store t x v,.store n d u=>(match P.info? t with|some i=>i.size==n|none=>false)&&okOpd x d&&okOpd v u|.nilCheck x,.nilchk y=>okOpd x y|.binOp op _ x y _,.bin q d w=>op==q&&okOpd x d&&okOpd y w|.binOp op t x y _,.eq k neg d w=>op==(if neg then .neq else .eql)&&eqT P t k&&okOpd x d&&okOpd y w&&(match k with|.nil _=>isConstO y|_=>true)|.binOp op t x y _,.eqn neg d=>op==(if neg then .neq else .eql)&&eqT P t (.nil 2)&&okOpd x d&&isConstO y&&okOpd y (.c .nilsl)|.binOp op t x y _,.eqp neg d w=>op==(if neg then .neq else .eql)&&eqPT P t&&okOpd x d&&okOpd y w|.unOp op _ x,.un q y=>op==q&&okOpd x y|.convert src dst x,.conv k y=>convT P src dst k&&okOpd x y|.convert src dst x,.convS y=>convST P src dst&&okOpd x y|.convert src dst x,.convB y=>convBT P src dst&&okOpd x y|.convert src dst x,.convP t n y=>convPT P src dst t n&&okOpd x y|.makeFunc (.func f) first captured,.mkfn K xs Q=>f==K&&okOpds first.toList xs&&okOpds captured.toList Q|.makeMap _ none,.mkmap _=>true|.makeSlice t l c,.mkslice _ sz bytes zero C E=>okOpd l C&&okOpd c E&&elemTB P t sz bytes (fun F z=>z.cells.size==sz&&cOKs zero z.cells.toList)|.slice t x l h m,.slice sz d C G g=>sliceT P t sz&&okOpd x d&&okOpdo l C&&okOpdo h G&&okOpdo m g|.slice t x l h none,.sliceK sz d C G=>sliceT P t (some sz)&&okOpd x d&&okOpdo l C&&okOpdo h G|.fieldAddr s x f,.faddr off y=>faddrT P s f off&&okOpd x y|.field s x f,.field n off y=>fieldT P s f off n&&okOpd x y|.indexAddr t x i,.iaddr arr sz d J=>iaddrT P t arr sz&&okOpd x d&&okOpd i J|.index t x i,.index arr d J=>indexT P t arr&&okOpd x d&&okOpd i J|.lookup t x k ok,.lookup row ks zero H d p=>mapTB P t row ks&&mapElemZero P t zero&&ok==H&&okOpd x d&&okOpd k p|.mapEntry t m k,.ment row ks zero g p=>mapTB P t row ks&&mapElemZero P t zero&&okOpd m g&&okOpd k p|.entryStore _ m s v,.estore g O u=>okOpd m g&&okOpd s O&&okOpd v u|.mapUpdate t m k v,.mupd row ks g p u=>mapTB P t row ks&&okOpd m g&&okOpd k p&&okOpd v u|.insert t m k v,.mupd row ks g p u=>mapTB P t row ks&&okOpd m g&&okOpd k p&&okOpd v u|.extract x i,.extract j y=>i==j&&okOpd x y|_,.bad=>true|.call N,s=>okCall P N s|_,_=>false
theorem run_bind{α β}{m:HM α}{f}{r:β×Heap}(hm:(m.bind f).run h=some r):∃a h1,m.run h=some (a,h1)/\(f a).run h1=some r:=by induction m generalizing h with|ret a=>exact⟨a,h,rfl,hm⟩|fail=>simp[HM.bind,HM.run]at hm|look b k c=>simp only[HM.bind,HM.run]at hm;obtain⟨a,h1,g,d⟩:=c _ hm;exact⟨a,h1,by grind[HM.run],d⟩|put b x k c=>
 simp only[HM.bind]at hm;obtain⟨i,hm⟩:=Qa7 hm;obtain⟨a,h1,g,d⟩:=c hm;refine⟨a,h1,?_,d⟩;simp only[HM.run];have:Nat.blt b lim=true:=by simp_all
 rw[this];exact g
theorem QaU{r}(hm:(hval m).run h=some r):∃v h1,m.run h=some (v,h1)/\r=(.val v,h1):=by obtain⟨v,h1,a,b⟩:=run_bind hm;grind[HM.run]
theorem QaY{r}(hm:(lift o).run h=some r):∃v,o=some v/\r=(.val v,h):=by unfold lift at hm;cases o with|none=>simp[HM.run]at hm|some v=>simp only[HM.run,Zaa]at hm;exact⟨v,rfl,hm.symm⟩
def lent(c:Ctx ok):Ctx ok:={c with F:=fun k=>c.F k\/c.O k,O:=fun _=>False}
theorem Qh3(c:Ctx ok)(w):Ext c w (lent c) w:=⟨fun _ _ _ h=>h,fun _ h=>.inl h,fun _ _ _ h=>h,fun _ C _ a h=>⟨C,a,h,rfl⟩⟩
theorem Qdm(hf:∀(x y:AV)(v:Value)(h':Heap),VRel c w x v->(f x).run h=some (y,h')->h'=h/\VRel (lent c) w y v):∀(xs ys:List AV)(vs:List Value)(h':Heap),VRels c w xs vs->(mapH f xs).run h=some (ys,h')->h'=h/\VRels (lent c) w ys vs|[],ys,vs,h',d,hm=>by simp only[mapH,HM.run,Zaa,Zal]at hm;obtain⟨rfl,rfl⟩:=hm;simp_all[VRels]|x::xs,ys,vs,h',d,hm=>by simp only[mapH]at hm;obtain⟨y,h1,o,m⟩:=run_bind hm;obtain⟨a,p,i,g⟩:=run_bind m;simp only[VRels]at d;obtain⟨v,b,rfl,k,n⟩:=d;obtain⟨l,q⟩:=hf x y v h1 k o;rw[l]at i;obtain⟨s,t⟩:=Qdm hf xs a b p n i;simp only[HM.run,Zaa,Zal]at g;obtain⟨rfl,rfl⟩:=g;simp only[VRels];grind
theorem QeB(hf:∀(x y:AV)(v:Value)(h':Heap),VRel c w x v->(f x).run h=some (y,h')->h'=h/\VRel (lent c) w y v):∀(xs ys:List AV)(vs:List Value)(h':Heap),VPre c w xs vs->(mapH f xs).run h=some (ys,h')->h'=h/\VPre (lent c) w ys vs|[],ys,vs,h',d,hm=>by simp only[mapH,HM.run,Zaa,Zal]at hm;obtain⟨rfl,rfl⟩:=hm;simp[VPre]|x::xs,ys,vs,h',d,hm=>by simp only[mapH]at hm;obtain⟨y,h1,o,m⟩:=run_bind hm;obtain⟨a,p,i,g⟩:=run_bind m;simp only[VPre]at d;obtain⟨v,b,rfl,k,n⟩:=d;obtain⟨l,q⟩:=hf x y v h1 k o;rw[l]at i;obtain⟨s,t⟩:=QeB hf xs a b p n i;simp only[HM.run,Zaa,Zal]at g;obtain⟨rfl,rfl⟩:=g;simp only[VPre];grind
theorem Qhq:∀(xs ys:List AV)(h h':Heap),(mapH f xs).run h=some (ys,h')->ys.length=xs.length|[],ys,h,h',hm=>by simp only[mapH,HM.run,Zaa,Zal]at hm;simp_all|x::xs,ys,h,h',hm=>by simp only[mapH]at hm;obtain⟨y,h1,i,c⟩:=run_bind hm;obtain⟨a,g,d,b⟩:=run_bind c;simp only[HM.run,Zaa,Zal]at b;obtain⟨rfl,rfl⟩:=b;simp[Qhq xs a _ _ d]
theorem QeZ(H:HRel c h w):∀(d:Nat)(x y:AV)(v:Value)(h':Heap),VRel c w x v->(frzH d x).run h=some (y,h')->h'=h/\VRel (lent c) w y v
 |0,x,y,v,h',a,hm=>by simp only[frzH,HM.run,Zaa,Zal]at hm;obtain⟨rfl,rfl⟩:=hm;exact⟨rfl,Zcg (Qh3 c w) _ _ a⟩|d+1,x,y,v,h',a,hm=>by
  have p:=QeZ H d;have same:(HM.ret x).run h=some (y,h')->h'=h/\VRel (lent c) w y v:=by intro hm;simp only[HM.run,Zaa,Zal]at hm;obtain⟨rfl,rfl⟩:=hm;exact⟨rfl,Zcg (Qh3 c w) _ _ a⟩
  cases x<;>simp only[frzH]at hm<;>try(exact same hm)
  case sl b g off len sz=>
   obtain⟨cs,G,hm⟩:=Qbl hm;split at hm
   ·rename_i O;obtain⟨k,h1,n,l⟩:=run_bind hm;simp only[HM.run,Zaa,Zal]at l;obtain⟨rfl,rfl⟩:=l;have hlen:=Qhq _ _ _ _ n;simp only[VRel]at a;rcases a with⟨hp,rfl,rfl,rfl⟩|⟨I,base,o,cap,C,e,E,hp,rfl,B,u,t⟩
    ·have f:k=[]:=by simp_all
     subst f;obtain⟨rfl,_⟩:=QeB p _ _ [] _ (by simp[VPre]) n;exact⟨rfl,by simp_all[VRel]⟩
    obtain⟨C',P,K,J,q,F,z,m⟩:=H.here G hp;rw[u]at q;cases q;by_cases N:cap=0
    ·have A:len=0:=by omega
     subst A;have f:k=[]:=by simp_all
     subst f;obtain⟨rfl,_⟩:=QeB p _ _ [] _ (by simp[VPre]) n;refine⟨rfl,?_⟩;simp only[VRel];simp_all
    obtain⟨rfl,L⟩:=t.resolve_left N;have i:=Qcm (len*sz) (Qbo off m);rw[ZaV]at i;obtain⟨rfl,s⟩:=QeB p _ _ _ _ i n;refine⟨rfl,?_⟩;simp only[VRel];exact .inr ⟨I,base+off,cap,C,e,E,rfl,B,by grind,.inr J,u,s⟩
   grind[HM.run]
  case ptr b g off=>obtain⟨cs,G,hm⟩:=Qbl hm;obtain⟨k,h1,n,l⟩:=run_bind hm;simp only[HM.run,Zaa,Zal]at l;obtain⟨rfl,rfl⟩:=l;simp only[VRel]at a;obtain⟨I,base,hp,rfl⟩:=a;obtain⟨C,e,E,J,u,F,z,m⟩:=H.here G hp;have i:=Qbo off m;rw[ZaV]at i;obtain⟨rfl,s⟩:=QeB p _ _ _ _ i n;refine⟨rfl,?_⟩;simp only[VRel];exact⟨I,base+off,C,e,E,rfl,.inr J,u,s⟩
  case agg cs=>obtain⟨k,h1,n,l⟩:=run_bind hm;simp only[HM.run,Zaa,Zal]at l;obtain⟨rfl,rfl⟩:=l;simp only[VRel]at a;obtain⟨M,rfl,a⟩:=a;obtain⟨rfl,s⟩:=Qdm p _ _ _ _ a n;exact⟨rfl,by simp only[VRel];simp_all⟩
  case tup cs=>obtain⟨k,h1,n,l⟩:=run_bind hm;simp only[HM.run,Zaa,Zal]at l;obtain⟨rfl,rfl⟩:=l;simp only[VRel]at a;obtain⟨M,rfl,a⟩:=a;obtain⟨rfl,s⟩:=Qdm p _ _ _ _ a n;exact⟨rfl,by simp only[VRel];simp_all⟩
def TRel(c:Ctx ok)(w:World)(T:Tmps)(a:Act):Prop:=∀i,VRel c w (lk T i) (a.tmps.getD i undef)
theorem Qav(d:TRel c w T a){x}{y}(b:okOpd x y=true):VRel c w (ev T y) (a.eval x):=by
 cases x<;>cases y<;>simp only[okOpd,Zaq,beq_iff_eq]at b;·subst b;exact d _
 ·exact Qep _ _ b
 ·simp[ev,VRel]
 subst b;simp only[ev,VRel,Act.eval];exact⟨#[],#[],rfl,by simp[VRels],by simp[VRels]⟩
theorem Qcu(d:TRel c w T a):∀{xs:List Operand}{ys:List Opd},okOpds xs ys=true->VRels c w (evs T ys) (xs.map a.eval)|[],[],_=>by simp[evs,VRels]|[],_::_,b=>by simp[okOpds]at b|_::_,[],b=>by simp[okOpds]at b|x::xs,y::ys,b=>by simp only[okOpds,Zab]at b;simp only[evs,ZaK,VRels];exact⟨_,_,rfl,Qav d b.1,Qcu d b.2⟩
theorem Qdn(d:TRel c w T a)(b:okOpdo x y=true):ORel c w (evo T y) (x.map a.eval):=by
 cases x<;>cases y<;>simp only[okOpdo,Zaq]at b;·simp[evo,ORel]
 exact Qav d b
theorem Qfb(d:TRel c w T a):∀{xs:List (Nat×Operand)}{ys:List (Nat×Nat×Opd)},okParts place xs ys=true->PartsRel c w place (evParts T ys) (xs.map fun p=>(p.1,a.eval p.2))|[],[],_=>by simp[evParts,PartsRel]|[],_::_,b=>by simp[okParts]at b|_::_,[],b=>by simp[okParts]at b|(i,x)::xs,(off,size,y)::ys,b=>by simp only[okParts,Zab]at b;obtain⟨⟨h1,g⟩,f⟩:=b;simp only[evParts,ZaK,PartsRel];refine⟨_,_,_,rfl,?_,Qav d g,Qfb d f⟩;grind
def Callable(P:Program)(f:Nat):Prop:=∃fn,P.funcs[f]?=some fn/\fn.body.isSome=true/\(fn.name== "runtime.NumGoroutine")=false
def Done(P:Program)(c:Ctx ok)(h:Heap)(w:World)(s:Sem Next):AOut->Heap->Prop|.val v,d=>∃k n l i,s.run P w=.ok k i/\(k=.value n\/k=.skip/\n=undef)/\Evo c w l i/\HRel l d i/\VRel l i v n|.call m f args,d=>d=h/\∃a:Array Value,(Callable P f->s.run P w=.ok (.enter f a) w)/\(m≠.borrow->VRels c w args a.toList)/\(m=.borrow->VRels (lent c) w args a.toList)|.round b g args,d=>d=h/\∃(o:Nat)(a:Array Value),c.ρ b g=some (.loc o 0)/\VRels c w args a.toList/\s.run P w=(Instr.yield o a).run P w
theorem Done.ofSound(d:Sound P c w s v h'):Done P c h w (do pure (.value (<-s))) (.val v) h':=by obtain⟨a,f,k,h1,i,b,g⟩:=d;exact⟨.value a,a,f,k,by simp[h1],.inl rfl,i,b,g⟩
theorem Done.ofPure(H:HRel c h w)(a:Pure P c w s v):Done P c h w (do pure (.value (<-s))) (.val v) h:=.ofSound (a.sound H)
theorem Done.ofU{s}(i:SoundU P c w s h')(d:v=.any):Done P c h w (do s;pure .skip) (.val v) h':=by obtain⟨b,f,h1,a,g⟩:=i;subst d;exact⟨.skip,undef,b,f,by simp[h1],.inr ⟨rfl,rfl⟩,a,g,by simp[VRel]⟩
theorem Qtm{k a}(b:LK.same k a=true):k=a:=by cases k<;>cases a<;>simp[LK.same]at b<;>rfl
theorem QlL:∀{ks ks':List LK},LK.sames ks ks'=true->ks=ks'|[],[],_=>rfl|[],_::_,hh=>by simp[LK.sames]at hh|_::_,[],hh=>by simp[LK.sames]at hh|k::ks,k'::ks',hh=>by simp only[LK.sames,Zab]at hh;rw[Qtm hh.1,QlL hh.2]
theorem QfD{row}(a:mapTB P t row ks=true):∃c b,MapT P t row ks c b:=by
 unfold mapTB at a;split at a
 ·rename_i c b g;simp only[Zab,beq_iff_eq]at a;obtain⟨h1,d⟩:=a;split at d;·rename_i f h;exact⟨c,b,g,by rw[h,QlL d],h1⟩
  cases d
 cases a
theorem QdW{a}(b:zeroOf P t=some a):∃i,P.info? t=some i/\i.zero=some a:=by unfold zeroOf at b;cases hi:P.info? t with|none=>simp[hi]at b|some i=>exact⟨i,rfl,by simp_all⟩
theorem Qd1{sz bytes}(b:elemTB P t sz bytes k=true):∃e a z,P.underlying t=some (.slice e)/\P.info? e=some a/\a.size=sz/\a.bytes=bytes/\a.zero=some z/\k a z=true:=by grind[elemTB]
theorem Qqc{x:AV}{a:Value}(b:VRel c w x a)(hm:aNil x=some v):(match a with
 |.pointer none|.nilIface|.nilFunc=>(runtimePanic .nilDeref:Sem Next)|.func (.method name) first captured=>
  match(first[0]?:Option Value)with|some .nilIface=>runtimePanic .nilDeref|some (.iface t w)=>do
   if(<-nilAhead ((<-program).types.size+Made.depth) t w name)!=some false then unsupported (.noEntry "op/nilCheck.the method's receiver behind this interface value is a nil pointer, or cannot be seen to be none, and the arguments act or may panic (ledger 612)")
   pure (.value (.func (.method name) first captured))|_=>pure (.value (.func (.method name) first captured))
 |x=>pure (.value x))=pure (.value a)/\v=x:=by
 unfold aNil at hm;split at hm<;>first|(cases hm;done)|(cases hm;simp only[VRel]at b)
 ·grind
 ·grind
 ·grind
 ·grind
 rcases b.1 with⟨_,_,_,h1|⟨_,_,_,h1⟩,_⟩|⟨_,_,_,_,h1,_⟩<;>(subst h1;exact⟨rfl,rfl⟩)
theorem Qgp{f}(hc:Callable P f)(w):(callFunc f args).run P w=.ok (.enter f args) w:=by
 obtain⟨fn,h1,c,b⟩:=hc;have a:fn.body.isNone=false:=by simp_all
 simp only[callFunc,Sem.run_bind,run_program,Result.andThen_ok,h1,b,a,Zaq,if_false,Sem.run_pure]
theorem QnU{x}{args}{s}{a}{m}{out}(H:HRel c h w)(l:VRel c w x s)(z:VRels c w args a.toList)(hm:(aCall m x args).run h=some (out,h')):Done P c h w (do let d<-Deferred.ofValue s a;invoke d.target d.args) out h':=by
 cases x<;>simp only[aCall]at hm<;>try(cases hm;done)
 rotate_left;·rename_i b g;simp only[VRel]at l;obtain⟨A,h1,rfl⟩:=l;cases m<;>simp only[HM.run,Zaa,Zal,reduceCtorEq]at hm;obtain⟨rfl,rfl⟩:=hm;exact⟨rfl,A,a,h1,z,by simp[Deferred.ofValue,invoke]⟩
 rename_i f first captured;simp only[VRel]at l;obtain⟨n,o,rfl,h1,C⟩:=l;have i:VRels c w (first++args++captured) (n++a++o).toList:=by simp_all[QbB]
 have k:Callable P f->(do let d<-Deferred.ofValue (.func (.func f) n o) a;invoke d.target d.args:Sem Next).run P w=.ok (.enter f (n++a++o)) w:=by simp_all[Deferred.ofValue,invoke,Qgp]
 have plain:∀q,q≠.borrow->(HM.ret (AOut.call q f (first++args++captured))).run h=some (out,h')->Done P c h w (do let d<-Deferred.ofValue (.func (.func f) n o) a;invoke d.target d.args) out h':=by intro q p hm;simp only[HM.run,Zaa,Zal]at hm;obtain⟨rfl,rfl⟩:=hm;exact⟨rfl,_,k,fun _=>i,fun e=>absurd e p⟩
 cases m with|heap=>exact plain _ (by simp) hm|pure=>exact plain _ (by simp) hm|borrow=>simp only at hm;obtain⟨y,B,u,t⟩:=run_bind hm;simp only[HM.run,Zaa,Zal]at t;obtain⟨rfl,rfl⟩:=t;obtain⟨rfl,v⟩:=Qdm (QeZ H 4) _ _ _ _ i u;exact⟨rfl,_,k,fun e=>absurd rfl e,fun _=>v⟩
theorem Qpt{s}{out}(H:HRel c h w)(B:TRel c w T a)(b:okCall P cl s=true)(hm:(aop i T s).run h=some (out,h')):Done P c h w (do let d<-resolve a.eval cl ty;invoke d.target d.args) out h':=by
 obtain⟨callee,args,argTypes⟩:=cl;unfold okCall at b;simp only at b;split at b
 ·rename_i f m x xs;simp only[Zab]at b;have l:VRels c w (evs T xs) (args.map a.eval).toList:=by simp_all[Qcu]
  exact QnU H (Qav B b.1) l hm
 ·rename_i k x;split at b
  ·rename_i y t O Q;simp only[Zab]at b;obtain⟨v,h1,o,p⟩:=QaU hm;cases p;unfold aLenC at o;split at o
   ·rename_i M;have C:=Qp5 (P:=P) (ty:=ty) H (Qav B b.1) (by rw[M];exact b.2) o;have :(do let d<-resolve a.eval {callee:=.builtin .len,args:=args,argTypes:=argTypes} ty;invoke d.target d.args:Sem Next)=(do pure (.value (<-Builtin.len_ #[t] ty #[a.eval y]))):=by
     exact bbZs9
    rw[this];exact .ofSound C
   grind[HM.run]
  cases b
 ·rename_i x;split at b
  ·rename_i y t O Q;simp only[Zab]at b;obtain⟨v,o,p⟩:=QaY hm;cases p;have :(do let d<-resolve a.eval {callee:=.builtin .cap,args:=args,argTypes:=argTypes} ty;invoke d.target d.args:Sem Next)=(do pure (.value (<-Builtin.cap_ #[t] ty #[a.eval y]))):=by
    exact bbZs9
   rw[this];exact .ofPure H (Qp6 (Qav B b.1) b.2 o)
  cases b
 ·rename_i st sz bytes x y;split at b
  ·rename_i u J t A O Q;simp only[Zab]at b;obtain⟨⟨⟨G,I⟩,q⟩,V⟩:=b;obtain⟨v,h1,o,p⟩:=QaU hm;cases p;obtain⟨e,Z,z,L,hi,E,F,U,S⟩:=Qd1 V;have K:∃X,P.underlying A=some X/\∀k,X≠.int k:=by
    exact b2mXs
   have C:=Qey (P:=P) (ty:=ty) H (Qav B G) (Qav B I) (T:=⟨L,K,hi,U,E,F,by simpa using S⟩) o;exact bv4P7
  cases b
 ·rename_i e0 st sz bytes x y;split at b
  ·rename_i u J t A O Q;simp only[Zab]at b;obtain⟨⟨⟨⟨G,I⟩,q⟩,V⟩,g5⟩:=b;obtain⟨v,h1,o,p⟩:=QaU hm;cases p;obtain⟨e,Z,z,L,hi,E,F,U,S⟩:=Qd1 V;rw[L]at g5;have g5:e=e0:=by simpa using g5
   subst g5;have K:∃X,P.underlying A=some X/\∀k,X≠.int k:=by
    exact b2mXs
   have C:=Qlx (P:=P) (ty:=ty) H (Qav B G) (Qav B I) (T:=⟨L,K,hi,U,E,F,by simpa using S⟩) o;exact bv4P7
  cases b
 ·rename_i st sz bytes zero x y;split at b
  ·rename_i u J t A O Q;simp only[Zab]at b;obtain⟨⟨⟨G,I⟩,q⟩,V⟩:=b;obtain⟨v,h1,o,p⟩:=QaU hm;cases p;obtain⟨e,Z,z,L,hi,E,F,U,M⟩:=Qd1 V;simp only[Zab,beq_iff_eq]at M;split at q
   ·rename_i p hu2;have C:=Qly (P:=P) (ty:=ty) H (Qav B G) (Qav B I) L hu2 hi U E F M.1 M.2 o;exact bv4P7
   cases q
  cases b
 ·rename_i sz bytes zero x;split at b
  ·rename_i u t O Q;simp only[Zab]at b;obtain⟨G,V⟩:=b;obtain⟨v,h1,o,p⟩:=QaU hm;cases p;obtain⟨e,Z,z,L,hi,E,F,U,M⟩:=Qd1 V;simp only[Zab,beq_iff_eq]at M;have C:=QnT (P:=P) (ty:=ty) H (Qav B G) L hi U M.1 M.2 o;have :(do let d<-resolve a.eval {callee:=.builtin .clear,args:=args,argTypes:=argTypes} ty;invoke d.target d.args:Sem Next)=(do pure (.value (<-Builtin.clear_ #[t] ty #[a.eval u]))):=by
    have N:args=#[u]:=by grind
    have R:argTypes=#[t]:=by grind
    simp_all[resolve,invoke,builtin]
   rw[this];exact .ofSound C
  cases b
 ·rename_i x;split at b
  ·rename_i y O;obtain⟨v,o,p⟩:=QaY hm;cases p;have :(do let d<-resolve a.eval {callee:=.builtin .unsafeSliceData,args:=args,argTypes:=argTypes} ty;invoke d.target d.args:Sem Next)=(do pure (.value (<-Builtin.unsafeSliceData_ argTypes ty #[a.eval y]))):=by
    have N:args=#[y]:=by grind
    simp_all[resolve,invoke,builtin]
   rw[this];exact .ofPure H (Qqa (P:=P) (Qav B b) o)
  cases b
 ·rename_i t x n;split at b
  ·rename_i u n' pt it O Q;simp only[Zab]at b;obtain⟨⟨G,I⟩,q⟩:=b;obtain⟨v,h1,o,p⟩:=QaU hm;cases p;have C:=Qps (P:=P) (ty:=ty) (it:=it) H (Qav B G) (Qav B I) q o;have :(do let d<-resolve a.eval {callee:=.builtin .unsafeString,args:=args,argTypes:=argTypes} ty;invoke d.target d.args:Sem Next)=(do pure (.value (<-Builtin.unsafeString_ #[pt,it] ty #[a.eval u,a.eval n']))):=by
    have N:args=#[u,n']:=by grind
    have R:argTypes=#[pt,it]:=by grind
    simp_all[resolve,invoke,builtin]
   rw[this];exact .ofSound C
  cases b
 ·rename_i sz x y;split at b
  ·rename_i u J t A O Q;simp only[Zab]at b;obtain⟨⟨G,I⟩,q⟩:=b;obtain⟨v,h1,o,p⟩:=QaU hm;cases p;split at q
   ·rename_i e L;split at q
    ·rename_i Z hi;have C:=Qpn (P:=P) (ty:=ty) (t2:=A) H (Qav B G) (Qav B I) L hi (by simpa using q) o;have :(do let d<-resolve a.eval {callee:=.builtin .copy,args:=args,argTypes:=argTypes} ty;invoke d.target d.args:Sem Next)=(do pure (.value (<-Builtin.copy_ #[t,A] ty #[a.eval u,a.eval J]))):=by
      have N:args=#[u,J]:=by grind
      have R:argTypes=#[t,A]:=by grind
      simp_all[resolve,invoke,builtin]
     rw[this];exact .ofSound C
    cases q
   cases q
  cases b
 ·rename_i xs;obtain⟨v,o,p⟩:=QaY hm;cases p;have l:VRels c w (evs T xs) (args.map a.eval).toList:=by simp_all[Qcu]
  exact .ofPure H (Qj6 (P:=P) (mn:=false) (ats:=argTypes) (ty:=ty) l o)
 ·rename_i xs;obtain⟨v,o,p⟩:=QaY hm;cases p;have l:VRels c w (evs T xs) (args.map a.eval).toList:=by simp_all[Qcu]
  exact .ofPure H (Qj6 (P:=P) (mn:=true) (ats:=argTypes) (ty:=ty) l o)
 ·rename_i g k f xs;simp only[Zab,beq_iff_eq]at b;obtain⟨⟨rfl,I⟩,q⟩:=b;obtain⟨v,o,p⟩:=QaY hm;cases p;have l:VRels c w (evs T xs) (args.map a.eval).toList:=by simp_all[Qcu]
  obtain⟨cv,hr,hv⟩:=Qp8 I l o;refine⟨.value cv,cv,c,w,?_,.inl rfl,.refl c w,H,hv⟩;simp[resolve,Deferred.ofValue,invoke,Act.eval,hr]
 cases b
theorem QlM{row}{x k r}(hm:(aMapUpd row ks x k v).run h=some (r,h')):r=.any:=by unfold aMapUpd at hm;grind[Qcy,HM.run]
theorem Qsc{o}{s}{out}(H:HRel c h w)(p:TRel c w T a)(b:okOp P o.op s=true)(hm:(aop i T s).run h=some (out,h')):Done P c h w (execOp a.eval o) out h':=by
 obtain⟨dst,op,ty,pos,after,guard⟩:=o;simp only at b;have K:∀{v:AV}{V:Value},VRel c w v V->Done P c h w (pure (.value V)) (.val v) h:=fun{v V}U=>⟨.value V,V,c,w,rfl,.inl rfl,.refl c w,H,U⟩;unfold okOp at b;split at b;·simp only[aop,HM.run,Zaa,Zal]at hm;obtain⟨rfl,rfl⟩:=hm;exact K (Qav p b)
 ·simp only[aop,HM.run,Zaa,Zal]at hm;obtain⟨rfl,rfl⟩:=hm;exact K (Qav p b)
 ·rename_i x y z R y' z';simp only[Zab]at b;obtain⟨v,d,g⟩:=QaY hm;cases g;have h1:=Qav p b.1.1;unfold aPick at d;split at d;·rename_i t e;rw[e]at h1;simp only[VRel]at h1;cases d;have L:execOp a.eval {dst,op:=.pick x y z,type:=ty,pos,after,guard}=(do pure (.value (if<-asBool (a.eval x)then a.eval y else a.eval z))):=rfl;rw[L,h1];refine⟨.value (if t then a.eval y else a.eval z),_,c,w,by simp[asBool],.inl rfl,.refl c w,H,?_⟩;grind[Qav]
  cases d
 ·rename_i t st z;split at b;·rename_i Y F;obtain⟨Z,hi,E⟩:=QdW F;obtain⟨v,h1,d,g⟩:=QaU hm;cases g;exact .ofSound (QnI (P:=P) H hi E b d)
  cases b
 ·rename_i t t' st z;simp only[Zab,beq_iff_eq]at b;obtain⟨rfl,b⟩:=b;split at b;·rename_i Y F;obtain⟨Z,hi,E⟩:=QdW F;obtain⟨v,h1,d,g⟩:=QaU hm;cases g;exact .ofSound (QlJ (P:=P) H hi E b d)
  cases b
 ·obtain⟨v,h1,d,g⟩:=QaU hm;cases g;exact .ofSound (Qj4 (P:=P) H (Qav p b) d)
 ·rename_i t parts zero ps;simp only[Zab]at b;obtain⟨⟨B,q⟩,A⟩:=b;obtain⟨v,d,g⟩:=QaY hm;cases g;split at B
  ·rename_i Y F;have hb:(∃n e ie,P.underlying t=some (.array n e)/\P.info? e=some ie)\/(∃fields N,P.underlying t=some (.struct fields)/\fields.toList.mapM (fun f=>(P.info? f.type).map fun i=>(f.offset,i.size))=some N):=by grind[buildTB,Option.isSome_iff_exists]
   have L:execOp a.eval {dst,op:=.build t parts,type:=ty,pos,after,guard}=(do pure (.value (<-Instr.build t (parts.map fun(i,x)=>(i,a.eval x))))):=rfl;have O:PartsRel c w (placeOf P t) (evParts T ps) (parts.map fun(i,x)=>(i,a.eval x)).toList:=by simp_all[Qfb]
   have hs:=QnJ (P:=P) H F B hb O d;rw[L];exact .ofSound hs
  cases B
 ·rename_i t len parts fz st sz len' zero ps;simp only[Zab,beq_iff_eq,decide_eq_true_eq]at b;obtain⟨⟨⟨rfl,q⟩,A⟩,C⟩:=b;obtain⟨v,h1,d,g⟩:=QaU hm;cases g;split at A
  ·rename_i e hu;split at A
   ·rename_i ie hi;simp only[Zab,beq_iff_eq]at A;obtain⟨J,g6⟩:=A;split at g6
    ·rename_i z F;have L:execOp a.eval {dst,op:=.buildSlice t len parts,type:=ty,pos,after,guard}=(do pure (.value (<-Instr.buildSlice t len (parts.map fun(i,x)=>(i,a.eval x))))):=rfl;have O:PartsRel c w (fun i=>some (i*sz,sz)) (evParts T ps) (parts.map fun(i,x)=>(i,a.eval x)).toList:=by simp_all[Qfb]
     have hs:=QhZ (P:=P) H hu hi J F q g6 O d;rw[L];exact .ofSound hs
    cases g6
   cases A
  cases A
 ·simp only[Zab]at b;obtain⟨v,h1,d,g⟩:=QaU hm;cases g;exact .ofSound (Qpl (P:=P) H (Qav p b.2) b.1 d)
 ·rename_i t x v n R v';simp only[Zab]at b;obtain⟨⟨B,q⟩,A⟩:=b;obtain⟨r,h1,d,g⟩:=QaU hm;cases g;split at B
  ·rename_i Z hi;have Q:∀w,(sizeOf t).run P w=.ok n w:=fun w=>by simp_all[QaO]
   have S:r=.any:=by unfold aStore at d;grind[Qbl,HM.run]
   exact .ofU (QnH (P:=P) H (Qav p q) (Qav p A) Q d) S
  cases B
 ·rename_i x y;obtain⟨v,d,g⟩:=QaY hm;cases g;have G:=Qav p b;obtain⟨L,rfl⟩:=Qqc G d;grind[execOp]
 ·rename_i op t x y X op' R y';simp only[Zab,beq_iff_eq]at b;obtain⟨⟨rfl,q⟩,A⟩:=b;obtain⟨v,d,g⟩:=QaY hm;cases g;have G:=Qav p q;have hy:=Qav p A;have hp:=Qp3 (P:=P) (t:=t) G hy d;have hg:(eqGuard op t x y (a.eval x) (a.eval y))=pure ():=by
   unfold aBin at d;split at d;·rename_i L e2;rw[L]at G;simp only[VRel]at G;rw[G];cases op<;>rfl
   ·rename_i L e2;rw[L]at G;simp only[VRel]at G;rw[G];cases op<;>rfl
   cases d
  have:execOp a.eval {dst,op:=.binOp op t x y X,type:=ty,pos,after,guard}=(do pure (.value (<-(do eqGuard op t x y (a.eval x) (a.eval y);binOp op t (a.eval x) (a.eval y))))):=rfl;rw[this,hg];exact .ofPure H hp
 ·rename_i op t x y X k neg R y';simp only[Zab,beq_iff_eq]at b;obtain⟨⟨⟨⟨B,q⟩,A⟩,C⟩,J⟩:=b;obtain⟨v,d,g⟩:=QaY hm;cases g;refine .ofPure H (QlD (P:=P) (ox:=x) (oy:=y) B (Qav p A) (Qav p C) q ?_ d);intro kind e;subst e;cases y<;>simp[isConstO]at J;simp_all
 ·rename_i op t x y X neg R;simp only[Zab,beq_iff_eq]at b;obtain⟨⟨⟨⟨B,q⟩,A⟩,J⟩,C⟩:=b;obtain⟨v,h1,d,g⟩:=QaU hm;cases g;obtain⟨x2,hx2,I⟩:=Qpp H (Qav p A) d;cases U:aEq (.nil 2) neg x2 .nilsl with|none=>rw[U]at I;simp[HM.opt,HM.run]at I|some u=>rw[U]at I;simp only[HM.opt,HM.run,Zaa,Zal]at I;obtain⟨rfl,rfl⟩:=I;refine .ofPure H (QlD (P:=P) (ox:=x) (oy:=y) B hx2 (Qav p C) q ?_ U);intro kind e;cases e;cases y<;>simp[isConstO]at J;exact⟨_,rfl⟩
 ·rename_i op t x y X neg R y';simp only[Zab,beq_iff_eq]at b;obtain⟨⟨⟨B,q⟩,A⟩,C⟩:=b;obtain⟨v,d,g⟩:=QaY hm;cases g;exact .ofPure H (Qp9 (P:=P) (ox:=x) (oy:=y) B (Qav p A) (Qav p C) q d)
 ·simp only[Zab,beq_iff_eq]at b;obtain⟨rfl,q⟩:=b;obtain⟨v,d,g⟩:=QaY hm;cases g;exact .ofPure H (Qsb (P:=P) (Qav p q) d)
 ·simp only[Zab]at b;obtain⟨v,d,g⟩:=QaY hm;cases g;exact .ofPure H (Qpm (P:=P) (Qav p b.2) b.1 d)
 ·simp only[Zab]at b;obtain⟨v,d,g⟩:=QaY hm;cases g;exact .ofPure H (QnP (P:=P) (Qav p b.2) b.1 d)
 ·simp only[Zab]at b;obtain⟨v,h1,d,g⟩:=QaU hm;cases g;exact .ofSound (QnQ (P:=P) H (Qav p b.2) b.1 d)
 ·simp only[Zab]at b;obtain⟨v,d,g⟩:=QaY hm;cases g;exact .ofPure H (QnR (P:=P) (Qav p b.2) b.1 d)
 ·rename_i f first captured f' xs ys;simp only[Zab,beq_iff_eq]at b;obtain⟨⟨rfl,q⟩,A⟩:=b;simp only[aop,HM.run,Zaa,Zal]at hm;obtain⟨rfl,rfl⟩:=hm;have:execOp a.eval {dst,op:=.makeFunc (.func f) first captured,type:=ty,pos,after,guard}=pure (.value (.func (.func f) (first.map a.eval) (captured.map a.eval))):=rfl;rw[this];refine K ?_;simp only[VRel];exact⟨_,_,rfl,by simp_all[Qcu],by simp_all[Qcu]⟩
 ·obtain⟨v,h1,d,g⟩:=QaU hm;cases g;exact .ofSound (Qlv (P:=P) (reserve:=none) (by simp) H d)
 ·rename_i t l cc st sz bytes zero l' c';simp only[Zab]at b;obtain⟨⟨B,q⟩,A⟩:=b;obtain⟨v,h1,d,g⟩:=QaU hm;cases g;obtain⟨e,ie,z,hu,hi,Q,hby,F,hk⟩:=Qd1 A;simp only[Zab,beq_iff_eq]at hk;exact .ofSound (Qiv (P:=P) H (Qav p B) (Qav p q) hu hi Q hby F hk.1 hk.2 d)
 ·rename_i t x l hi mx sz R l' h' m';simp only[Zab]at b;obtain⟨⟨⟨⟨B,q⟩,A⟩,C⟩,J⟩:=b;obtain⟨v,d,g⟩:=QaY hm;cases g;have G:=Qav p q;have hl:=Qdn p A;have hh:=Qdn p C;have hmx:=Qdn p J;refine .ofPure H ?_;unfold aSliceC at d;split at d;·grind[QcX]
  ·grind[QcX]
  ·grind[QcX]
  ·grind[QcX]
  ·rename_i s e;rw[e]at G d;exact QcX (P:=P) G hl hh hmx B (fun _ _ _ _ _ e=>by cases e) (fun _ _ _ e=>by cases e) (fun _=>rfl) (.inl ⟨_,rfl⟩) d
  cases d
 ·simp only[Zab]at b;obtain⟨⟨⟨B,q⟩,A⟩,C⟩:=b;obtain⟨v,d,g⟩:=QaY hm;cases g;exact .ofPure H (QlE (P:=P) (Qav p q) (Qdn p A) (Qdn p C) B d)
 ·simp only[Zab]at b;obtain⟨v,d,g⟩:=QaY hm;cases g;exact .ofPure H (QnM (P:=P) (Qav p b.2) b.1 d)
 ·simp only[Zab]at b;obtain⟨v,d,g⟩:=QaY hm;cases g;exact .ofPure H (QnL (P:=P) (Qav p b.2) b.1 d)
 ·simp only[Zab]at b;obtain⟨v,d,g⟩:=QaY hm;cases g;exact .ofPure H (QnN (P:=P) (Qav p b.1.2) (Qav p b.2) b.1.1 d)
 ·simp only[Zab]at b;obtain⟨v,d,g⟩:=QaY hm;cases g;exact .ofPure H (QnO (P:=P) (Qav p b.1.2) (Qav p b.2) b.1.1 d)
 ·rename_i t x k ok row ks zero ok' R k';simp only[Zab,beq_iff_eq]at b;obtain⟨⟨⟨⟨B,q⟩,rfl⟩,C⟩,J⟩:=b;obtain⟨v,h1,d,g⟩:=QaU hm;cases g;obtain⟨kt,et,M⟩:=QfD B;unfold mapElemZero at q;rw[M.hu]at q;simp only at q;split at q;·rename_i Y F;obtain⟨Z,hi,E⟩:=QdW F;exact .ofSound (QlH (P:=P) H M (Qav p C) (Qav p J) hi E q d)
  cases q
 ·rename_i t m k row ks zero m' k';simp only[Zab]at b;obtain⟨⟨⟨B,q⟩,C⟩,J⟩:=b;obtain⟨v,h1,d,g⟩:=QaU hm;cases g;obtain⟨kt,et,M⟩:=QfD B;unfold mapElemZero at q;rw[M.hu]at q;simp only at q;split at q;·rename_i Y F;obtain⟨Z,hi,E⟩:=QdW F;exact .ofSound (QlK (P:=P) H M (Qav p C) (Qav p J) hi E q d)
  cases q
 ·simp only[Zab]at b;obtain⟨⟨q,A⟩,C⟩:=b;obtain⟨r,h1,d,g⟩:=QaU hm;cases g;exact .ofU (QnS (P:=P) H (Qav p q) (Qav p A) (Qav p C) d) (Qqb d)
 ·exact b2OFI
 ·exact b2OFI
 ·simp only[Zab,beq_iff_eq]at b;obtain⟨rfl,q⟩:=b;obtain⟨v,d,g⟩:=QaY hm;cases g;exact .ofPure H (Qlt (P:=P) (Qav p q) d)
 ·simp_all[aop,HM.run]
 ·exact Qpt (P:=P) (ty:=ty) H p b hm
 cases b
end Go.AM
namespace Go.AM
def Opd.slots:Opd->List Nat|.t i=>[i]|_=>[]
def slotsOf(xs:List Opd):List Nat:=xs.flatMap Opd.slots
def SOp.opds:SOp->List Opd|.mov x|.box _ x|.load _ x|.nilchk x|.un _ x|.conv _ x|.convS x|.convB x|.eqn _ x|.cap x|.clear _ _ _ x|.convP _ _ x|.usd x|.faddr _ x|.field _ _ x|.extract _ x|.len _ x=>[x]|.pick c a b=>[c,a,b]|.alloc _ _|.allocT ..|.mkmap _|.bad=>[]|.build _ d|.bslice _ _ _ _ _ d=>d.map fun p=>p.2.2|.store _ x v|.ment _ _ _ x v|.appendZ _ _ _ _ x v|.bin _ x v|.eq _ _ x v|.eqp _ x v|.appendT _ _ _ _ x v|.ustr _ x v|.iaddr _ _ x v|.index _ x v|.append _ _ _ x v|.copy _ x v|.lookup _ _ _ _ x v|.mkslice _ _ _ _ x v=>[x,v]|.mkfn _ xs f=>xs++f|.slice _ x l h m=>[x]++l.toList++h.toList++m.toList|.sliceK _ x l h=>[x]++l.toList++h.toList|.mupd _ _ x k v|.estore x k v=>[x,k,v]|.maxmin _ xs=>xs|.ext _ _ xs=>xs|.call _ x args=>x::args
def SOper.reads(s:SOper):List Nat:=slotsOf s.op.opds++(match s.guard with|some (g,_)=>[g]|none=>[])
def optIn(d:Option Nat)(xs:List Nat):Bool:=match d with|some d=>xs.contains d|none=>false
def SOper.apart(a b:SOper):Bool:=!optIn a.dst b.reads&&!optIn b.dst a.reads&&!(match a.dst,b.dst with|some x,some y=>x==y|_,_=>false)
def okGuard(N:Nat)(ops:Array Oper):Option (Nat×Bool)->Option (Nat×Bool)->Bool|none,none=>true|some (j,b),some (slot,a)=>b==a&&((ops[j]?).bind (·.dst))==some slot&&decide (slot<N)|_,_=>false
def okAfter(es:List Edge)(l:List Nat):Bool:=((es.filter fun e=>Region.binds .any e).map (·.on))==l
def okOper(P:Program)(N:Nat)(ops:Array Oper)(o:Oper)(s:SOper):Bool:=o.dst==s.dst&&(match s.dst with|some d=>decide (d<N)|none=>true)&&okOp P o.op s.op&&okGuard N ops o.guard s.guard&&okAfter o.after.toList s.after
def SOp.cls:SOp->Nat|.mov _|.pick ..|.build ..|.nilchk _|.bin ..|.eq ..|.un ..|.conv ..|.convS _|.mkfn ..|.slice ..|.sliceK ..|.faddr ..|.field ..|.iaddr ..|.index ..|.extract ..|.maxmin ..|.ext ..|.cap _|.eqp ..|.convP ..|.usd _|.bad=>0|.load ..|.len ..|.lookup ..|.convB _|.eqn ..=>1|.call m _ _=>(match m with|.heap=>2|_=>1)|.alloc ..|.allocT ..|.ment ..|.estore ..|.appendZ ..|.clear ..|.appendT ..|.ustr ..|.box ..|.bslice ..|.store ..|.mkmap ..|.mkslice ..|.mupd ..|.append ..|.copy ..=>2
def maskOf(acc:List Nat)(s:SOper):Nat:=s.after.foldl (fun m e=>m|||2^e|||acc.getD e 0) 0
def masksFrom(acc:List Nat):List SOper->List Nat|[]=>acc|s::r=>masksFrom (acc++[maskOf acc s]) r
def SOp.still:SOp->Bool|.call .heap _ _=>false|_=>true
def SOp.fresh:SOp->Bool|.alloc .dyn _=>true|.box .dyn _=>true|.bslice false .dyn _ _ _ _=>true|.mkslice .dyn _ _ _ _ _=>true|.mkmap .dyn=>true|_=>false
def SOp.sees:SOp->Bool|.load _ _=>true|.len _ _=>true|_=>false
def pairOK(sops:List SOper)(a:List (Nat×Nat))(k j:Nat):Bool:=match sops[k]?,sops[j]? with|some s,some t=>s.apart t&&(Nat.beq s.op.cls 0||Nat.beq t.op.cls 0||(Nat.ble s.op.cls 1&&Nat.ble t.op.cls 1)||a.contains (k,j)||((s.op.sees||s.op.fresh)&&t.op.fresh&&sops.all fun s=>s.op.still))|_,_=>false
def freeB(sops:List SOper)(a:List (Nat×Nat)):Bool:=let ms:=masksFrom [] sops
 (List.range sops.length).all fun j=>(match sops[j]? with|some s=>s.after.all fun k=>Nat.blt k j|none=>false)&&(List.range j).all fun k=>(ms.getD j 0).testBit k||pairOK sops a k j
def okOpers(P:Program)(N:Nat)(ops:Array Oper):List Oper->List SOper->Bool|[],[]=>true|o::os,s::a=>okOper P N ops o s&&okOpers P N ops os a|_,_=>false
def okRegion(P:Program)(N:Nat)(ops:Array Oper)(draw:Bool)(sops:List SOper)(a:List (Nat×Nat)):Bool:=okOpers P N ops ops.toList sops&&(!draw||(P.follows .mixedOrders&&freeB sops a))
structure MLParts where
 ops6:Array Oper
 b:Nat
 ops7:Array Oper
 c:Nat
 b':Nat
 b3:Nat
 ops8:Array Oper
 body:Code
def mlParts:Code->Option MLParts|.seq (.region _ a false) (.block b (.loop (.seq (.region _ f false) (.seq (.cond (.tmp c) .skip (.exit h)) (.block g (.seq (.region _ d false) body))))))=>some ⟨a,b,f,c,h,g,d,body⟩|_=>none
def isMapT(P:Program)(t:TypeId):Bool:=match P.underlying t with|some (.map _ _)=>true|_=>false
def okRange(P:Program)(N:Nat)(ops:Array Oper)(pre:List SOper)(x:Opd)(it:Nat):Bool:=match ops[pre.length]? with|some o=>o.dst==some it&&decide (it<N)&&o.guard.isNone&&(match o.op with|.range t y=>isMapT P t&&okOpd y x|_=>false)&&ops.size==pre.length+1&&okOpers P N ops (ops.toList.take pre.length) pre|none=>false
def okNext(N:Nat)(ops:Array Oper)(it c ok:Nat):Bool:=match ops.toList with|[a,b]=>a.dst==some c&&decide (c<N)&&a.guard.isNone&&(match a.op with|.next (.tmp i) false=>i==it|_=>false)&&b.dst==some ok&&decide (ok<N)&&b.guard.isNone&&(match b.op with|.extract (.tmp j) 0=>j==c|_=>false)&&!(c==it)&&!(ok==it)|_=>false
def okEntry(P:Program)(N:Nat)(ops:Array Oper)(rest:List SOper)(it b:Nat):Bool:=match ops.toList with|a::l=>a.dst==some b&&decide (b<N)&&a.guard.isNone&&(match a.op with|.entry (.tmp i)=>i==it|_=>false)&&okOpers P N ops l rest|_=>false
def SCode.rf:SCode->Bool|.seq a b=>a.rf||b.rf|.cond _ a b=>a.rf||b.rf|.block _ b=>b.rf|.loop b=>b.rf|.mloop ..=>true|.rfunc ..=>true|_=>false
def okCode(P:Program)(N:Nat):Code->SCode->Bool|.skip,.skip=>true|.region _ ops draw,.region sops f _=>okRegion P N ops draw sops f|.seq a b,.seq h d=>okCode P N a h&&okCode P N b d|.cond c a b,.cond x h d=>okOpd c x&&okCode P N a h&&okCode P N b d|.block i b,.block l d=>i==l&&okCode P N b d|.loop b,.loop d=>okCode P N b d|.exit i,.exit l=>i==l|.ret,.ret=>true|c,.mloop pre x it s ok n m b2 rest body=>(match mlParts c with|some p=>okRange P N p.ops6 pre x it&&p.b==m&&okNext N p.ops7 it s ok&&p.c==ok&&p.b'==m&&p.b3==b2&&okEntry P N p.ops8 rest it n&&okCode P N p.body body|none=>false)|.rangeFunc g q a b,.rfunc t k N' h d=>okOpd g t&&q.toList==k&&N'==N&&k.all (fun p=>Nat.blt p N)&&!h.rf&&!d.rf&&okCode P N a h&&okCode P N b d|_,.bad=>true|_,_=>false termination_by structural _ o=>o
def okc(P:Program):Okc:=fun N code a=>okCode P N code a=true/\a.rf=false
end Go.AM
