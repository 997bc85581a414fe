/- A part of the proof of GuardsOfCardSaid: lemmas on the way (AmGy, AmH, AmHa). Conditions: none of ours. -/
import Derived.Lib.UnsafeStr
import Derived.Lib.Builder
import Derived.LaidEqlPtr
import Derived.Test.YtikknocmfjfohaaGreatDoorAmO3
theorem Go.AM.bZHY7{p:Prop}(h:p:=by
 rcases l with⟨_,Q,_⟩|⟨L,base,o,cap,C,q,K,hp,rfl,B,R,f⟩;·omega
 obtain⟨rfl,f⟩:=f.resolve_left (by omega);have d:VRels c w (List.replicate (len+1) zero).flatten (Builtin.zeroCells z.cells (len+1)).toList:=QcQ (c:=c) (w:=w) (Qcq _ _ hc) (len+1);have hlen:((List.replicate (len+1) zero).flatten).length=(len+1)*s:=by simp[p]
 obtain⟨A,F,N,u,E⟩:=Qdv (P:=P) H G m hp (vs:=(List.replicate (len+1) zero).flatten) (off:=off) (by omega) d (onesI d (Qkk n _));refine⟨.tuple #[],A,F,?_,u,E,by simp[VRel]⟩;simp_all[Builtin.clear_,run_underlying,zeroValue,typeInfo]):p:=h
theorem Go.AM.bu8Eg{p:Prop}(h:p:=by
 have M:args=#[y]:=by grind
 have Q:argTypes=#[t]:=by grind
 simp_all[resolve,invoke,builtin]):p:=h
theorem Go.AM.bOzdE{p:Prop}(h:p:=by
 unfold notInt at q;split at q;·cases q
 ·cases q
 rename_i h1 h2;cases X:P.underlying u with|none=>exact absurd X h2|some d=>exact⟨d,rfl,fun k e=>h1 k (by rw[X,e])⟩):p:=h
theorem Go.AM.bM6RN{p:Prop}(h:p:=by
 have :(do let d<-resolve a.eval {callee:=.builtin .append,args:=args,argTypes:=argTypes} ty;invoke d.target d.args:Sem Next)=(do pure (.value (<-Builtin.append_ #[t,u] ty #[a.eval r,a.eval I]))):=by
  have M:args=#[r,I]:=by grind
  have Q:argTypes=#[t,u]:=by grind
  simp_all[resolve,invoke,builtin]
 rw[this];exact .ofSound B):p:=h
theorem Go.AM.bshAr{p:Prop}(h:p:=by
 simp only[Zab]at b;obtain⟨⟨⟨B,q⟩,A⟩,C⟩:=b;obtain⟨r,h1,d,g⟩:=QaS hm;cases g;obtain⟨kt,et,M⟩:=QfA B;exact .ofU (Qgj (P:=P) H M (Qat p q) (Qat p A) (Qat p C) d) (QlZ d)):p:=h
set_option linter.unusedSectionVars false
set_option maxHeartbeats 32000000
set_option maxRecDepth 100000
set_option linter.unusedVariables false
set_option linter.constructorNameAsVariable false
set_option linter.unusedSimpArgs false
namespace Go.AM
variable{P:Program}{ok:Okc}{c:Ctx ok}{w:World}{h:Heap}
variable{m:Array TypeId}{neg:Bool}{h':Heap}{L p:IntKind}{ks:List LK}{us:List Value}{f:MapEntry->MapEntry}{i n:Nat}{s:Site}{t t2 ty:TypeId}{I k ti:TypeInfo}{A C G J Q T a l z:Value}
theorem run_bind'{α β}{m:HM α}{f}{r:β×Heap}(hm:(m.bind f).run h=some r):∃a h1,m.run h=some (a,h1)/\(f a).run h1=some r:=by induction m generalizing h with|ret a=>exact⟨a,h,rfl,hm⟩|fail=>simp[HM.bind,HM.run]at hm|look b k d=>exact d _ hm|put b x k d=>
 obtain⟨l,hm⟩:=Qa2 (k:=k.bind f) hm;obtain⟨a,h1,g,i⟩:=d hm;refine⟨a,h1,?_,i⟩;have c:Nat.blt b lim=true:=by simp_all
 simp only[HM.run,c,cond_true];exact g
def aBoxT(t:Nat)(s:Site)(i:Nat)(x:AV):HM AV:=if x.boxable then .new s i (fun g=>.cells g x.cells) fun b g=>.ret (.typed t x.cells.length (.ptr b g 0))else .fail
theorem QlW{z v}(H:HRel c h w)(hi:P.info? t=some k)(o:k.zero=some a)(hc:cOK z a=true)(hm:(aBoxT t s i z).run h=some (v,h')):Sound P c w (Instr.alloc t true (.tuple #[])) v h':=by
 unfold aBoxT at hm;split at hm
 ·rename_i m;obtain⟨b,g,d,r,hm⟩:=Qdw hm;simp only[HM.run,Zaa,Zal]at hm;obtain⟨rfl,rfl⟩:=hm;have q:=Qei (c:=c) (w:=w) z a hc;have f:=VRel_cells' q m;obtain⟨p,hp,l,n⟩:=H.newCells d r (C:=a.cells) (e:=t) (QaZ f);refine⟨.pointer (some ⟨w.heap.size,0,none⟩),p,_,?_,l,n,?_⟩;·simp[Instr.alloc,newVar,newRow,zeroValue,typeInfo,hi,o]
  simp only[VRel];refine⟨.inl ⟨w.heap.size,a.cells,(0,0),.inl rfl,?_,.inr ?_⟩,_,0,hp,by simp⟩;·show(w.heap.push _)[w.heap.size]?=_;simp
  have :=QaG f;simp_all
 grind[HM.run]
def AV.bare:AV->AV|.typed _ _ v=>v|v=>v
variable{v x y:AV}{ys:List AV}
theorem VRel.bare{v}(h:VRel c w x v):VRel c w x.bare v:=by cases x<;>first|exact h|exact(by simp only[VRel]at h;exact h.2)
def aEqP(neg:Bool)(x y:AV):Option AV:=match x.bare,y.bare with|.ptr b g o,.ptr c d a=>if b=c/\g=d/\o=a then some (.bool (true !=neg))else none|_,_=>none
def eqPT(P:Program)(t:TypeId):Bool:=match P.underlying t with|some (.pointer e)=>(match P.info? e with|some i=>i.size !=0|none=>false)|_=>false
theorem QjB{c f}{j}(a)(hp:P.underlying c=some (.pointer f))(b:P.info? f=some j):(Op.equal c (.pointer (some a)) (.pointer (some a))).run P w=.ok true w:=by
 have h:∀d:Nat,(Op.equalIn (d+1) c (.pointer (some a)) (.pointer (some a))).run P w=.ok true w:=fun d=>by simp[Op.equalIn,run_underlying hp,sizeOf,typeInfo,b,run_sameAddr_same]
 simp_all[Op.equal,Op.maxDepth]
theorem Qf7(w:World)(o):(w.drew.alloc o).heap[w.heap.size]?=some o:=by show(w.heap.push o)[w.heap.size]?=_;simp
theorem Qqi{op}{ox oy}{k cy}(m:op=if neg then .neq else .eql)(f:VRel c w x k)(h:VRel c w y cy)(a:eqPT P t=true)(hm:aEqP neg x y=some v):Pure P c w (do eqGuard op t ox oy k cy;binOp op t k cy) v:=by
 unfold aEqP at hm;have f:=f.bare;have h:=h.bare;split at hm
 ·rename_i b g o B C E z r;rw[z]at f;rw[r]at h;split at hm
  ·rename_i p;obtain⟨rfl,rfl,rfl⟩:=p;cases hm;simp only[VRel]at f h;obtain⟨q,base,hp,rfl⟩:=f;obtain⟨A,l,d,rfl⟩:=h;rw[hp]at d;cases d;unfold eqPT at a;split at a
   ·rename_i e u;split at a
    ·rename_i i hi;have s:i.size≠0:=by simpa using a
     have n:=QjB (w:=w) ⟨q,base+o,none⟩ u hi;subst m;cases neg;·refine⟨.bool true,?_,by simp[VRel]⟩;simp_all[eqGuard,binOp]
     refine⟨.bool false,?_,by simp[VRel]⟩;simp_all[eqGuard,binOp]
    cases a
   cases a
  cases hm
 cases hm
def aConvP(t n:Nat)(x:AV):Option AV:=match x with|.typed c a (.ptr b g o)=>if c=t/\a=n then some x else none|_=>none
def convPT(P:Program)(src dst:TypeId)(T n:Nat):Bool:=match P.underlying src,P.underlying dst with|some (.pointer t),some .unsafePointer=>n !=0&&(match P.info? t with|some i=>i.size !=0|none=>false)|some .unsafePointer,some (.pointer u)=>n !=0&&(P.info? u).isSome&&liesAt P P.depth T (n/P.cellsOf T) 0 u 1|_,_=>false
theorem QnX{src dst}{t}(s:VRel c w x l)(d:convPT P src dst t n=true)(hm:aConvP t n x=some v):Pure P c w (convert src dst l) v:=by
 unfold aConvP at hm;split at hm
 ·rename_i E z b g o;split at hm
  ·rename_i I;obtain⟨rfl,rfl⟩:=I;cases hm;have h:=s;simp only[VRel]at s;obtain⟨q,_,_,_,F⟩:=s;obtain⟨k,C,J,h1,B,A⟩:=q.old (.inr ⟨_,F⟩);have r:l=.pointer (some ⟨k,0,none⟩):=by simp_all
   subst r;have f:w.shape? k=some (E,C.size):=by simp[World.shape?,B]
   unfold convPT at d;split at d
   ·rename_i e y m;simp only[Zab,bne_iff_ne,ne_eq]at d;obtain⟨p,hi⟩:=d;split at hi
    ·rename_i i a;have G:i.size≠0:=by simpa using hi
     have H:C.size=z:=A.resolve_left p;exact⟨_,Lib.run_to_unsafe (P:=P) (w:=w) ⟨k,0,none⟩ y m a G f (by grind),h⟩
    cases hi
   ·rename_i u y m;simp only[Zab,bne_iff_ne,ne_eq]at d;obtain⟨⟨p,hi⟩,K⟩:=d;obtain⟨i,a⟩:=Option.isSome_iff_exists.1 hi;have H:C.size=z:=A.resolve_left p;exact⟨_,Lib.run_from_unsafe (P:=P) (w:=w) ⟨k,0,none⟩ y m a f (by simp_all),h⟩
   cases d
  cases hm
 cases hm
def tagT(t:Nat):AV->AV|.sl b g off len sz=>.typed t 0 (.sl b g off len sz)|v=>v
def aAppendT(t:Nat)(s:Site)(i:Nat)(sz bytes:Nat)(x y:AV):HM AV:=match x with|.nilsl=>(aAppend s i sz bytes .nilsl y).bind fun v=>.ret (tagT t v)|.typed c 0 (.sl b g 0 (len+1) a)=>if c=t then(aAppend s i sz bytes (.sl b g 0 (len+1) a) y).bind fun v=>.ret (tagT t v)else .fail|_=>.fail
theorem QlK{e}{sz bytes}{cy}(H:HRel c h w)(hx:VRel c w x G)(R:VRel c w y cy)(T:AppT P t t2 e sz bytes ti z)(hm:(aAppendT e s i sz bytes x y).run h=some (v,h')):Sound P c w (Builtin.append_ #[t,t2] ty #[G,cy]) v h':=by
 have tagged:∀(u:AV)(h1:Heap),Sound P c w (Builtin.append_ #[t,t2] ty #[G,cy]) u h1->(∀B q,(Builtin.append_ #[t,t2] ty #[G,cy]).run P w=.ok B q->(∃K,Evo c w K q)->∀b g off len sz,u=.sl b g off len sz->TyAt q e 0 B)->Sound P c w (Builtin.append_ #[t,t2] ty #[G,cy]) (tagT e u) h1:=by
  rintro u h1⟨B,K,q,F,E,H',V⟩J;refine⟨B,K,q,F,E,H',?_⟩;cases u<;>first|exact V|skip
  simp only[tagT,VRel];refine⟨J B q F ⟨K,E⟩ _ _ _ _ _ rfl,?_⟩;simp_all[VRel]
 unfold aAppendT at hm;split at hm
 ·obtain⟨u,h1,d,I⟩:=run_bind' hm;simp only[HM.run,Zaa,Zal]at I;obtain⟨rfl,rfl⟩:=I;refine tagged u h1 (Qeu (P:=P) (ty:=ty) H hx R T d) ?_;rintro B q F _ b g off len sz rfl;simp only[VRel]at hx;subst hx;obtain⟨J,⟨d2,p,m⟩,hi,hz,rfl,rfl,U⟩:=T;have d:=Qc3 (P:=P) H R d;obtain⟨ys,n,us,S,d⟩:=d;split at d;·rename_i k;obtain⟨N,A,M⟩:=k;simp only[slLen,Zb8]at N A;cases n with|zero=>simp[HM.run]at d|succ n=>have hg:=Qcr (P:=P) (w:=w) (ty:=ty) (t:=t) (t2:=t2) (dlen:=0) (dcap:=0) (base:=none) (cy:=cy) (olds:=[]) (us:=us) J p m hi hz S.lenOf S.first (fun w1 _=>by simp[Builtin.firstCells]) (by omega) (by simpa using N) (by omega);rw[F]at hg;cases hg;exact .inl ⟨w.heap.size,_,(0,0),.inr ⟨rfl,_,_,rfl⟩,Qf7 w _,.inl rfl⟩
  grind[HM.run]
 ·rename_i t' b0 g0 f s';split at hm
  ·rename_i e0;subst e0;obtain⟨u,h1,d,I⟩:=run_bind' hm;simp only[HM.run,Zaa,Zal]at I;obtain⟨rfl,rfl⟩:=I;have l:VRel c w (.sl b0 g0 0 (f+1) s') G:=by simp_all[VRel]
   have Y:TyAt w t' 0 G:=by simp_all[VRel]
   refine tagged u h1 (Qeu (P:=P) (ty:=ty) H l R T d) ?_;rintro B q F⟨K,E⟩b g off len sz rfl;obtain⟨J,⟨d2,p,m⟩,hi,hz,rfl,rfl,U⟩:=T;replace d:=Qc3 (P:=P) H R d;obtain⟨ys,n,us,S,d⟩:=d;split at d
   ·rename_i k;obtain⟨N,A,M⟩:=k;simp only[slLen]at N A;dsimp only at d;split at d
    ·rename_i e1;subst e1;obtain⟨cs,X,d⟩:=Qbg d;split at d
     ·rename_i hl;have hxx:=l;simp only[VRel]at l;rcases l with⟨hp,hz0,_⟩|⟨Q,base,o,cap,C,e',fr,hp,rfl,hlc,hC,hcap⟩;·omega
      obtain⟨cb2,C2,fr2,q1,q2,q3⟩:=Y.old (.inl rfl);have q1:=q1.resolve_left (by simp);obtain⟨_,l2,I,q1⟩:=q1;simp only[Value.slice.injEq,Zaa,Addr.mk.injEq]at q1;obtain⟨⟨rfl,rfl,_⟩,_,_⟩:=q1;by_cases r:f+1+n<=cap;·have a:=Qbt (P:=P) (w:=w) (ty:=ty) (base:=some ⟨Q,0,none⟩) (dlen:=f+1) (dcap:=cap) J p m hi S.lenOf (S.first w rfl) r;rw[F]at a;simp only at a;cases O:(storeCells ((⟨Q,0,none⟩:Addr).add ((f+1)*ti.size)) us).run P w with|halt x y=>rw[O]at a;cases a|ok x y=>rw[O]at a;simp only[Result.andThen_ok,Result.ok.injEq]at a;obtain⟨rfl,rfl⟩:=a;obtain⟨C',Z,s1,s2⟩:=E.shape _ _ _ _ q2;exact .inl ⟨Q,C',Z,.inr ⟨rfl,_,_,rfl⟩,s1,.inl rfl⟩
      obtain⟨L,So⟩:=Qe7 (P:=P) H hxx X hl;have a:=Qcr (P:=P) (w:=w) (ty:=ty) (t:=t) (t2:=t2) (dlen:=f+1) (dcap:=cap) (base:=some ⟨Q,0,none⟩) (cy:=cy) (olds:=L) (us:=us) J p m hi hz S.lenOf S.first So.first (by omega) N (by omega);rw[F]at a;cases a;exact .inl ⟨w.heap.size,_,(0,0),.inr ⟨rfl,_,_,rfl⟩,Qf7 w _,.inl rfl⟩
     grind[HM.run]
    grind[HM.run]
   grind[HM.run]
  grind[HM.run]
 grind[HM.run]
def aUsd(x:AV):Option AV:=match x with|.nilsl=>some .nilptr|.typed t 0 (.sl b g 0 (_+1) _)=>some (.typed t 0 (.ptr b g 0))|_=>none
theorem Qqj{i}(f:VRel c w x i)(hm:aUsd x=some v):Pure P c w (Builtin.unsafeSliceData_ m ty #[i]) v:=by
 unfold aUsd at hm;split at hm;·cases hm;simp only[VRel]at f;subst f;exact⟨_,Lib.run_unsafeSliceData_nil _ _ _ _ _,by simp[VRel]⟩
 ·rename_i t b g len s;cases hm;simp only[VRel]at f;obtain⟨h,p⟩:=f;obtain⟨B,C,r,h1,u,A⟩:=h.old (.inl rfl);rcases p with⟨_,E,_⟩|⟨a,base,o,cap,C2,e,q,hp,rfl,n,z,d⟩;·omega
  have h1:=h1.resolve_left (by simp);obtain⟨_,l,k,h1⟩:=h1;simp only[Value.slice.injEq,Zaa,Addr.mk.injEq]at h1;obtain⟨⟨rfl,rfl,_⟩,_,_⟩:=h1;obtain⟨y,_⟩:=d.resolve_left (by omega);refine⟨.pointer (some ⟨a,0,none⟩),Lib.run_unsafeSliceData_row _ _ _ _ _ _ (by omega),?_⟩;simp only[VRel];exact⟨.inl ⟨a,C,r,.inl rfl,u,.inl rfl⟩,a,base,hp,by simp;omega⟩
 cases hm
def bytesIn:List AV->Option (List UInt8)|[]=>some []|.int .u8 n::r=>if 0<=n/\n<256 then(bytesIn r).map (UInt8.ofNat n.toNat::·)else none|_=>none
theorem Qhl:∀{ys:List AV}{us:List Value}{s:List UInt8},bytesIn ys=some s->VRels c w ys us->us=s.map fun b=>Value.int .u8 b.toNat
 |[],us,s,d,f=>by simp_all[bytesIn,VRels]|y::ys,us,s,d,f=>by
  have h:∃n s2,y=.int .u8 n/\(0<=n/\n<256)/\bytesIn ys=some s2/\s=UInt8.ofNat n.toNat::s2:=by
   cases y<;>try(simp[bytesIn]at d;done)
   rename_i k n;cases k<;>try(simp[bytesIn]at d;done)
   simp only[bytesIn]at d;split at d;·rename_i g;cases a:bytesIn ys with|none=>simp[a]at d|some s2=>simp only[a,ZbC,Zaa]at d;exact⟨n,s2,rfl,g,rfl,d.symm⟩
   cases d
  obtain⟨n,s2,rfl,g,a,rfl⟩:=h;simp only[VRels]at f;obtain⟨v,l,rfl,h1,i⟩:=f;simp only[VRel]at h1;subst h1;rw[Qhl a i];simp only[ZaL,List.cons.injEq,Value.int.injEq,true_and,and_true];grind[UInt8.toNat_ofNat']
def aUstr(t:Nat)(x n:AV):HM AV:=match x,n with|.nilptr,.int .i64 0=>.ret (.str [])|.typed a _ (.ptr b g 0),.int .i64 n=>if a=t/\0<n/\n<=9223372036854775807 then .cells b g fun cs=>(match bytesIn (cs.take n.toNat)with|some s=>if s.length=n.toNat then .put b (.dead g) (.ret (.str s))else .fail|none=>.fail)else .fail|_,_=>.fail
def ustrT(P:Program)(a:TypeId)(t:Nat):Bool:=match P.underlying a with|some (.pointer e)=>e==t&&P.cellsOf e==1|_=>false
theorem QpB{R it}{t}{n}(H:HRel c h w)(E:VRel c w x Q)(B:VRel c w n T)(z:ustrT P R t=true)(hm:(aUstr t x n).run h=some (v,h')):Sound P c w (Builtin.unsafeString_ #[R,it] ty #[Q,T]) v h':=by
 unfold aUstr at hm;split at hm;·simp only[HM.run,Zaa,Zal]at hm;obtain⟨rfl,rfl⟩:=hm;simp only[VRel]at E B;subst E;subst B;refine .here H (Lib.run_unsafeString_none _ _ _ _ _) ?_;simp only[VRel];rfl
 ·rename_i t' k b g n;split at hm
  ·rename_i hc;obtain⟨rfl,h0,h63⟩:=hc;obtain⟨cs,M,hm⟩:=Qbg hm;split at hm
   ·rename_i s V;split at hm
    ·rename_i hl;obtain⟨u,hm⟩:=Qa2 hm;simp only[HM.run,Zaa,Zal]at hm;obtain⟨rfl,rfl⟩:=hm;simp only[VRel]at E B;subst B;obtain⟨N,Y,base,hp,F⟩:=E;obtain⟨d,C,G,h1,o,_⟩:=N.old (.inr ⟨_,F⟩);have h1:Q=.pointer (some ⟨d,0,none⟩):=by simp_all
     rw[h1]at F;simp only[Value.pointer.injEq,Zaa,Addr.mk.injEq,and_true]at F;obtain⟨rfl,f⟩:=F;have f:base=0:=by omega
     subst f;subst h1;obtain⟨C',e',fr',hO,A,hfr,hbs,i⟩:=H.here M hp;rw[o]at A;cases A;unfold ustrT at z;split at z
     ·rename_i e hu;simp only[Zab,beq_iff_eq]at z;obtain⟨rfl,O⟩:=z;have hlen:s.length<=cs.length:=by
       have :(cs.take n.toNat).length=s.length:=by
        have K:∀(r:List AV)(s:List UInt8),bytesIn r=some s->r.length=s.length:=by intro r;induction r with|nil=>intro s h;simp only[bytesIn,Zaa]at h;subst h;rfl|cons y r ih=>
         intro s h;cases y<;>try(simp[bytesIn]at h;done)
         rename_i k m;cases k<;>try(simp[bytesIn]at h;done)
         simp only[bytesIn]at h;split at h;·cases o:bytesIn r with|none=>simp[o]at h|some s2=>simp only[o,ZbC,Zaa]at h;subst h;simp[ih s2 o]
         cases h
        grind
       grind
      have I:=Qbn i;simp at I;have hrel:=Qhl V (by have:=QaK i 0 n.toNat (by omega);simpa using this);have S:s≠[]:=by grind
      have L:(n:Int)=(s.length:Int):=by omega
      have q:∀j x,s[j]?=some x->w.cell? ((⟨d,0,none⟩:Addr).add j)=some (.int .u8 x.toNat):=by
       intro j x X;have Z:j<s.length:=(Zaj.1 X).1;have h6:(List.take n.toNat (C.toList.drop 0))[j]?=some (.int .u8 x.toNat):=by grind
       grind[Addr.add,World.cell?]
      have l:=Lib.run_unsafeString_row (P:=P) (w:=w) R it ty e hu O d C.size (by simp[World.shape?,o]) s S (by omega) (by omega) q;rw[<-L]at l;have hlt:=Qbc o;have hw:(w.freeze ⟨d,0,none⟩ s.length).heap[d]?=some (.cells C e (if G.1==G.2 then(0,s.length)else(min G.1 0,max G.2 (s.length)))):=by grind[World.freeze]
      have J:∀k,k≠d->(w.freeze ⟨d,0,none⟩ s.length).heap[k]?=w.heap[k]?:=by grind[World.freeze]
      have hsz:(w.freeze ⟨d,0,none⟩ s.length).heap.size=w.heap.size:=by grind[World.freeze]
      have a:(w.freeze ⟨d,0,none⟩ s.length).os=w.os/\(w.freeze ⟨d,0,none⟩ s.length).tape=w.tape/\(w.freeze ⟨d,0,none⟩ s.length).output=w.output:=by simp only[World.freeze];grind
      have p:Live h b g:=⟨_,M,rfl,fun k=>by simp⟩;have:=H.put (w':=w.freeze ⟨d,0,none⟩ s.length) (cb:=d) (base:=0) (x:=.dead g) u (fun y hy=>H.later b _ M y hy) (.inr hp) (.inr ⟨g,0,p,hp⟩) a.1 a.2.1 a.2.2 (by omega) (by omega) (fun k _ hk=>J k hk) (fun C2 e2 fr2 U=>by grind) (fun _=>trivial);exact⟨_,_,_,l,this.1,this.2,by simp[VRel]⟩
     cases z
    grind[HM.run]
   grind[HM.run]
  grind[HM.run]
 grind[HM.run]
def aMapEnt(row:Bool)(ks:List LK)(zero x k:AV):HM AV:=if keyOK row ks k then match x with
 |.map b g=>.entries b g fun es=>match aFind row ks k es 0 with|some (some (i,v))=>.put b (.map g (es.set i (k,v))) (.ret (.tup [v,.int .i64 (.ofNat i)]))|some none=>.put b (.map g (es++[(k,zero)])) (.ret (.tup [zero,.int .i64 (.ofNat es.length)]))|none=>.fail
 |_=>.fail else .fail
def aEntSt(x s v:AV):HM AV:=match x,s with
 |.map b g,.int _ (.ofNat i)=>.entries b g fun es=>match es[i]? with|some p=>.put b (.map g (es.set i (p.1,v))) (.ret .any)|none=>.fail
 |_,_=>.fail
theorem Qgk(m:∀e,(f e).born=e.born){p}:∀{es:List (AV×AV)}{ms:List MapEntry}{clock:Nat}(i:Nat),MRel c w es ms clock->(∀e,ms[i]?=some e->VRel c w p.1 (f e).key/\VRel c w p.2 (f e).val)->MRel c w (es.set i p) (ms.modify i f) clock|[],ms,clock,i,hm,_=>by simp_all[MRel]|(n,x)::es,ms,clock,i,hm,hf=>by simp only[MRel]at hm;obtain⟨e,k,rfl,h1,d,b,g,a⟩:=hm;cases i with|zero=>obtain⟨l,h⟩:=hf e (by simp);obtain⟨q,o⟩:=p;simp only[ZbO,List.modify_zero_cons,MRel];exact⟨_,_,rfl,l,h,by simp_all,by simp_all,a⟩|succ i=>simp only[List.set_cons_succ,List.modify_succ_cons,MRel];exact⟨_,_,rfl,h1,d,b,by simpa using g,Qgk m i a (fun e he=>hf e (by simpa using he))⟩
theorem Qfz:∀{es:List (AV×AV)}{ms:List MapEntry}{clock:Nat}(i:Nat){e:MapEntry},MRel c w es ms clock->ms[i]?=some e->e.born+es.length=clock+i|[],ms,clock,i,e,hm,hi=>by simp_all[MRel]|(k,x)::es,ms,clock,i,e,hm,hi=>by simp only[MRel]at hm;obtain⟨h,a,rfl,h1,g,f,d,b⟩:=hm;cases i with|zero=>simp at hi;subst hi;simp;omega|succ i=>have:=Qfz i b (by simpa using hi);simp;omega
theorem Qkj:∀{es:List (AV×AV)}{ms:List MapEntry}{clock:Nat},MRel c w es ms clock->ms.length=es.length|[],ms,clock,hm=>by simp_all[MRel]|(k,x)::es,ms,clock,hm=>by simp only[MRel]at hm;obtain⟨h,a,rfl,h1,f,d,g,b⟩:=hm;simp[Qkj b]
theorem QlX{kt et}{row}{zero k r}{cx ck zv}(H:HRel c h w)(T:MapT P t row ks kt et)(hx:VRel c w x cx)(hkey:VRel c w k ck)(hi:P.info? et=some ti)(hz:ti.zero=some zv)(hc:cOK zero zv=true)(hm:(aMapEnt row ks zero x k).run h=some (r,h')):Sound P c w (Instr.mapEntry t cx ck) r h':=by
 unfold aMapEnt at hm;split at hm
 ·rename_i hok;have hck:=fun e=>Qev (P:=P) T hkey hok e;cases x<;>simp only at hm<;>try(cases hm;done)
  case map b g=>
   obtain⟨es,hb,hm⟩:=Qcw hm;simp only[VRel]at hx;obtain⟨cb,hp,rfl⟩:=hx;obtain⟨ms,clock,hO,hC,hR,hcl⟩:=H.atMap hb hp;split at hm;·rename_i i xo hf;obtain⟨hlim,hm⟩:=Qa2 hm;simp only[HM.run,Zaa,Zal]at hm;obtain⟨rfl,rfl⟩:=hm;obtain⟨r',h1,h2⟩:=QbL (P:=P) (w:=w) T hkey hR hf;cases r' with|none=>simp[FoundRel]at h2|some r'=>
    obtain⟨i',xv⟩:=r';simp only[FoundRel]at h2;obtain⟨rfl,hxv⟩:=h2;obtain⟨_,k',hk1,hk2⟩:=QhZ hf;simp only[Nat.sub_zero]at hk1;obtain⟨e,he,hke,hve⟩:=Qew i hR hk1;have hrow:row=true\/∃lk,ks=[lk]:=by cases hrw:row with|true=>exact .inl rfl|false=>have hkk:=T.hk;have hr:=T.hr;rw[hrw]at hr;have hl:=Qcm hkk hr;match ks,hl with|[lk],_=>exact .inr ⟨lk,rfl⟩
    obtain⟨hsame,hbits⟩:=QiB hk2 hkey hke hrow;have hkeep:(Instr.keyThatStays e.key ck).run P w=.ok ck w:=by simp_all[Instr.keyThatStays]
    have hborn:e.born=i:=by grind[Qfz]
    rw[ZaP]at he;obtain⟨c',E,H'⟩:=H.setMap hlim hb hp (es':=es.set i (k,xo)) (ms':=ms.modify i fun e=>{e with key:=ck}) (clock':=clock) (fun c' w' E=>by have :=Qgk (f:=fun e=>{e with key:=ck}) (fun _=>rfl) (p:=(k,xo)) i (MRel.mono (E.ext H.disj) _ _ _ hR) (fun e' he'=>by rw[ZaP,he]at he';cases he';exact⟨Zce (E.ext H.disj) _ _ hkey,Zce (E.ext H.disj) _ _ hve⟩);exact⟨by simp_all,by simpa using hcl⟩);refine⟨.tuple #[xv,goInt e.born],c',_,?_,E,H',?_⟩;·simp[Instr.mapEntry,run_underlying T.hu,QbV hC,hck,h1,he,hkeep,Qde hC]
    ·simp only[VRel];refine⟨_,rfl,?_⟩;simp only[VRels];exact⟨_,_,rfl,Zce (E.ext H.disj) _ _ hxv,_,_,rfl,by simp_all[VRel,goInt],rfl⟩
   ·rename_i hf;obtain⟨hlim,hm⟩:=Qa2 hm;simp only[HM.run,Zaa,Zal]at hm;obtain⟨rfl,rfl⟩:=hm;obtain⟨r',h1,h2⟩:=QbL (P:=P) (w:=w) T hkey hR hf;have:r'=none:=by grind[FoundRel]
    subst this;have hzr:∀{c':Ctx ok}{w':World},VRel c' w' zero zv:=Qei _ _ hc;obtain⟨c',E,H'⟩:=H.setMap hlim hb hp (es':=es++[(k,zero)]) (ms':=ms.push {key:=ck,val:=zv,born:=clock}) (clock':=clock+1) (fun c' w' E=>by have:=Qgi (Zce (E.ext H.disj) _ _ hkey) (hzr (c':=c') (w':=w')) (MRel.mono (E.ext H.disj) _ _ _ hR);exact⟨by simp_all,by simpa using hcl⟩);refine⟨.tuple #[zv,goInt clock],c',_,?_,E,H',?_⟩;·simp[Instr.mapEntry,run_underlying T.hu,QbV hC,hck,h1,Qde hC,zeroValue,typeInfo,hi,hz]
    ·simp only[VRel];refine⟨_,rfl,?_⟩;simp only[VRels];exact⟨_,_,rfl,hzr,_,_,rfl,by grind[VRel,goInt],rfl⟩
   grind[HM.run]
 grind[HM.run]
theorem Qqk{s r}(hm:(aEntSt x s v).run h=some (r,h')):r=.any:=by
 unfold aEntSt at hm;split at hm;·grind[Qcw,HM.run]
 grind[HM.run]
theorem QnY{s r}{u cs cv}(H:HRel c h w)(B:VRel c w x u)(C:VRel c w s cs)(F:VRel c w v cv)(hm:(aEntSt x s v).run h=some (r,h')):SoundU P c w (Instr.entryStore t u cs cv) h':=by
 unfold aEntSt at hm;split at hm
 ·rename_i b g M i;obtain⟨es,q,hm⟩:=Qcw hm;simp only[VRel]at B C;obtain⟨L,hp,rfl⟩:=B;subst C;obtain⟨ms,clock,N,y,k,n⟩:=H.atMap q hp;split at hm
  ·rename_i p m;obtain⟨d,hm⟩:=Qa2 hm;simp only[HM.run,Zaa,Zal]at hm;obtain⟨rfl,rfl⟩:=hm;obtain⟨e,he,l,I⟩:=Qew i k m;have hlen:=Qkj k;have G:i<ms.size:=by grind
   have o:∀(j:Nat)(z:j<ms.size),ms[j].born=j:=fun j z=>by have:=Qfz j k (e:=ms[j]) (by simp[z]);omega
   have a:ms.findIdx? (fun e=>(e.born:Int)==((i:Nat):Int))=some i:=by grind[Array.findIdx?_eq_some_iff_getElem]
   rw[ZaP]at he;obtain⟨A,E,H'⟩:=H.setMap d q hp (es':=es.set i (p.1,v)) (ms':=ms.modify i fun e=>{e with val:=cv}) (clock':=clock) (fun A K E=>by have :=Qgk (f:=fun e=>{e with val:=cv}) (fun _=>rfl) (p:=(p.1,v)) i (MRel.mono (E.ext H.disj) _ _ _ k) (fun J f=>by rw[ZaP,he]at f;cases f;exact⟨Zce (E.ext H.disj) _ _ l,Zce (E.ext H.disj) _ _ F⟩);exact⟨by simp_all,by simpa using n⟩);refine⟨A,_,?_,E,H'⟩;simp[Instr.entryStore,QbV y,asInt,asIntOf,a,Qde y]
  grind[HM.run]
 grind[HM.run]
def aAppendZ(s:Site)(i:Nat)(sz bytes:Nat)(zero:List AV)(x n:AV):HM AV:=match x,n with|.nilsl,.int .i64 (.ofNat (n+1))=>if(n+1)*bytes<=140737488355328/\n+1<=140737488355328/\0<sz then .new s i (fun g=>.cells g (List.replicate (n+1) zero).flatten) fun b g=>.ret (.sl b g 0 (n+1) sz)else .fail|_,_=>.fail
theorem Qh0{e}{i}(m:P.underlying t=some (.slice e))(f:P.underlying t2=some (.int p))(hi:P.info? e=some i)(q:i.zero=some z)(c:i.size≠0)(r:0<n)(s:n*i.bytes<=140737488355328)(k:n<=140737488355328):(Builtin.append_ #[t,t2] ty #[.slice none 0 0,.int .i64 n]).run P w=.ok (.slice (some ⟨w.heap.size,0,none⟩) n (grownCap w n 0 e)) (w.drew.alloc (.cells ((Builtin.zeroCells z.cells n).toList++(Builtin.zeroCells z.cells (grownCap w n 0 e-n)).toList).toArray e)):=by
 have l:¬(n<=0):=by omega
 have d:n≠0:=by omega
 have hw:IntKind.i64.wrap (n:Int)=n:=by rw[<-wr_eq];grind[wr_of,lo,AM.hi]
 have h:¬(n*i.size=0):=by have:=Nat.mul_pos r (Nat.pos_of_ne_zero c);omega
 have o:¬((n:Int)<0):=by omega
 have g:¬(281474976710656<(n:Int)*(i.bytes:Int)):=by omega
 have b:¬(9223372036854775807<(n:Int)):=by omega
 have a:¬(281474976710656<Builtin.nextslicecap n 0*i.bytes):=by simp_all[Qiz]
 simp only[Builtin.append_,ZaP,List.getElem?_toArray,Zbk,ZbH,Sem.run_bind,run_underlying m,run_underlying f,Result.andThen_ok,QaP hi,Sem.run_pure];simp[asInt,asIntOf,typeInfo,zeroValue,hi,q,l,hw,o,g,b,a,c,h,Question.forced,newRow,grownCap,Builtin.firstCells];rw[if_neg d];congr 3;simp_all
theorem QlL{e}{sz bytes}{zero}{n}{m}(H:HRel c h w)(E:VRel c w x A)(B:VRel c w n C)(K:P.underlying t=some (.slice e))(y:P.underlying t2=some (.int L))(hi:P.info? e=some m)(G:m.zero=some z)(p:m.size=sz)(q:m.bytes=bytes)(u:z.cells.size=sz)(hc:cOKs zero z.cells.toList=true)(hm:(aAppendZ s i sz bytes zero x n).run h=some (v,h')):Sound P c w (Builtin.append_ #[t,t2] ty #[A,C]) v h':=by
 subst p;subst q;unfold aAppendZ at hm;split at hm
 ·rename_i n;split at hm;·rename_i a;obtain⟨M,r,N⟩:=a;obtain⟨b,g,f,J,hm⟩:=Qdw hm;simp only[HM.run,Zaa,Zal]at hm;obtain⟨rfl,rfl⟩:=hm;simp only[VRel]at E B;subst E;subst B;have F:=Qh0 (P:=P) (w:=w) (ty:=ty) (n:=n+1) K y hi G (by omega) (by omega) M r;have k:VRels c w (List.replicate (n+1) zero).flatten (Builtin.zeroCells z.cells (n+1)).toList:=QcQ (c:=c) (w:=w) (Qcq _ _ hc) (n+1);have o:=QhY w (need:=n+1) (old:=0) e;obtain⟨I,E',H',V'⟩:=Qfy H f J (e:=e) (rest:=(Builtin.zeroCells z.cells (grownCap w (n+1) 0 e-(n+1))).toList) k (len:=n+1) (cap:=grownCap w (n+1) 0 e) (sz:=m.size) o (by have l:=QcM z.cells (grownCap w (n+1) 0 e-(n+1));have d:=QcM z.cells (n+1);rw[u]at l d;simp only[Zaf,Array.length_toList,l,d];rw[<-ZbQ];simp_all);exact⟨_,I,_,F,E',H',V'⟩
  grind[HM.run]
 grind[HM.run]
theorem onesI(b:VRels c w ys us)(f:ys.all AV.one=true):∀u∈us,u.oneCell'=true:=by
 intro u k;have i:=QaG b;obtain⟨j,m,rfl⟩:=Zb5.1 k;obtain⟨n,d,b⟩:=QcB j b (Zak (by omega:j<ys.length));rw[Zak m]at d;cases d;have h1:(ys[j]).one=true:=by simp_all
 have o:=Qdd (x:=ys[j]) b (by cases h:ys[j]<;>simp_all[AV.one,AV.cells]);have:(us[j]).cells=#[us[j]]\/∃a,us[j]=.agg a:=by cases us[j]<;>simp[Value.cells]
 rcases this with g|⟨a,g⟩;·simp_all
 rw[g]at b;exfalso;cases h:ys[j]<;>rw[h]at b h1<;>simp[AV.one]at h1<;>simp[VRel]at b;rcases b.1 with⟨_,_,_,l,_⟩|⟨_,_,_,_,l,_⟩<;>simp_all
def aClear(sz:Nat)(zero:List AV)(x:AV):HM AV:=match x with
 |.nilsl|.esl|.nsl=>.ret .any|.sl b g off len s=>match len with|0=>.ret .any|len+1=>if s=sz then .cells b g fun cs=>if off+(len+1)*sz<=cs.length/\zero.length=sz/\zero.all AV.one=true then .put b (.cells g (putR cs off (List.replicate (len+1) zero).flatten)) (.ret .any)else .fail else .fail
 |.typed _ (_+1) (.sl b g off (len+1) s)=>if s=sz then .cells b g fun cs=>if off+(len+1)*sz<=cs.length/\zero.length=sz/\zero.all AV.one=true then .put b (.cells g (putR cs off (List.replicate (len+1) zero).flatten)) (.ret .any)else .fail else .fail|_=>.fail
theorem Qkk{zero}(h:zero.all AV.one=true):∀n:Nat,((List.replicate n zero).flatten).all AV.one=true|0=>rfl|n+1=>by simp_all
theorem QnZ{e}{sz}{zero}(H:HRel c h w)(l:VRel c w x J)(r:P.underlying t=some (.slice e))(hi:P.info? e=some I)(S:I.zero=some z)(O:z.cells.size=sz)(hc:cOKs zero z.cells.toList=true)(hm:(aClear sz zero x).run h=some (v,h')):Sound P c w (Builtin.clear_ #[t] ty #[J]) v h':=by
 unfold aClear at hm;split at hm;·simp only[HM.run,Zaa,Zal]at hm;obtain⟨rfl,rfl⟩:=hm;simp only[VRel]at l;subst l;exact .here H (cv:=.tuple #[]) (by simp[Builtin.clear_,run_underlying r]) (by simp[VRel])
 ·simp only[HM.run,Zaa,Zal]at hm;obtain⟨rfl,rfl⟩:=hm;simp only[VRel]at l;obtain⟨a,rfl⟩:=l;exact .here H (cv:=.tuple #[]) (by cases a<;>simp[Builtin.clear_,run_underlying r]) (by simp[VRel])
 ·simp only[HM.run,Zaa,Zal]at hm;obtain⟨rfl,rfl⟩:=hm;simp only[VRel]at l;obtain⟨a,k,rfl⟩:=l;exact .here H (cv:=.tuple #[]) (by simp[Builtin.clear_,run_underlying r]) (by simp[VRel])
 ·rename_i b g off len s;split at hm
  ·simp only[HM.run,Zaa,Zal]at hm;obtain⟨rfl,rfl⟩:=hm;simp only[VRel]at l;rcases l with⟨_,_,_,rfl⟩|⟨L,base,o,cap,C,q,K,hp,rfl,_⟩;·exact .here H (cv:=.tuple #[]) (by simp[Builtin.clear_,run_underlying r]) (by simp[VRel])
   exact .here H (cv:=.tuple #[]) (by simp[Builtin.clear_,run_underlying r]) (by simp[VRel])
  rename_i len;split at hm
  ·rename_i y;subst y;obtain⟨cs,G,hm⟩:=Qbg hm;split at hm
   ·rename_i i;obtain⟨M,p,n⟩:=i;obtain⟨m,hm⟩:=Qa2 hm;simp only[HM.run,Zaa,Zal]at hm;obtain⟨rfl,rfl⟩:=hm;simp only[VRel]at l;exact bZHY7
   grind[HM.run]
  grind[HM.run]
 ·rename_i b g off len s;split at hm
  ·rename_i y;subst y;obtain⟨cs,G,hm⟩:=Qbg hm;split at hm
   ·rename_i i;obtain⟨M,p,n⟩:=i;obtain⟨m,hm⟩:=Qa2 hm;simp only[HM.run,Zaa,Zal]at hm;obtain⟨rfl,rfl⟩:=hm;simp only[VRel]at l;replace l:=l.2;exact bZHY7
   grind[HM.run]
  grind[HM.run]
 grind[HM.run]
end Go.AM
namespace Go.AM
variable{P:Program}{ok:Okc}{c:Ctx ok}{w:World}{h:Heap}
variable{v:AV}{f:AV->HM AV}{a:Act}{args:Array Value}{cl:Call}{m:HM AV}{h':Heap}{B:List Nat}{b i:Nat}{place:Nat->Option (Nat×Nat)}{o:Option AV}{y:Option Opd}{x:Option Operand}{s:Sem Value}{T:Tmps}{t ty:TypeId}{k:TypeInfo->Value->Bool}
inductive AOut where|val(v:AV)|call(m:CallM)(f:Nat)(args:List AV)|round(b g:Nat)(args:List AV)
variable{r:AOut×Heap}
def mapH(f:AV->HM AV):List AV->HM (List AV)|[]=>.ret []|x::xs=>(f x).bind fun y=>(mapH f xs).bind fun a=>.ret (y::a)
def frzH:Nat->AV->HM AV|0,v=>.ret v|d+1,v=>match v with|.sl b g off len sz=>.cells b g fun cs=>if off+len*sz<=cs.length then(mapH (frzH d) ((cs.drop off).take (len*sz))).bind fun a=>.ret (.fsl a len sz)else .fail|.ptr b g off=>.cells b g fun cs=>(mapH (frzH d) (cs.drop off)).bind fun a=>.ret (.fptr a)|.agg cs=>(mapH (frzH d) cs).bind fun a=>.ret (.agg a)|.tup cs=>(mapH (frzH d) cs).bind fun a=>.ret (.tup a)|v=>.ret v
mutual def noRef:AV->Bool|.ptr ..|.sl ..|.map ..|.yld ..|.typed ..=>false|.agg cs|.tup cs|.fptr cs|.fsl cs _ _=>noRefs cs|.fmap ks vs=>noRefs ks&&noRefs vs|.fn _ x y=>noRefs x&&noRefs y|.ifc _ v=>noRef v|.any|.bool _|.int _ _|.str _|.nilptr|.nilsl|.esl|.nsl|.nilmap|.nilfn|.nilif=>true termination_by structural x=>x def noRefs:List AV->Bool|[]=>true|x::xs=>noRef x&&noRefs xs termination_by structural x=>x end
def hasB:List Nat->Nat->Bool|[],_=>false|x::xs,b=>bif Nat.beq x b then true else hasB xs b
theorem Qdz:hasB B b=true↔b∈B:=by induction B with|nil=>simp[hasB]|cons x xs a=>
 simp only[hasB];by_cases e:x=b;·subst e;simp
 have :Nat.beq x b=false:=by simp_all[ZaJ]
 grind
mutual def inB(B:List Nat):AV->Bool|.ptr b _ _=>hasB B b|.sl b _ _ _ _=>hasB B b|.map b _=>hasB B b|.yld b _=>hasB B b|.agg cs|.tup cs|.fptr cs|.fsl cs _ _=>inBs B cs|.fmap ks vs=>inBs B ks&&inBs B vs|.fn _ x y=>inBs B x&&inBs B y|.ifc _ v=>inB B v|.typed _ _ v=>inB B v|.any|.bool _|.int _ _|.str _|.nilptr|.nilsl|.esl|.nsl|.nilmap|.nilfn|.nilif=>true termination_by structural x=>x def inBs(B:List Nat):List AV->Bool|[]=>true|x::xs=>inB B x&&inBs B xs termination_by structural x=>x end
def inBe(B:List Nat):List (AV×AV)->Bool|[]=>true|p::r=>inB B p.1&&inB B p.2&&inBe B r
mutual def flatV:AV->Bool|.ptr ..|.sl ..|.map ..|.yld ..|.fptr _|.fsl ..|.fmap ..|.typed ..=>false|.agg cs|.tup cs=>flatVs cs|.fn _ x y=>flatVs x&&flatVs y|.ifc _ v=>flatV v|.any|.bool _|.int _ _|.str _|.nilptr|.nilsl|.esl|.nsl|.nilmap|.nilfn|.nilif=>true termination_by structural x=>x def flatVs:List AV->Bool|[]=>true|x::xs=>flatV x&&flatVs xs termination_by structural x=>x end
def lift(r:Option AV):HM AOut:=match r with|some v=>.ret (.val v)|none=>.fail
def hval(m:HM AV):HM AOut:=m.bind fun v=>.ret (.val v)
def aPick(c a b:AV):Option AV:=match c with|.bool t=>some (if t then a else b)|_=>none
def aNil(x:AV):Option AV:=match x with|.ptr ..|.fptr _|.fn ..|.ifc ..|.typed ..=>some x|_=>none
def aSliceC(sz:Option Nat)(x:AV)(l h m:Option AV):Option AV:=match sz,x with|some n,.sl _ _ _ _ s=>if s=n then aSlice x l h m else none|some n,.fsl _ _ s=>if s=n then aSlice x l h m else none|some _,.nilsl=>aSlice x l h m|some _,.esl=>aSlice x l h m|none,.str _=>aSlice x l h m|_,_=>none
def aLenC(k:Nat)(x:AV):HM AV:=if lenKind x=k then aLen x else .fail
def evs(T:Tmps)(xs:List Opd):List AV:=xs.map (ev T)
def evParts(T:Tmps)(xs:List (Nat×Nat×Opd)):List (Nat×Nat×AV):=xs.map fun p=>(p.1,p.2.1,ev T p.2.2)
def evo(T:Tmps)(x:Option Opd):Option AV:=x.map (ev T)
def aCall(m:CallM)(x:AV)(args:List AV):HM AOut:=match x with
 |.fn f first captured=>match m with|.borrow=>(mapH (frzH 4) (first++args++captured)).bind fun a=>.ret (.call .borrow f a)|m=>.ret (.call m f (first++args++captured))
 |.yld b g=>match m with|.heap=>.ret (.round b g args)|_=>.fail
 |_=>.fail
def aop(i:Nat)(T:Tmps):SOp->HM AOut|.mov x=>.ret (.val (ev T x))|.pick c a b=>lift (aPick (ev T c) (ev T a) (ev T b))|.alloc s z=>hval (aBox s i z)|.allocT t s z=>hval (aBoxT t s i z)|.box s x=>hval (aBox s i (ev T x))|.build zero parts=>lift (aBuild zero (evParts T parts))|.bslice fz s sz len zero parts=>hval (aBuildSlice fz s i sz len zero (evParts T parts))|.load n x=>hval (aLoad n (ev T x))|.store n x v=>hval (aStore n (ev T x) (ev T v))|.nilchk x=>lift (aNil (ev T x))|.bin op x y=>lift (aBin op (ev T x) (ev T y))|.eq k neg x y=>lift (aEq k neg (ev T x) (ev T y))|.eqn neg x=>hval (aEqN neg (ev T x))|.cap x=>lift (aCap (ev T x))|.ment row ks zero x k=>hval (aMapEnt row ks zero (ev T x) (ev T k))|.estore x s v=>hval (aEntSt (ev T x) (ev T s) (ev T v))|.clear sz _ zero x=>hval (aClear sz zero (ev T x))|.appendZ s sz bytes zero x n=>hval (aAppendZ s i sz bytes zero (ev T x) (ev T n))|.eqp neg x y=>lift (aEqP neg (ev T x) (ev T y))|.convP t n x=>lift (aConvP t n (ev T x))|.usd x=>lift (aUsd (ev T x))|.ustr t x n=>hval (aUstr t (ev T x) (ev T n))|.un op x=>lift (aUn op (ev T x))|.conv k x=>lift (aConv k (ev T x))|.convS x=>lift (aConvS (ev T x))|.convB x=>hval (aConvB (ev T x))|.ext k _ args=>lift (aExt k (evs T args))|.mkfn f xs d=>.ret (.val (.fn f (evs T xs) (evs T d)))|.mkmap s=>hval (aMakeMap s i)|.mkslice s sz bytes zero l c=>hval (aMakeSlice s i sz bytes zero (ev T l) (ev T c))|.slice sz x l h m=>lift (aSliceC sz (ev T x) (evo T l) (evo T h) (evo T m))|.sliceK sz x l h=>lift (aSliceK sz (ev T x) (evo T l) (evo T h))|.faddr off x=>lift (aFAddr off (ev T x))|.field n off x=>lift (aField n off (ev T x))|.iaddr arr sz x j=>lift (aIAddr arr sz (ev T x) (ev T j))|.index arr x j=>lift (aIndex arr (ev T x) (ev T j))|.lookup row ks zero ok x k=>hval (aLookup row ks zero ok (ev T x) (ev T k))|.mupd row ks x k v=>hval (aMapUpd row ks (ev T x) (ev T k) (ev T v))|.extract j x=>lift (aExtract j (ev T x))|.len k x=>hval (aLenC k (ev T x))|.append s sz bytes x y=>hval (aAppend s i sz bytes (ev T x) (ev T y))|.appendT t s sz bytes x y=>hval (aAppendT t s i sz bytes (ev T x) (ev T y))|.copy sz x y=>hval (aCopy sz (ev T x) (ev T y))|.maxmin mn xs=>lift (aMax mn (evs T xs))|.call m x args=>aCall m (ev T x) (evs T args)|.bad=>.fail
def okOpd:Operand->Opd->Bool|.tmp t,.t i=>t==i|.const v,.c x=>cOK x v|.func f,.f n=>f==n|.global g,.g n=>g==n|_,_=>false
def okOpds:List Operand->List Opd->Bool|[],[]=>true|x::xs,y::a=>okOpd x y&&okOpds xs a|_,_=>false
def okOpdo:Option Operand->Option Opd->Bool|none,none=>true|some x,some y=>okOpd x y|_,_=>false
def okParts(place:Nat->Option (Nat×Nat)):List (Nat×Operand)->List (Nat×Nat×Opd)->Bool|[],[]=>true|(i,x)::xs,(off,size,y)::a=>(match place i with|some (o,s)=>o==off&&s==size|none=>false)&&okOpd x y&&okParts place xs a|_,_=>false
def LK.same:LK->LK->Bool|.b,.b|.i,.i|.s,.s=>true|_,_=>false
variable{ks:List LK}
def LK.sames:List LK->List LK->Bool|[],[]=>true|x::xs,y::a=>x.same y&&LK.sames xs a|_,_=>false
def mapTB(P:Program)(t:TypeId)(row:Bool)(ks:List LK):Bool:=match P.underlying t with|some (.map b _)=>rowB P b==row&&(match flatK P 40 b with|some a=>LK.sames ks a|none=>false)|_=>false
def mapElemZero(P:Program)(t:TypeId)(zero:AV):Bool:=match P.underlying t with|some (.map _ a)=>(match zeroOf P a with|some b=>cOK zero b|none=>false)|_=>false
def buildTB(P:Program)(t:TypeId):Bool:=match P.underlying t with|some (.array _ e)=>(P.info? e).isSome|some (.struct fields)=>(fields.toList.mapM (fun f=>(P.info? f.type).map fun i=>(f.offset,i.size))).isSome|_=>false
def elemTB(P:Program)(t:TypeId)(sz bytes:Nat)(k:TypeInfo->Value->Bool):Bool:=match P.underlying t with|some (.slice e)=>(match P.info? e with|some a=>a.size==sz&&a.bytes==bytes&&(match a.zero with|some z=>k a z|none=>false)|none=>false)|_=>false
def notInt(P:Program)(t:TypeId):Bool:=match P.underlying t with|some (.int _)|none=>false|_=>true
def isConstO:Operand->Bool|.const _=>true|_=>false
def okCall(P:Program)(c:Call)(s:SOp):Bool:=match c.callee,s with|.value f,.call _ x args=>okOpd f x&&okOpds c.args.toList args|.builtin .len,.len k x=>(match c.args.toList,c.argTypes.toList with|[y],[t]=>okOpd y x&&lenT P t k|_,_=>false)|.builtin .cap,.cap x=>(match c.args.toList,c.argTypes.toList with|[y],[t]=>okOpd y x&&capT P t|_,_=>false)|.builtin .append,.append _ sz bytes x y=>(match c.args.toList,c.argTypes.toList with|[a,b],[t,d]=>okOpd a x&&okOpd b y&&notInt P d&&elemTB P t sz bytes (fun h z=>z.cells.size==sz)|_,_=>false)|.builtin .append,.appendT e _ sz bytes x y=>(match c.args.toList,c.argTypes.toList with|[a,b],[t,d]=>okOpd a x&&okOpd b y&&notInt P d&&elemTB P t sz bytes (fun h z=>z.cells.size==sz)&&(match P.underlying t with|some (.slice i)=>i==e|_=>false)|_,_=>false)|.builtin .append,.appendZ _ sz bytes zero x y=>(match c.args.toList,c.argTypes.toList with|[a,b],[t,d]=>okOpd a x&&okOpd b y&&(match P.underlying d with|some (.int _)=>true|_=>false)&&elemTB P t sz bytes (fun h z=>z.cells.size==sz&&cOKs zero z.cells.toList)|_,_=>false)|.builtin .clear,.clear sz bytes zero x=>(match c.args.toList,c.argTypes.toList with|[a],[t]=>okOpd a x&&elemTB P t sz bytes (fun h z=>z.cells.size==sz&&cOKs zero z.cells.toList)|_,_=>false)|.builtin .unsafeSliceData,.usd x=>(match c.args.toList with|[y]=>okOpd y x|_=>false)|.builtin .unsafeString,.ustr t x n=>(match c.args.toList,c.argTypes.toList with|[a,m],[l,_]=>okOpd a x&&okOpd m n&&ustrT P l t|_,_=>false)|.builtin .copy,.copy sz x y=>(match c.args.toList,c.argTypes.toList with|[a,b],[t,_]=>okOpd a x&&okOpd b y&&(match P.underlying t with|some (.slice e)=>(match P.info? e with|some h=>h.size==sz|none=>false)|_=>false)|_,_=>false)|.builtin .max,.maxmin false xs=>okOpds c.args.toList xs|.builtin .min,.maxmin true xs=>okOpds c.args.toList xs|.value (.func g),.ext k f xs=>g==f&&extFn P f k&&okOpds c.args.toList xs|_,_=>false
def okOp(P:Program)(o:Op)(s:SOp):Bool:=match o,s with|.move x,.mov y=>okOpd x y|.assign x,.mov y=>okOpd x y|.pick c a b,.pick C K L=>okOpd c C&&okOpd a K&&okOpd b L|.alloc t,.alloc _ z=>(match zeroOf P t with|some w=>cOK z w|none=>false)|.alloc t,.allocT Q _ z=>t==Q&&(match zeroOf P t with|some w=>cOK z w|none=>false)|.box _ x,.box _ y=>okOpd x y|.build t parts,.build zero H=>(match zeroOf P t with|some w=>cOKs zero w.cells.toList|none=>false)&&buildTB P t&&okParts (placeOf P t) parts.toList H|.buildSlice t len parts,.bslice _ _ sz A zero H=>len==A&&decide (len*sz<=16777216)&&(match P.underlying t with|some (.slice e)=>(match P.info? e with|some E=>E.size==sz&&(match E.zero with|some z=>cOKs zero (zeroRow z.cells (len*sz)).toList|none=>false)|none=>false)|_=>false)&&okParts (fun i=>some (i*sz,sz)) parts.toList H|.load t x,.load n y=>rowT P t n&&okOpd x y|.store t x v,.store n d r=>(match P.info? t with|some i=>i.size==n|none=>false)&&okOpd x d&&okOpd v r|.nilCheck x,.nilchk y=>okOpd x y|.binOp op _ x y _,.bin q d u=>op==q&&okOpd x d&&okOpd y u|.binOp op t x y _,.eq k neg d u=>op==(if neg then .neq else .eql)&&eqT P t k&&okOpd x d&&okOpd y u&&(match k with|.nil _=>isConstO y|_=>true)|.binOp op t x y _,.eqn neg d=>op==(if neg then .neq else .eql)&&eqT P t (.nil 2)&&okOpd x d&&isConstO y&&okOpd y (.c .nilsl)|.binOp op t x y _,.eqp neg d u=>op==(if neg then .neq else .eql)&&eqPT P t&&okOpd x d&&okOpd y u|.unOp op _ x,.un q y=>op==q&&okOpd x y|.convert src dst x,.conv k y=>convT P src dst k&&okOpd x y|.convert src dst x,.convS y=>convST P src dst&&okOpd x y|.convert src dst x,.convB y=>convBT P src dst&&okOpd x y|.convert src dst x,.convP t n y=>convPT P src dst t n&&okOpd x y|.makeFunc (.func f) first captured,.mkfn J xs O=>f==J&&okOpds first.toList xs&&okOpds captured.toList O|.makeMap _ none,.mkmap _=>true|.makeSlice t l c,.mkslice _ sz bytes zero B C=>okOpd l B&&okOpd c C&&elemTB P t sz bytes (fun E z=>z.cells.size==sz&&cOKs zero z.cells.toList)|.slice t x l h m,.slice sz d B F g=>sliceT P t sz&&okOpd x d&&okOpdo l B&&okOpdo h F&&okOpdo m g|.slice t x l h none,.sliceK sz d B F=>sliceT P t (some sz)&&okOpd x d&&okOpdo l B&&okOpdo h F|.fieldAddr s x f,.faddr off y=>faddrT P s f off&&okOpd x y|.field s x f,.field n off y=>fieldT P s f off n&&okOpd x y|.indexAddr t x i,.iaddr arr sz d I=>iaddrT P t arr sz&&okOpd x d&&okOpd i I|.index t x i,.index arr d I=>indexT P t arr&&okOpd x d&&okOpd i I|.lookup t x k ok,.lookup row ks zero G d p=>mapTB P t row ks&&mapElemZero P t zero&&ok==G&&okOpd x d&&okOpd k p|.mapEntry t m k,.ment row ks zero g p=>mapTB P t row ks&&mapElemZero P t zero&&okOpd m g&&okOpd k p|.entryStore _ m s v,.estore g N r=>okOpd m g&&okOpd s N&&okOpd v r|.mapUpdate t m k v,.mupd row ks g p r=>mapTB P t row ks&&okOpd m g&&okOpd k p&&okOpd v r|.insert t m k v,.mupd row ks g p r=>mapTB P t row ks&&okOpd m g&&okOpd k p&&okOpd v r|.extract x i,.extract j y=>i==j&&okOpd x y|_,.bad=>true|.call M,s=>okCall P M s|_,_=>false
theorem run_bind{α β}{m:HM α}{f}{r:β×Heap}(hm:(m.bind f).run h=some r):∃a h1,m.run h=some (a,h1)/\(f a).run h1=some r:=by induction m generalizing h with|ret a=>exact⟨a,h,rfl,hm⟩|fail=>simp[HM.bind,HM.run]at hm|look b k c=>simp only[HM.bind,HM.run]at hm;obtain⟨a,h1,g,d⟩:=c _ hm;exact⟨a,h1,by grind[HM.run],d⟩|put b x k c=>
 simp only[HM.bind]at hm;obtain⟨i,hm⟩:=Qa2 hm;obtain⟨a,h1,g,d⟩:=c hm;refine⟨a,h1,?_,d⟩;simp only[HM.run];have:Nat.blt b lim=true:=by simp_all
 rw[this];exact g
theorem QaS(hm:(hval m).run h=some r):∃v h1,m.run h=some (v,h1)/\r=(.val v,h1):=by obtain⟨v,h1,a,b⟩:=run_bind hm;grind[HM.run]
theorem QaV(hm:(lift o).run h=some r):∃v,o=some v/\r=(.val v,h):=by unfold lift at hm;cases o with|none=>simp[HM.run]at hm|some v=>simp only[HM.run,Zaa]at hm;exact⟨v,rfl,hm.symm⟩
def lent(c:Ctx ok):Ctx ok:={c with F:=fun k=>c.F k\/c.O k,O:=fun _=>False}
theorem Qh1(c:Ctx ok)(w):Ext c w (lent c) w:=⟨fun _ _ _ h=>h,fun _ h=>.inl h,fun _ _ _ h=>h,fun _ C _ a h=>⟨C,a,h,rfl⟩⟩
theorem Qdf(hf:∀(x y:AV)(v:Value)(h':Heap),VRel c w x v->(f x).run h=some (y,h')->h'=h/\VRel (lent c) w y v):∀(xs ys:List AV)(vs:List Value)(h':Heap),VRels c w xs vs->(mapH f xs).run h=some (ys,h')->h'=h/\VRels (lent c) w ys vs|[],ys,vs,h',d,hm=>by simp only[mapH,HM.run,Zaa,Zal]at hm;obtain⟨rfl,rfl⟩:=hm;simp_all[VRels]|x::xs,ys,vs,h',d,hm=>by simp only[mapH]at hm;obtain⟨y,h1,o,m⟩:=run_bind hm;obtain⟨a,p,i,g⟩:=run_bind m;simp only[VRels]at d;obtain⟨v,b,rfl,k,n⟩:=d;obtain⟨l,q⟩:=hf x y v h1 k o;rw[l]at i;obtain⟨r,s⟩:=Qdf hf xs a b p n i;simp only[HM.run,Zaa,Zal]at g;obtain⟨rfl,rfl⟩:=g;simp only[VRels];grind
theorem Qex(hf:∀(x y:AV)(v:Value)(h':Heap),VRel c w x v->(f x).run h=some (y,h')->h'=h/\VRel (lent c) w y v):∀(xs ys:List AV)(vs:List Value)(h':Heap),VPre c w xs vs->(mapH f xs).run h=some (ys,h')->h'=h/\VPre (lent c) w ys vs|[],ys,vs,h',d,hm=>by simp only[mapH,HM.run,Zaa,Zal]at hm;obtain⟨rfl,rfl⟩:=hm;simp[VPre]|x::xs,ys,vs,h',d,hm=>by simp only[mapH]at hm;obtain⟨y,h1,o,m⟩:=run_bind hm;obtain⟨a,p,i,g⟩:=run_bind m;simp only[VPre]at d;obtain⟨v,b,rfl,k,n⟩:=d;obtain⟨l,q⟩:=hf x y v h1 k o;rw[l]at i;obtain⟨r,s⟩:=Qex hf xs a b p n i;simp only[HM.run,Zaa,Zal]at g;obtain⟨rfl,rfl⟩:=g;simp only[VPre];grind
theorem Qhm:∀(xs ys:List AV)(h h':Heap),(mapH f xs).run h=some (ys,h')->ys.length=xs.length|[],ys,h,h',hm=>by simp only[mapH,HM.run,Zaa,Zal]at hm;simp_all|x::xs,ys,h,h',hm=>by simp only[mapH]at hm;obtain⟨y,h1,i,c⟩:=run_bind hm;obtain⟨a,g,d,b⟩:=run_bind c;simp only[HM.run,Zaa,Zal]at b;obtain⟨rfl,rfl⟩:=b;simp[Qhm xs a _ _ d]
theorem QeX(H:HRel c h w):∀(d:Nat)(x y:AV)(v:Value)(h':Heap),VRel c w x v->(frzH d x).run h=some (y,h')->h'=h/\VRel (lent c) w y v
 |0,x,y,v,h',a,hm=>by simp only[frzH,HM.run,Zaa,Zal]at hm;obtain⟨rfl,rfl⟩:=hm;exact⟨rfl,Zce (Qh1 c w) _ _ a⟩|d+1,x,y,v,h',a,hm=>by
  have p:=QeX H d;have same:(HM.ret x).run h=some (y,h')->h'=h/\VRel (lent c) w y v:=by intro hm;simp only[HM.run,Zaa,Zal]at hm;obtain⟨rfl,rfl⟩:=hm;exact⟨rfl,Zce (Qh1 c w) _ _ a⟩
  cases x<;>simp only[frzH]at hm<;>try(exact same hm)
  case sl b g off len sz=>
   obtain⟨cs,F,hm⟩:=Qbg hm;split at hm
   ·rename_i N;obtain⟨k,h1,n,l⟩:=run_bind hm;simp only[HM.run,Zaa,Zal]at l;obtain⟨rfl,rfl⟩:=l;have hlen:=Qhm _ _ _ _ n;simp only[VRel]at a;rcases a with⟨hp,rfl,rfl,rfl⟩|⟨G,base,o,cap,C,e,B,hp,rfl,A,t,s⟩
    ·have f:k=[]:=by simp_all
     subst f;obtain⟨rfl,_⟩:=Qex p _ _ [] _ (by simp[VPre]) n;exact⟨rfl,by simp_all[VRel]⟩
    obtain⟨C',O,J,I,q,E,u,m⟩:=H.here F hp;rw[t]at q;cases q;by_cases M:cap=0
    ·have z:len=0:=by omega
     subst z;have f:k=[]:=by simp_all
     subst f;obtain⟨rfl,_⟩:=Qex p _ _ [] _ (by simp[VPre]) n;refine⟨rfl,?_⟩;simp only[VRel];simp_all
    obtain⟨rfl,K⟩:=s.resolve_left M;have i:=Qcl (len*sz) (Qbj off m);rw[ZaT]at i;obtain⟨rfl,r⟩:=Qex p _ _ _ _ i n;refine⟨rfl,?_⟩;simp only[VRel];exact .inr ⟨G,base+off,cap,C,e,B,rfl,A,by grind,.inr I,t,r⟩
   grind[HM.run]
  case ptr b g off=>obtain⟨cs,F,hm⟩:=Qbg hm;obtain⟨k,h1,n,l⟩:=run_bind hm;simp only[HM.run,Zaa,Zal]at l;obtain⟨rfl,rfl⟩:=l;simp only[VRel]at a;obtain⟨G,base,hp,rfl⟩:=a;obtain⟨C,e,B,I,t,E,u,m⟩:=H.here F hp;have i:=Qbj off m;rw[ZaT]at i;obtain⟨rfl,r⟩:=Qex p _ _ _ _ i n;refine⟨rfl,?_⟩;simp only[VRel];exact⟨G,base+off,C,e,B,rfl,.inr I,t,r⟩
  case agg cs=>obtain⟨k,h1,n,l⟩:=run_bind hm;simp only[HM.run,Zaa,Zal]at l;obtain⟨rfl,rfl⟩:=l;simp only[VRel]at a;obtain⟨L,rfl,a⟩:=a;obtain⟨rfl,r⟩:=Qdf p _ _ _ _ a n;exact⟨rfl,by simp only[VRel];simp_all⟩
  case tup cs=>obtain⟨k,h1,n,l⟩:=run_bind hm;simp only[HM.run,Zaa,Zal]at l;obtain⟨rfl,rfl⟩:=l;simp only[VRel]at a;obtain⟨L,rfl,a⟩:=a;obtain⟨rfl,r⟩:=Qdf p _ _ _ _ a n;exact⟨rfl,by simp only[VRel];simp_all⟩
def TRel(c:Ctx ok)(w:World)(T:Tmps)(a:Act):Prop:=∀i,VRel c w (lk T i) (a.tmps.getD i undef)
theorem Qat(d:TRel c w T a){x}{y}(b:okOpd x y=true):VRel c w (ev T y) (a.eval x):=by
 cases x<;>cases y<;>simp only[okOpd,Zar,beq_iff_eq]at b;·subst b;exact d _
 ·exact Qei _ _ b
 ·simp[ev,VRel]
 subst b;simp only[ev,VRel,Act.eval];exact⟨#[],#[],rfl,by simp[VRels],by simp[VRels]⟩
theorem Qcs(d:TRel c w T a):∀{xs:List Operand}{ys:List Opd},okOpds xs ys=true->VRels c w (evs T ys) (xs.map a.eval)|[],[],_=>by simp[evs,VRels]|[],_::_,b=>by simp[okOpds]at b|_::_,[],b=>by simp[okOpds]at b|x::xs,y::ys,b=>by simp only[okOpds,Zab]at b;simp only[evs,ZaL,VRels];exact⟨_,_,rfl,Qat d b.1,Qcs d b.2⟩
theorem Qdg(d:TRel c w T a)(b:okOpdo x y=true):ORel c w (evo T y) (x.map a.eval):=by
 cases x<;>cases y<;>simp only[okOpdo,Zar]at b;·simp[evo,ORel]
 exact Qat d b
theorem Qe8(d:TRel c w T a):∀{xs:List (Nat×Operand)}{ys:List (Nat×Nat×Opd)},okParts place xs ys=true->PartsRel c w place (evParts T ys) (xs.map fun p=>(p.1,a.eval p.2))|[],[],_=>by simp[evParts,PartsRel]|[],_::_,b=>by simp[okParts]at b|_::_,[],b=>by simp[okParts]at b|(i,x)::xs,(off,size,y)::ys,b=>by simp only[okParts,Zab]at b;obtain⟨⟨h1,g⟩,f⟩:=b;simp only[evParts,ZaL,PartsRel];refine⟨_,_,_,rfl,?_,Qat d g,Qe8 d f⟩;grind
def Callable(P:Program)(f:Nat):Prop:=∃fn,P.funcs[f]?=some fn/\fn.body.isSome=true/\(fn.name== "runtime.NumGoroutine")=false
def Done(P:Program)(c:Ctx ok)(h:Heap)(w:World)(s:Sem Next):AOut->Heap->Prop|.val v,d=>∃k n l i,s.run P w=.ok k i/\(k=.value n\/k=.skip/\n=undef)/\Evo c w l i/\HRel l d i/\VRel l i v n|.call m f args,d=>d=h/\∃a:Array Value,(Callable P f->s.run P w=.ok (.enter f a) w)/\(m≠.borrow->VRels c w args a.toList)/\(m=.borrow->VRels (lent c) w args a.toList)|.round b g args,d=>d=h/\∃(o:Nat)(a:Array Value),c.ρ b g=some (.loc o 0)/\VRels c w args a.toList/\s.run P w=(Instr.yield o a).run P w
theorem Done.ofSound(d:Sound P c w s v h'):Done P c h w (do pure (.value (<-s))) (.val v) h':=by obtain⟨a,f,k,h1,i,b,g⟩:=d;exact⟨.value a,a,f,k,by simp[h1],.inl rfl,i,b,g⟩
theorem Done.ofPure(H:HRel c h w)(a:Pure P c w s v):Done P c h w (do pure (.value (<-s))) (.val v) h:=.ofSound (a.sound H)
theorem Done.ofU{s}(i:SoundU P c w s h')(d:v=.any):Done P c h w (do s;pure .skip) (.val v) h':=by obtain⟨b,f,h1,a,g⟩:=i;subst d;exact⟨.skip,undef,b,f,by simp[h1],.inr ⟨rfl,rfl⟩,a,g,by simp[VRel]⟩
theorem Qtz{k a}(b:LK.same k a=true):k=a:=by cases k<;>cases a<;>simp[LK.same]at b<;>rfl
theorem QlY:∀{ks ks':List LK},LK.sames ks ks'=true->ks=ks'|[],[],_=>rfl|[],_::_,hh=>by simp[LK.sames]at hh|_::_,[],hh=>by simp[LK.sames]at hh|k::ks,k'::ks',hh=>by simp only[LK.sames,Zab]at hh;rw[Qtz hh.1,QlY hh.2]
theorem QfA{row}(a:mapTB P t row ks=true):∃c b,MapT P t row ks c b:=by
 unfold mapTB at a;split at a
 ·rename_i c b g;simp only[Zab,beq_iff_eq]at a;obtain⟨h1,d⟩:=a;split at d;·rename_i f h;exact⟨c,b,g,by rw[h,QlY d],h1⟩
  cases d
 cases a
theorem QdR{a}(b:zeroOf P t=some a):∃i,P.info? t=some i/\i.zero=some a:=by unfold zeroOf at b;cases hi:P.info? t with|none=>simp[hi]at b|some i=>exact⟨i,rfl,by simp_all⟩
theorem QdV{sz bytes}(b:elemTB P t sz bytes k=true):∃e a z,P.underlying t=some (.slice e)/\P.info? e=some a/\a.size=sz/\a.bytes=bytes/\a.zero=some z/\k a z=true:=by grind[elemTB]
theorem Qql{x:AV}{a:Value}(b:VRel c w x a)(hm:aNil x=some v):(match a with
 |.pointer none|.nilIface|.nilFunc=>(runtimePanic .nilDeref:Sem Next)|.func (.method name) first captured=>
  match(first[0]?:Option Value)with|some .nilIface=>runtimePanic .nilDeref|some (.iface t w)=>do
   if(<-nilAhead ((<-program).types.size+Made.depth) t w name)!=some false then unsupported (.noEntry "op/nilCheck.the method's receiver behind this interface value is a nil pointer, or cannot be seen to be none, and the arguments act or may panic (ledger 612)")
   pure (.value (.func (.method name) first captured))|_=>pure (.value (.func (.method name) first captured))
 |x=>pure (.value x))=pure (.value a)/\v=x:=by
 unfold aNil at hm;split at hm<;>first|(cases hm;done)|(cases hm;simp only[VRel]at b)
 ·grind
 ·grind
 ·grind
 ·grind
 rcases b.1 with⟨_,_,_,h1|⟨_,_,_,h1⟩,_⟩|⟨_,_,_,_,h1,_⟩<;>(subst h1;exact⟨rfl,rfl⟩)
theorem Qgl{f}(hc:Callable P f)(w):(callFunc f args).run P w=.ok (.enter f args) w:=by
 obtain⟨fn,h1,c,b⟩:=hc;have a:fn.body.isNone=false:=by simp_all
 simp only[callFunc,Sem.run_bind,run_program,Result.andThen_ok,h1,b,a,Zar,if_false,Sem.run_pure]
theorem Qn0{x}{args}{r}{a}{m}{out}(H:HRel c h w)(l:VRel c w x r)(y:VRels c w args a.toList)(hm:(aCall m x args).run h=some (out,h')):Done P c h w (do let d<-Deferred.ofValue r a;invoke d.target d.args) out h':=by
 cases x<;>simp only[aCall]at hm<;>try(cases hm;done)
 rotate_left;·rename_i b g;simp only[VRel]at l;obtain⟨z,h1,rfl⟩:=l;cases m<;>simp only[HM.run,Zaa,Zal,reduceCtorEq]at hm;obtain⟨rfl,rfl⟩:=hm;exact⟨rfl,z,a,h1,y,by simp[Deferred.ofValue,invoke]⟩
 rename_i f first captured;simp only[VRel]at l;obtain⟨n,o,rfl,h1,B⟩:=l;have i:VRels c w (first++args++captured) (n++a++o).toList:=by simp_all[QbB]
 have k:Callable P f->(do let d<-Deferred.ofValue (.func (.func f) n o) a;invoke d.target d.args:Sem Next).run P w=.ok (.enter f (n++a++o)) w:=by simp_all[Deferred.ofValue,invoke,Qgl]
 have plain:∀q,q≠.borrow->(HM.ret (AOut.call q f (first++args++captured))).run h=some (out,h')->Done P c h w (do let d<-Deferred.ofValue (.func (.func f) n o) a;invoke d.target d.args) out h':=by intro q p hm;simp only[HM.run,Zaa,Zal]at hm;obtain⟨rfl,rfl⟩:=hm;exact⟨rfl,_,k,fun _=>i,fun e=>absurd e p⟩
 cases m with|heap=>exact plain _ (by simp) hm|pure=>exact plain _ (by simp) hm|borrow=>simp only at hm;obtain⟨v,A,t,s⟩:=run_bind hm;simp only[HM.run,Zaa,Zal]at s;obtain⟨rfl,rfl⟩:=s;obtain⟨rfl,u⟩:=Qdf (QeX H 4) _ _ _ _ i t;exact⟨rfl,_,k,fun e=>absurd rfl e,fun _=>u⟩
theorem QpC{s}{out}(H:HRel c h w)(A:TRel c w T a)(b:okCall P cl s=true)(hm:(aop i T s).run h=some (out,h')):Done P c h w (do let d<-resolve a.eval cl ty;invoke d.target d.args) out h':=by
 obtain⟨callee,args,argTypes⟩:=cl;unfold okCall at b;simp only at b;split at b
 ·rename_i f m x xs;simp only[Zab]at b;have l:VRels c w (evs T xs) (args.map a.eval).toList:=by simp_all[Qcs]
  exact Qn0 H (Qat A b.1) l hm
 ·rename_i k x;split at b
  ·rename_i y t N O;simp only[Zab]at b;obtain⟨v,h1,o,p⟩:=QaS hm;cases p;unfold aLenC at o;split at o
   ·rename_i L;have B:=Qqe (P:=P) (ty:=ty) H (Qat A b.1) (by rw[L];exact b.2) o;have :(do let d<-resolve a.eval {callee:=.builtin .len,args:=args,argTypes:=argTypes} ty;invoke d.target d.args:Sem Next)=(do pure (.value (<-Builtin.len_ #[t] ty #[a.eval y]))):=by
     exact bu8Eg
    rw[this];exact .ofSound B
   grind[HM.run]
  cases b
 ·rename_i x;split at b
  ·rename_i y t N O;simp only[Zab]at b;obtain⟨v,o,p⟩:=QaV hm;cases p;have :(do let d<-resolve a.eval {callee:=.builtin .cap,args:=args,argTypes:=argTypes} ty;invoke d.target d.args:Sem Next)=(do pure (.value (<-Builtin.cap_ #[t] ty #[a.eval y]))):=by
    exact bu8Eg
   rw[this];exact .ofPure H (Qqf (Qat A b.1) b.2 o)
  cases b
 ·rename_i st sz bytes x y;split at b
  ·rename_i r I t u N O;simp only[Zab]at b;obtain⟨⟨⟨F,G⟩,q⟩,U⟩:=b;obtain⟨v,h1,o,p⟩:=QaS hm;cases p;obtain⟨e,Y,z,K,hi,C,E,S,R⟩:=QdV U;have J:∃V,P.underlying u=some V/\∀k,V≠.int k:=by
    exact bOzdE
   have B:=Qeu (P:=P) (ty:=ty) H (Qat A F) (Qat A G) (T:=⟨K,J,hi,S,C,E,by simpa using R⟩) o;exact bM6RN
  cases b
 ·rename_i e0 st sz bytes x y;split at b
  ·rename_i r I t u N O;simp only[Zab]at b;obtain⟨⟨⟨⟨F,G⟩,q⟩,U⟩,Z⟩:=b;obtain⟨v,h1,o,p⟩:=QaS hm;cases p;obtain⟨e,Y,z,K,hi,C,E,S,R⟩:=QdV U;rw[K]at Z;have Z:e=e0:=by simpa using Z
   subst Z;have J:∃V,P.underlying u=some V/\∀k,V≠.int k:=by
    exact bOzdE
   have B:=QlK (P:=P) (ty:=ty) H (Qat A F) (Qat A G) (T:=⟨K,J,hi,S,C,E,by simpa using R⟩) o;exact bM6RN
  cases b
 ·rename_i st sz bytes zero x y;split at b
  ·rename_i r I t u N O;simp only[Zab]at b;obtain⟨⟨⟨F,G⟩,q⟩,U⟩:=b;obtain⟨v,h1,o,p⟩:=QaS hm;cases p;obtain⟨e,Y,z,K,hi,C,E,S,L⟩:=QdV U;simp only[Zab,beq_iff_eq]at L;split at q
   ·rename_i p hu2;have B:=QlL (P:=P) (ty:=ty) H (Qat A F) (Qat A G) K hu2 hi S C E L.1 L.2 o;exact bM6RN
   cases q
  cases b
 ·rename_i sz bytes zero x;split at b
  ·rename_i r t N O;simp only[Zab]at b;obtain⟨F,U⟩:=b;obtain⟨v,h1,o,p⟩:=QaS hm;cases p;obtain⟨e,Y,z,K,hi,C,E,S,L⟩:=QdV U;simp only[Zab,beq_iff_eq]at L;have B:=QnZ (P:=P) (ty:=ty) H (Qat A F) K hi S L.1 L.2 o;have :(do let d<-resolve a.eval {callee:=.builtin .clear,args:=args,argTypes:=argTypes} ty;invoke d.target d.args:Sem Next)=(do pure (.value (<-Builtin.clear_ #[t] ty #[a.eval r]))):=by
    have M:args=#[r]:=by grind
    have Q:argTypes=#[t]:=by grind
    simp_all[resolve,invoke,builtin]
   rw[this];exact .ofSound B
  cases b
 ·rename_i x;split at b
  ·rename_i y N;obtain⟨v,o,p⟩:=QaV hm;cases p;have :(do let d<-resolve a.eval {callee:=.builtin .unsafeSliceData,args:=args,argTypes:=argTypes} ty;invoke d.target d.args:Sem Next)=(do pure (.value (<-Builtin.unsafeSliceData_ argTypes ty #[a.eval y]))):=by
    have M:args=#[y]:=by grind
    simp_all[resolve,invoke,builtin]
   rw[this];exact .ofPure H (Qqj (P:=P) (Qat A b) o)
  cases b
 ·rename_i t x n;split at b
  ·rename_i r n' pt it N O;simp only[Zab]at b;obtain⟨⟨F,G⟩,q⟩:=b;obtain⟨v,h1,o,p⟩:=QaS hm;cases p;have B:=QpB (P:=P) (ty:=ty) (it:=it) H (Qat A F) (Qat A G) q o;have :(do let d<-resolve a.eval {callee:=.builtin .unsafeString,args:=args,argTypes:=argTypes} ty;invoke d.target d.args:Sem Next)=(do pure (.value (<-Builtin.unsafeString_ #[pt,it] ty #[a.eval r,a.eval n']))):=by
    have M:args=#[r,n']:=by grind
    have Q:argTypes=#[pt,it]:=by grind
    simp_all[resolve,invoke,builtin]
   rw[this];exact .ofSound B
  cases b
 ·rename_i sz x y;split at b
  ·rename_i r I t u N O;simp only[Zab]at b;obtain⟨⟨F,G⟩,q⟩:=b;obtain⟨v,h1,o,p⟩:=QaS hm;cases p;split at q
   ·rename_i e K;split at q
    ·rename_i Y hi;have B:=Qpw (P:=P) (ty:=ty) (t2:=u) H (Qat A F) (Qat A G) K hi (by simpa using q) o;have :(do let d<-resolve a.eval {callee:=.builtin .copy,args:=args,argTypes:=argTypes} ty;invoke d.target d.args:Sem Next)=(do pure (.value (<-Builtin.copy_ #[t,u] ty #[a.eval r,a.eval I]))):=by
      have M:args=#[r,I]:=by grind
      have Q:argTypes=#[t,u]:=by grind
      simp_all[resolve,invoke,builtin]
     rw[this];exact .ofSound B
    cases q
   cases q
  cases b
 ·rename_i xs;obtain⟨v,o,p⟩:=QaV hm;cases p;have l:VRels c w (evs T xs) (args.map a.eval).toList:=by simp_all[Qcs]
  exact .ofPure H (Qkh (P:=P) (mn:=false) (ats:=argTypes) (ty:=ty) l o)
 ·rename_i xs;obtain⟨v,o,p⟩:=QaV hm;cases p;have l:VRels c w (evs T xs) (args.map a.eval).toList:=by simp_all[Qcs]
  exact .ofPure H (Qkh (P:=P) (mn:=true) (ats:=argTypes) (ty:=ty) l o)
 ·rename_i g k f xs;simp only[Zab,beq_iff_eq]at b;obtain⟨⟨rfl,G⟩,q⟩:=b;obtain⟨v,o,p⟩:=QaV hm;cases p;have l:VRels c w (evs T xs) (args.map a.eval).toList:=by simp_all[Qcs]
  obtain⟨cv,hr,hv⟩:=Qqh G l o;refine⟨.value cv,cv,c,w,?_,.inl rfl,.refl c w,H,hv⟩;simp[resolve,Deferred.ofValue,invoke,Act.eval,hr]
 cases b
theorem QlZ{row}{x k r}(hm:(aMapUpd row ks x k v).run h=some (r,h')):r=.any:=by unfold aMapUpd at hm;grind[Qcw,HM.run]
theorem Qsr{o}{s}{out}(H:HRel c h w)(p:TRel c w T a)(b:okOp P o.op s=true)(hm:(aop i T s).run h=some (out,h')):Done P c h w (execOp a.eval o) out h':=by
 obtain⟨dst,op,ty,pos,after,guard⟩:=o;simp only at b;have K:∀{v:AV}{V:Value},VRel c w v V->Done P c h w (pure (.value V)) (.val v) h:=fun{v V}U=>⟨.value V,V,c,w,rfl,.inl rfl,.refl c w,H,U⟩;unfold okOp at b;split at b;·simp only[aop,HM.run,Zaa,Zal]at hm;obtain⟨rfl,rfl⟩:=hm;exact K (Qat p b)
 ·simp only[aop,HM.run,Zaa,Zal]at hm;obtain⟨rfl,rfl⟩:=hm;exact K (Qat p b)
 ·rename_i x y z R y' z';simp only[Zab]at b;obtain⟨v,d,g⟩:=QaV hm;cases g;have h1:=Qat p b.1.1;unfold aPick at d;split at d;·rename_i t e;rw[e]at h1;simp only[VRel]at h1;cases d;have L:execOp a.eval {dst,op:=.pick x y z,type:=ty,pos,after,guard}=(do pure (.value (if<-asBool (a.eval x)then a.eval y else a.eval z))):=rfl;rw[L,h1];refine⟨.value (if t then a.eval y else a.eval z),_,c,w,by simp[asBool],.inl rfl,.refl c w,H,?_⟩;grind[Qat]
  cases d
 ·rename_i t st z;split at b;·rename_i Y F;obtain⟨Z,hi,E⟩:=QdR F;obtain⟨v,h1,d,g⟩:=QaS hm;cases g;exact .ofSound (QnO (P:=P) H hi E b d)
  cases b
 ·rename_i t t' st z;simp only[Zab,beq_iff_eq]at b;obtain⟨rfl,b⟩:=b;split at b;·rename_i Y F;obtain⟨Z,hi,E⟩:=QdR F;obtain⟨v,h1,d,g⟩:=QaS hm;cases g;exact .ofSound (QlW (P:=P) H hi E b d)
  cases b
 ·obtain⟨v,h1,d,g⟩:=QaS hm;cases g;exact .ofSound (Qkf (P:=P) H (Qat p b) d)
 ·rename_i t parts zero ps;simp only[Zab]at b;obtain⟨⟨B,q⟩,A⟩:=b;obtain⟨v,d,g⟩:=QaV hm;cases g;split at B
  ·rename_i Y F;have hb:(∃n e ie,P.underlying t=some (.array n e)/\P.info? e=some ie)\/(∃fields N,P.underlying t=some (.struct fields)/\fields.toList.mapM (fun f=>(P.info? f.type).map fun i=>(f.offset,i.size))=some N):=by grind[buildTB,Option.isSome_iff_exists]
   have L:execOp a.eval {dst,op:=.build t parts,type:=ty,pos,after,guard}=(do pure (.value (<-Instr.build t (parts.map fun(i,x)=>(i,a.eval x))))):=rfl;have O:PartsRel c w (placeOf P t) (evParts T ps) (parts.map fun(i,x)=>(i,a.eval x)).toList:=by simp_all[Qe8]
   have hs:=QnP (P:=P) H F B hb O d;rw[L];exact .ofSound hs
  cases B
 ·rename_i t len parts fz st sz len' zero ps;simp only[Zab,beq_iff_eq,decide_eq_true_eq]at b;obtain⟨⟨⟨rfl,q⟩,A⟩,C⟩:=b;obtain⟨v,h1,d,g⟩:=QaS hm;cases g;split at A
  ·rename_i e hu;split at A
   ·rename_i ie hi;simp only[Zab,beq_iff_eq]at A;obtain⟨J,g6⟩:=A;split at g6
    ·rename_i z F;have L:execOp a.eval {dst,op:=.buildSlice t len parts,type:=ty,pos,after,guard}=(do pure (.value (<-Instr.buildSlice t len (parts.map fun(i,x)=>(i,a.eval x))))):=rfl;have O:PartsRel c w (fun i=>some (i*sz,sz)) (evParts T ps) (parts.map fun(i,x)=>(i,a.eval x)).toList:=by simp_all[Qe8]
     have hs:=QhX (P:=P) H hu hi J F q g6 O d;rw[L];exact .ofSound hs
    cases g6
   cases A
  cases A
 ·simp only[Zab]at b;obtain⟨v,h1,d,g⟩:=QaS hm;cases g;exact .ofSound (Qpu (P:=P) H (Qat p b.2) b.1 d)
 ·rename_i t x v n R v';simp only[Zab]at b;obtain⟨⟨B,q⟩,A⟩:=b;obtain⟨r,h1,d,g⟩:=QaS hm;cases g;split at B
  ·rename_i Z hi;have Q:∀w,(sizeOf t).run P w=.ok n w:=fun w=>by simp_all[QaP]
   have S:r=.any:=by unfold aStore at d;grind[Qbg,HM.run]
   exact .ofU (QnN (P:=P) H (Qat p q) (Qat p A) Q d) S
  cases B
 ·rename_i x y;obtain⟨v,d,g⟩:=QaV hm;cases g;have G:=Qat p b;obtain⟨L,rfl⟩:=Qql G d;grind[execOp]
 ·rename_i op t x y X op' R y';simp only[Zab,beq_iff_eq]at b;obtain⟨⟨rfl,q⟩,A⟩:=b;obtain⟨v,d,g⟩:=QaV hm;cases g;have G:=Qat p q;have hy:=Qat p A;have hp:=Qqc (P:=P) (t:=t) G hy d;have hg:(eqGuard op t x y (a.eval x) (a.eval y))=pure ():=by
   unfold aBin at d;split at d;·rename_i L e2;rw[L]at G;simp only[VRel]at G;rw[G];cases op<;>rfl
   ·rename_i L e2;rw[L]at G;simp only[VRel]at G;rw[G];cases op<;>rfl
   cases d
  have:execOp a.eval {dst,op:=.binOp op t x y X,type:=ty,pos,after,guard}=(do pure (.value (<-(do eqGuard op t x y (a.eval x) (a.eval y);binOp op t (a.eval x) (a.eval y))))):=rfl;rw[this,hg];exact .ofPure H hp
 ·rename_i op t x y X k neg R y';simp only[Zab,beq_iff_eq]at b;obtain⟨⟨⟨⟨B,q⟩,A⟩,C⟩,J⟩:=b;obtain⟨v,d,g⟩:=QaV hm;cases g;refine .ofPure H (QlQ (P:=P) (ox:=x) (oy:=y) B (Qat p A) (Qat p C) q ?_ d);intro kind e;subst e;cases y<;>simp[isConstO]at J;simp_all
 ·rename_i op t x y X neg R;simp only[Zab,beq_iff_eq]at b;obtain⟨⟨⟨⟨B,q⟩,A⟩,J⟩,C⟩:=b;obtain⟨v,h1,d,g⟩:=QaS hm;cases g;obtain⟨x2,hx2,I⟩:=Qpy H (Qat p A) d;cases U:aEq (.nil 2) neg x2 .nilsl with|none=>rw[U]at I;simp[HM.opt,HM.run]at I|some u=>rw[U]at I;simp only[HM.opt,HM.run,Zaa,Zal]at I;obtain⟨rfl,rfl⟩:=I;refine .ofPure H (QlQ (P:=P) (ox:=x) (oy:=y) B hx2 (Qat p C) q ?_ U);intro kind e;cases e;cases y<;>simp[isConstO]at J;exact⟨_,rfl⟩
 ·rename_i op t x y X neg R y';simp only[Zab,beq_iff_eq]at b;obtain⟨⟨⟨B,q⟩,A⟩,C⟩:=b;obtain⟨v,d,g⟩:=QaV hm;cases g;exact .ofPure H (Qqi (P:=P) (ox:=x) (oy:=y) B (Qat p A) (Qat p C) q d)
 ·simp only[Zab,beq_iff_eq]at b;obtain⟨rfl,q⟩:=b;obtain⟨v,d,g⟩:=QaV hm;cases g;exact .ofPure H (Qsq (P:=P) (Qat p q) d)
 ·simp only[Zab]at b;obtain⟨v,d,g⟩:=QaV hm;cases g;exact .ofPure H (Qpv (P:=P) (Qat p b.2) b.1 d)
 ·simp only[Zab]at b;obtain⟨v,d,g⟩:=QaV hm;cases g;exact .ofPure H (QnV (P:=P) (Qat p b.2) b.1 d)
 ·simp only[Zab]at b;obtain⟨v,h1,d,g⟩:=QaS hm;cases g;exact .ofSound (QnW (P:=P) H (Qat p b.2) b.1 d)
 ·simp only[Zab]at b;obtain⟨v,d,g⟩:=QaV hm;cases g;exact .ofPure H (QnX (P:=P) (Qat p b.2) b.1 d)
 ·rename_i f first captured f' xs ys;simp only[Zab,beq_iff_eq]at b;obtain⟨⟨rfl,q⟩,A⟩:=b;simp only[aop,HM.run,Zaa,Zal]at hm;obtain⟨rfl,rfl⟩:=hm;have:execOp a.eval {dst,op:=.makeFunc (.func f) first captured,type:=ty,pos,after,guard}=pure (.value (.func (.func f) (first.map a.eval) (captured.map a.eval))):=rfl;rw[this];refine K ?_;simp only[VRel];exact⟨_,_,rfl,by simp_all[Qcs],by simp_all[Qcs]⟩
 ·obtain⟨v,h1,d,g⟩:=QaS hm;cases g;exact .ofSound (QlI (P:=P) (reserve:=none) (by simp) H d)
 ·rename_i t l cc st sz bytes zero l' c';simp only[Zab]at b;obtain⟨⟨B,q⟩,A⟩:=b;obtain⟨v,h1,d,g⟩:=QaS hm;cases g;obtain⟨e,ie,z,hu,hi,Q,hby,F,hk⟩:=QdV A;simp only[Zab,beq_iff_eq]at hk;exact .ofSound (Qiy (P:=P) H (Qat p B) (Qat p q) hu hi Q hby F hk.1 hk.2 d)
 ·rename_i t x l hi mx sz R l' h' m';simp only[Zab]at b;obtain⟨⟨⟨⟨B,q⟩,A⟩,C⟩,J⟩:=b;obtain⟨v,d,g⟩:=QaV hm;cases g;have G:=Qat p q;have hl:=Qdg p A;have hh:=Qdg p C;have hmx:=Qdg p J;refine .ofPure H ?_;unfold aSliceC at d;split at d;·grind[QcR]
  ·grind[QcR]
  ·grind[QcR]
  ·grind[QcR]
  ·rename_i s e;rw[e]at G d;exact QcR (P:=P) G hl hh hmx B (fun _ _ _ _ _ e=>by cases e) (fun _ _ _ e=>by cases e) (fun _=>rfl) (.inl ⟨_,rfl⟩) d
  cases d
 ·simp only[Zab]at b;obtain⟨⟨⟨B,q⟩,A⟩,C⟩:=b;obtain⟨v,d,g⟩:=QaV hm;cases g;exact .ofPure H (QlR (P:=P) (Qat p q) (Qdg p A) (Qdg p C) B d)
 ·simp only[Zab]at b;obtain⟨v,d,g⟩:=QaV hm;cases g;exact .ofPure H (QnS (P:=P) (Qat p b.2) b.1 d)
 ·simp only[Zab]at b;obtain⟨v,d,g⟩:=QaV hm;cases g;exact .ofPure H (QnR (P:=P) (Qat p b.2) b.1 d)
 ·simp only[Zab]at b;obtain⟨v,d,g⟩:=QaV hm;cases g;exact .ofPure H (QnT (P:=P) (Qat p b.1.2) (Qat p b.2) b.1.1 d)
 ·simp only[Zab]at b;obtain⟨v,d,g⟩:=QaV hm;cases g;exact .ofPure H (QnU (P:=P) (Qat p b.1.2) (Qat p b.2) b.1.1 d)
 ·rename_i t x k ok row ks zero ok' R k';simp only[Zab,beq_iff_eq]at b;obtain⟨⟨⟨⟨B,q⟩,rfl⟩,C⟩,J⟩:=b;obtain⟨v,h1,d,g⟩:=QaS hm;cases g;obtain⟨kt,et,M⟩:=QfA B;unfold mapElemZero at q;rw[M.hu]at q;simp only at q;split at q;·rename_i Y F;obtain⟨Z,hi,E⟩:=QdR F;exact .ofSound (QlU (P:=P) H M (Qat p C) (Qat p J) hi E q d)
  cases q
 ·rename_i t m k row ks zero m' k';simp only[Zab]at b;obtain⟨⟨⟨B,q⟩,C⟩,J⟩:=b;obtain⟨v,h1,d,g⟩:=QaS hm;cases g;obtain⟨kt,et,M⟩:=QfA B;unfold mapElemZero at q;rw[M.hu]at q;simp only at q;split at q;·rename_i Y F;obtain⟨Z,hi,E⟩:=QdR F;exact .ofSound (QlX (P:=P) H M (Qat p C) (Qat p J) hi E q d)
  cases q
 ·simp only[Zab]at b;obtain⟨⟨q,A⟩,C⟩:=b;obtain⟨r,h1,d,g⟩:=QaS hm;cases g;exact .ofU (QnY (P:=P) H (Qat p q) (Qat p A) (Qat p C) d) (Qqk d)
 ·exact bshAr
 ·exact bshAr
 ·simp only[Zab,beq_iff_eq]at b;obtain⟨rfl,q⟩:=b;obtain⟨v,d,g⟩:=QaV hm;cases g;exact .ofPure H (QlG (P:=P) (Qat p q) d)
 ·simp_all[aop,HM.run]
 ·exact QpC (P:=P) (ty:=ty) H p b hm
 cases b
end Go.AM
namespace Go.AM
def Opd.slots:Opd->List Nat|.t i=>[i]|_=>[]
def slotsOf(xs:List Opd):List Nat:=xs.flatMap Opd.slots
def SOp.opds:SOp->List Opd|.mov x|.box _ x|.load _ x|.nilchk x|.un _ x|.conv _ x|.convS x|.convB x|.eqn _ x|.cap x|.clear _ _ _ x|.convP _ _ x|.usd x|.faddr _ x|.field _ _ x|.extract _ x|.len _ x=>[x]|.pick c a b=>[c,a,b]|.alloc _ _|.allocT ..|.mkmap _|.bad=>[]|.build _ d|.bslice _ _ _ _ _ d=>d.map fun p=>p.2.2|.store _ x v|.ment _ _ _ x v|.appendZ _ _ _ _ x v|.bin _ x v|.eq _ _ x v|.eqp _ x v|.appendT _ _ _ _ x v|.ustr _ x v|.iaddr _ _ x v|.index _ x v|.append _ _ _ x v|.copy _ x v|.lookup _ _ _ _ x v|.mkslice _ _ _ _ x v=>[x,v]|.mkfn _ xs f=>xs++f|.slice _ x l h m=>[x]++l.toList++h.toList++m.toList|.sliceK _ x l h=>[x]++l.toList++h.toList|.mupd _ _ x k v|.estore x k v=>[x,k,v]|.maxmin _ xs=>xs|.ext _ _ xs=>xs|.call _ x args=>x::args
def SOper.reads(s:SOper):List Nat:=slotsOf s.op.opds++(match s.guard with|some (g,_)=>[g]|none=>[])
def optIn(d:Option Nat)(xs:List Nat):Bool:=match d with|some d=>xs.contains d|none=>false
def SOper.apart(a b:SOper):Bool:=!optIn a.dst b.reads&&!optIn b.dst a.reads&&!(match a.dst,b.dst with|some x,some y=>x==y|_,_=>false)
def okGuard(N:Nat)(ops:Array Oper):Option (Nat×Bool)->Option (Nat×Bool)->Bool|none,none=>true|some (j,b),some (slot,a)=>b==a&&((ops[j]?).bind (·.dst))==some slot&&decide (slot<N)|_,_=>false
def okAfter(es:List Edge)(l:List Nat):Bool:=((es.filter fun e=>Region.binds .any e).map (·.on))==l
def okOper(P:Program)(N:Nat)(ops:Array Oper)(o:Oper)(s:SOper):Bool:=o.dst==s.dst&&(match s.dst with|some d=>decide (d<N)|none=>true)&&okOp P o.op s.op&&okGuard N ops o.guard s.guard&&okAfter o.after.toList s.after
def SOp.cls:SOp->Nat|.mov _|.pick ..|.build ..|.nilchk _|.bin ..|.eq ..|.un ..|.conv ..|.convS _|.mkfn ..|.slice ..|.sliceK ..|.faddr ..|.field ..|.iaddr ..|.index ..|.extract ..|.maxmin ..|.ext ..|.cap _|.eqp ..|.convP ..|.usd _|.bad=>0|.load ..|.len ..|.lookup ..|.convB _|.eqn ..=>1|.call m _ _=>(match m with|.heap=>2|_=>1)|.alloc ..|.allocT ..|.ment ..|.estore ..|.appendZ ..|.clear ..|.appendT ..|.ustr ..|.box ..|.bslice ..|.store ..|.mkmap ..|.mkslice ..|.mupd ..|.append ..|.copy ..=>2
def maskOf(acc:List Nat)(s:SOper):Nat:=s.after.foldl (fun m e=>m|||2^e|||acc.getD e 0) 0
def masksFrom(acc:List Nat):List SOper->List Nat|[]=>acc|s::r=>masksFrom (acc++[maskOf acc s]) r
def SOp.still:SOp->Bool|.call .heap _ _=>false|_=>true
def SOp.fresh:SOp->Bool|.alloc .dyn _=>true|.box .dyn _=>true|.bslice false .dyn _ _ _ _=>true|.mkslice .dyn _ _ _ _ _=>true|.mkmap .dyn=>true|_=>false
def SOp.sees:SOp->Bool|.load _ _=>true|.len _ _=>true|_=>false
def pairOK(sops:List SOper)(a:List (Nat×Nat))(k j:Nat):Bool:=match sops[k]?,sops[j]? with|some s,some t=>s.apart t&&(Nat.beq s.op.cls 0||Nat.beq t.op.cls 0||(Nat.ble s.op.cls 1&&Nat.ble t.op.cls 1)||a.contains (k,j)||((s.op.sees||s.op.fresh)&&t.op.fresh&&sops.all fun s=>s.op.still))|_,_=>false
def freeB(sops:List SOper)(a:List (Nat×Nat)):Bool:=let ms:=masksFrom [] sops
 (List.range sops.length).all fun j=>(match sops[j]? with|some s=>s.after.all fun k=>Nat.blt k j|none=>false)&&(List.range j).all fun k=>(ms.getD j 0).testBit k||pairOK sops a k j
def okOpers(P:Program)(N:Nat)(ops:Array Oper):List Oper->List SOper->Bool|[],[]=>true|o::os,s::a=>okOper P N ops o s&&okOpers P N ops os a|_,_=>false
def okRegion(P:Program)(N:Nat)(ops:Array Oper)(draw:Bool)(sops:List SOper)(a:List (Nat×Nat)):Bool:=okOpers P N ops ops.toList sops&&(!draw||(P.follows .mixedOrders&&freeB sops a))
structure MLParts where
 ops6:Array Oper
 b:Nat
 ops7:Array Oper
 c:Nat
 b':Nat
 b3:Nat
 ops8:Array Oper
 body:Code
def mlParts:Code->Option MLParts|.seq (.region _ a false) (.block b (.loop (.seq (.region _ f false) (.seq (.cond (.tmp c) .skip (.exit h)) (.block g (.seq (.region _ d false) body))))))=>some ⟨a,b,f,c,h,g,d,body⟩|_=>none
def isMapT(P:Program)(t:TypeId):Bool:=match P.underlying t with|some (.map _ _)=>true|_=>false
def okRange(P:Program)(N:Nat)(ops:Array Oper)(pre:List SOper)(x:Opd)(it:Nat):Bool:=match ops[pre.length]? with|some o=>o.dst==some it&&decide (it<N)&&o.guard.isNone&&(match o.op with|.range t y=>isMapT P t&&okOpd y x|_=>false)&&ops.size==pre.length+1&&okOpers P N ops (ops.toList.take pre.length) pre|none=>false
def okNext(N:Nat)(ops:Array Oper)(it c ok:Nat):Bool:=match ops.toList with|[a,b]=>a.dst==some c&&decide (c<N)&&a.guard.isNone&&(match a.op with|.next (.tmp i) false=>i==it|_=>false)&&b.dst==some ok&&decide (ok<N)&&b.guard.isNone&&(match b.op with|.extract (.tmp j) 0=>j==c|_=>false)&&!(c==it)&&!(ok==it)|_=>false
def okEntry(P:Program)(N:Nat)(ops:Array Oper)(rest:List SOper)(it b:Nat):Bool:=match ops.toList with|a::l=>a.dst==some b&&decide (b<N)&&a.guard.isNone&&(match a.op with|.entry (.tmp i)=>i==it|_=>false)&&okOpers P N ops l rest|_=>false
def SCode.rf:SCode->Bool|.seq a b=>a.rf||b.rf|.cond _ a b=>a.rf||b.rf|.block _ b=>b.rf|.loop b=>b.rf|.mloop ..=>true|.rfunc ..=>true|_=>false
def okCode(P:Program)(N:Nat):Code->SCode->Bool|.skip,.skip=>true|.region _ ops draw,.region sops f _=>okRegion P N ops draw sops f|.seq a b,.seq h d=>okCode P N a h&&okCode P N b d|.cond c a b,.cond x h d=>okOpd c x&&okCode P N a h&&okCode P N b d|.block i b,.block l d=>i==l&&okCode P N b d|.loop b,.loop d=>okCode P N b d|.exit i,.exit l=>i==l|.ret,.ret=>true|c,.mloop pre x it r ok n m b2 rest body=>(match mlParts c with|some p=>okRange P N p.ops6 pre x it&&p.b==m&&okNext N p.ops7 it r ok&&p.c==ok&&p.b'==m&&p.b3==b2&&okEntry P N p.ops8 rest it n&&okCode P N p.body body|none=>false)|.rangeFunc g q a b,.rfunc s k N' h d=>okOpd g s&&q.toList==k&&N'==N&&k.all (fun p=>Nat.blt p N)&&!h.rf&&!d.rf&&okCode P N a h&&okCode P N b d|_,.bad=>true|_,_=>false termination_by structural _ o=>o
def okc(P:Program):Okc:=fun N code a=>okCode P N code a=true/\a.rf=false
end Go.AM
