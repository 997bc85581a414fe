/- Lemmas on the way to ExplainEventsCardSaid. Conditions: none of ours. -/
import Derived.Lib.UnsafeStr
import Derived.Lib.Builder
import Derived.LaidEqlPtr
import Derived.Test.YtgfnbkngfedlkaaGreatDoorAmW3
set_option linter.unusedSectionVars false
set_option maxHeartbeats 32000000
set_option maxRecDepth 100000
set_option linter.unusedVariables false
set_option linter.unusedSimpArgs false
namespace Go.AM
variable{P:Program}{ok:Okc}{c:Ctx ok}{w:World}{h:Heap}
theorem run_bind'{α β:Type}{m:HM α}{f:α->HM β}{h:Heap}{r:β×Heap}(hm:(m.bind f).run h=some r):∃a h1,m.run h=some (a,h1)/\(f a).run h1=some r:=by induction m generalizing h with|ret a=>exact⟨a,h,rfl,hm⟩|fail=>simp[HM.bind,HM.run]at hm|look b k d=>exact d _ hm|put b x k d=>
 obtain⟨l,hm⟩:=QaU (k:=k.bind f) hm;obtain⟨a,h1,g,i⟩:=d hm;refine⟨a,h1,?_,i⟩;have c:Nat.blt b lim=true:=by simp_all
 simp only[HM.run,c,cond_true];exact g
def aBoxT(t:Nat)(s:Site)(i:Nat)(x:AV):HM AV:=if x.boxable then .new s i (fun g=>.cells g x.cells) fun b g=>.ret (.typed t x.cells.length (.ptr b g 0))else .fail
theorem QlK{t:TypeId}{s:Site}{i:Nat}{z v:AV}{k:TypeInfo}{a:Value}{h':Heap}(H:HRel c h w)(hi:P.info? t=some k)(p:k.zero=some a)(hc:cOK z a=true)(hm:(aBoxT t s i z).run h=some (v,h')):Sound P c w (Instr.alloc t true (.tuple #[])) v h':=by
 unfold aBoxT at hm;split at hm
 ·rename_i m;obtain⟨b,g,d,u,hm⟩:=Qdj hm;simp only[HM.run,Zab,Zaj]at hm;obtain⟨rfl,rfl⟩:=hm;have r:=Qec (c:=c) (w:=w) z a hc;have f:=VRel_cells' r m;obtain⟨q,hp,l,o⟩:=H.newCells d u (C:=a.cells) (e:=t) (QaP f);refine⟨.pointer (some ⟨w.heap.size,0,none⟩),q,_,?_,l,o,?_⟩;·simp[Instr.alloc,newVar,newRow,zeroValue,typeInfo,hi,p]
  simp only[VRel];refine⟨.inl ⟨w.heap.size,a.cells,(0,0),.inl rfl,?_,.inr ?_⟩,_,0,hp,by simp⟩;·show(w.heap.push _)[w.heap.size]?=_;simp
  have :=QaB f;simp_all
 grind[HM.run]
def AV.bare:AV->AV|.typed _ _ v=>v|v=>v
theorem VRel.bare{x:AV}{v:Value}(h:VRel c w x v):VRel c w x.bare v:=by cases x<;>first|exact h|exact(by simp only[VRel]at h;exact h.2)
def aEqP(neg:Bool)(x y:AV):Option AV:=match x.bare,y.bare with|.ptr b g o,.ptr c d a=>if b=c/\g=d/\o=a then some (.bool (true !=neg))else none|_,_=>none
def eqPT(P:Program)(t:TypeId):Bool:=match P.underlying t with|some (.pointer e)=>(match P.info? e with|some i=>i.size !=0|none=>false)|_=>false
theorem QjA{c f:TypeId}{j:TypeInfo}(a:Addr)(hp:P.underlying c=some (.pointer f))(b:P.info? f=some j):(Op.equal c (.pointer (some a)) (.pointer (some a))).run P w=.ok true w:=by
 have h:∀d:Nat,(Op.equalIn (d+1) c (.pointer (some a)) (.pointer (some a))).run P w=.ok true w:=fun d=>by simp[Op.equalIn,run_underlying hp,sizeOf,typeInfo,b,run_sameAddr_same]
 simp_all[Op.equal,Op.maxDepth]
theorem Qge(w:World)(o:Obj):(w.drew.alloc o).heap[w.heap.size]?=some o:=by show(w.heap.push o)[w.heap.size]?=_;simp
theorem QpT{op:BinOp}{neg:Bool}{t:TypeId}{ox oy:Operand}{x y v:AV}{k cy:Value}(m:op=if neg then .neq else .eql)(f:VRel c w x k)(h:VRel c w y cy)(a:eqPT P t=true)(hm:aEqP neg x y=some v):Pure P c w (do eqGuard op t ox oy k cy;binOp op t k cy) v:=by
 unfold aEqP at hm;have f:=f.bare;have h:=h.bare;split at hm
 ·rename_i b g o C E G A s;rw[A]at f;rw[s]at h;split at hm
  ·rename_i q;obtain⟨rfl,rfl,rfl⟩:=q;cases hm;simp only[VRel]at f h;obtain⟨r,base,hp,rfl⟩:=f;obtain⟨B,l,d,rfl⟩:=h;rw[hp]at d;cases d;unfold eqPT at a;split at a
   ·rename_i e z;split at a
    ·rename_i i hi;have u:i.size≠0:=by simpa using a
     have p:=QjA (w:=w) ⟨r,base+o,none⟩ z hi;subst m;cases neg;·refine⟨.bool true,?_,by simp[VRel]⟩;simp_all[eqGuard,binOp]
     refine⟨.bool false,?_,by simp[VRel]⟩;simp_all[eqGuard,binOp]
    cases a
   cases a
  cases hm
 cases hm
def aConvP(t n:Nat)(x:AV):Option AV:=match x with|.typed c a (.ptr b g o)=>if c=t/\a=n then some x else none|_=>none
def convPT(P:Program)(src dst:TypeId)(T n:Nat):Bool:=match P.underlying src,P.underlying dst with|some (.pointer t),some .unsafePointer=>n !=0&&(match P.info? t with|some i=>i.size !=0|none=>false)|some .unsafePointer,some (.pointer u)=>n !=0&&(P.info? u).isSome&&liesAt P P.depth T (n/P.cellsOf T) 0 u 1|_,_=>false
theorem QnD{src dst:TypeId}{t n:Nat}{x v:AV}{l:Value}(s:VRel c w x l)(d:convPT P src dst t n=true)(hm:aConvP t n x=some v):Pure P c w (convert src dst l) v:=by
 unfold aConvP at hm;split at hm
 ·rename_i E z b g o;split at hm
  ·rename_i J;obtain⟨rfl,rfl⟩:=J;cases hm;have h:=s;simp only[VRel]at s;obtain⟨q,_,_,_,G⟩:=s;obtain⟨k,C,K,h1,B,A⟩:=q.old (.inr ⟨_,G⟩);have r:l=.pointer (some ⟨k,0,none⟩):=by simp_all
   subst r;have f:w.shape? k=some (E,C.size):=by simp[World.shape?,B]
   unfold convPT at d;split at d
   ·rename_i e y m;simp only[Zaa,bne_iff_ne,ne_eq]at d;obtain⟨p,hi⟩:=d;split at hi
    ·rename_i i a;have H:i.size≠0:=by simpa using hi
     have I:C.size=z:=A.resolve_left p;exact⟨_,Lib.run_to_unsafe (P:=P) (w:=w) ⟨k,0,none⟩ y m a H f (by grind),h⟩
    cases hi
   ·rename_i u y m;simp only[Zaa,bne_iff_ne,ne_eq]at d;obtain⟨⟨p,hi⟩,L⟩:=d;obtain⟨i,a⟩:=Za9.1 hi;have I:C.size=z:=A.resolve_left p;exact⟨_,Lib.run_from_unsafe (P:=P) (w:=w) ⟨k,0,none⟩ y m a f (by simp_all),h⟩
   cases d
  cases hm
 cases hm
def tagT(t:Nat):AV->AV|.sl b g off len sz=>.typed t 0 (.sl b g off len sz)|v=>v
def aAppendT(t:Nat)(s:Site)(i:Nat)(sz bytes:Nat)(x y:AV):HM AV:=match x with|.nilsl=>(aAppend s i sz bytes .nilsl y).bind fun v=>.ret (tagT t v)|.typed c 0 (.sl b g 0 (len+1) a)=>if c=t then(aAppend s i sz bytes (.sl b g 0 (len+1) a) y).bind fun v=>.ret (tagT t v)else .fail|_=>.fail
theorem Qly{t t2 ty e:TypeId}{s:Site}{i sz bytes:Nat}{x y v:AV}{G cy:Value}{ti:TypeInfo}{z:Value}{h':Heap}(H:HRel c h w)(X:VRel c w x G)(R:VRel c w y cy)(T:AppT P t t2 e sz bytes ti z)(hm:(aAppendT e s i sz bytes x y).run h=some (v,h')):Sound P c w (Builtin.append_ #[t,t2] ty #[G,cy]) v h':=by
 have tagged:∀(u:AV)(h1:Heap),Sound P c w (Builtin.append_ #[t,t2] ty #[G,cy]) u h1->(∀q p,(Builtin.append_ #[t,t2] ty #[G,cy]).run P w=.ok q p->(∃L,Evo c w L p)->∀b g off len sz,u=.sl b g off len sz->TyAt p e 0 q)->Sound P c w (Builtin.append_ #[t,t2] ty #[G,cy]) (tagT e u) h1:=by
  rintro u h1⟨q,L,p,A,E,H',V⟩I;refine⟨q,L,p,A,E,H',?_⟩;cases u<;>first|exact V|skip
  simp only[tagT,VRel];refine⟨I q p A ⟨L,E⟩ _ _ _ _ _ rfl,?_⟩;simp_all[VRel]
 unfold aAppendT at hm;split at hm
 ·obtain⟨u,h1,k1,k2⟩:=run_bind' hm;simp only[HM.run,Zab,Zaj]at k2;obtain⟨rfl,rfl⟩:=k2;refine tagged u h1 (Qeo (P:=P) (ty:=ty) H X R T k1) ?_;rintro q p A _ b g off len sz rfl;simp only[VRel]at X;subst X;obtain⟨I,⟨d2,k,l⟩,hi,hz,rfl,rfl,U⟩:=T;have k1:=QcS (P:=P) H R k1;obtain⟨ys,n,us,S,k1⟩:=k1;split at k1;·rename_i f;obtain⟨J,r,M⟩:=f;simp only[slLen,ZbW]at J r;cases n with|zero=>simp[HM.run]at k1|succ n=>have hg:=Qce (P:=P) (w:=w) (ty:=ty) (t:=t) (t2:=t2) (dlen:=0) (dcap:=0) (base:=none) (cy:=cy) (olds:=[]) (us:=us) I k l hi hz S.lenOf S.first (fun w1 _=>by simp[Builtin.firstCells]) (by omega) (by simpa using J) (by omega);rw[A]at hg;cases hg;exact .inl ⟨w.heap.size,_,(0,0),.inr ⟨rfl,_,_,rfl⟩,Qge w _,.inl rfl⟩
  grind[HM.run]
 ·rename_i t' b0 g0 d s';split at hm
  ·rename_i e0;subst e0;obtain⟨u,h1,k1,k2⟩:=run_bind' hm;simp only[HM.run,Zab,Zaj]at k2;obtain⟨rfl,rfl⟩:=k2;have m:VRel c w (.sl b0 g0 0 (d+1) s') G:=by simp_all[VRel]
   have hty:TyAt w t' 0 G:=by simp_all[VRel]
   refine tagged u h1 (Qeo (P:=P) (ty:=ty) H m R T k1) ?_;rintro q p A⟨L,E⟩b g off len sz rfl;obtain⟨I,⟨d2,k,l⟩,hi,hz,rfl,rfl,U⟩:=T;replace k1:=QcS (P:=P) H R k1;obtain⟨ys,n,us,S,k1⟩:=k1;split at k1
   ·rename_i f;obtain⟨J,r,M⟩:=f;simp only[slLen]at J r;dsimp only at k1;split at k1
    ·rename_i e1;subst e1;obtain⟨cs,hbk,k1⟩:=Qa6 k1;split at k1
     ·rename_i hl;have Z:=m;simp only[VRel]at m;rcases m with⟨hp,hz0,_⟩|⟨Q,base,o,cap,C,e',fr,hp,rfl,hlc,hC,hcap⟩;·omega
      obtain⟨cb2,C2,fr2,q1,q2,q3⟩:=hty.old (.inl rfl);have q1:=q1.resolve_left (by simp);obtain⟨_,l2,k2,q1⟩:=q1;simp only[Value.slice.injEq,Zab,Addr.mk.injEq]at q1;obtain⟨⟨rfl,rfl,_⟩,_,_⟩:=q1;by_cases B:d+1+n<=cap;·have a:=Qbh (P:=P) (w:=w) (ty:=ty) (base:=some ⟨Q,0,none⟩) (dlen:=d+1) (dcap:=cap) I k l hi S.lenOf (S.first w rfl) B;rw[A]at a;simp only at a;cases N:(storeCells ((⟨Q,0,none⟩:Addr).add ((d+1)*ti.size)) us).run P w with|halt x y=>rw[N]at a;cases a|ok x y=>rw[N]at a;simp only[Result.andThen_ok,Result.ok.injEq]at a;obtain⟨rfl,rfl⟩:=a;obtain⟨C',Y,s1,s2⟩:=E.shape _ _ _ _ q2;exact .inl ⟨Q,C',Y,.inr ⟨rfl,_,_,rfl⟩,s1,.inl rfl⟩
      obtain⟨K,So⟩:=Qe2 (P:=P) H Z hbk hl;have a:=Qce (P:=P) (w:=w) (ty:=ty) (t:=t) (t2:=t2) (dlen:=d+1) (dcap:=cap) (base:=some ⟨Q,0,none⟩) (cy:=cy) (olds:=K) (us:=us) I k l hi hz S.lenOf S.first So.first (by omega) J (by omega);rw[A]at a;cases a;exact .inl ⟨w.heap.size,_,(0,0),.inr ⟨rfl,_,_,rfl⟩,Qge w _,.inl rfl⟩
     grind[HM.run]
    grind[HM.run]
   grind[HM.run]
  grind[HM.run]
 grind[HM.run]
def aUsd(x:AV):Option AV:=match x with|.nilsl=>some .nilptr|.typed t 0 (.sl b g 0 (_+1) _)=>some (.typed t 0 (.ptr b g 0))|_=>none
theorem QpU{m:Array TypeId}{ty:TypeId}{x v:AV}{i:Value}(f:VRel c w x i)(hm:aUsd x=some v):Pure P c w (Builtin.unsafeSliceData_ m ty #[i]) v:=by
 unfold aUsd at hm;split at hm;·cases hm;simp only[VRel]at f;subst f;exact⟨_,Lib.run_unsafeSliceData_nil _ _ _ _ _,by simp[VRel]⟩
 ·rename_i t b g len s;cases hm;simp only[VRel]at f;obtain⟨h,q⟩:=f;obtain⟨E,C,u,h1,y,B⟩:=h.old (.inl rfl);rcases q with⟨_,G,_⟩|⟨a,base,o,cap,C2,e,r,hp,rfl,p,A,d⟩;·omega
  have h1:=h1.resolve_left (by simp);obtain⟨_,l,k,h1⟩:=h1;simp only[Value.slice.injEq,Zab,Addr.mk.injEq]at h1;obtain⟨⟨rfl,rfl,_⟩,_,_⟩:=h1;obtain⟨z,_⟩:=d.resolve_left (by omega);refine⟨.pointer (some ⟨a,0,none⟩),Lib.run_unsafeSliceData_row _ _ _ _ _ _ (by omega),?_⟩;simp only[VRel];exact⟨.inl ⟨a,C,u,.inl rfl,y,.inl rfl⟩,a,base,hp,by simp;omega⟩
 cases hm
def bytesIn:List AV->Option (List UInt8)|[]=>some []|.int .u8 n::r=>if 0<=n/\n<256 then(bytesIn r).map (UInt8.ofNat n.toNat::·)else none|_=>none
theorem Qhw:∀{ys:List AV}{us:List Value}{s:List UInt8},bytesIn ys=some s->VRels c w ys us->us=s.map fun b=>Value.int .u8 b.toNat
 |[],us,s,d,f=>by simp_all[bytesIn,VRels]|y::ys,us,s,d,f=>by
  have h:∃n s2,y=.int .u8 n/\(0<=n/\n<256)/\bytesIn ys=some s2/\s=UInt8.ofNat n.toNat::s2:=by
   cases y<;>try(simp[bytesIn]at d;done)
   rename_i k n;cases k<;>try(simp[bytesIn]at d;done)
   simp only[bytesIn]at d;split at d;·rename_i g;cases a:bytesIn ys with|none=>simp[a]at d|some s2=>simp only[a,ZbC,Zab]at d;exact⟨n,s2,rfl,g,rfl,d.symm⟩
   cases d
  obtain⟨n,s2,rfl,g,a,rfl⟩:=h;simp only[VRels]at f;obtain⟨v,l,rfl,h1,i⟩:=f;simp only[VRel]at h1;subst h1;rw[Qhw a i];simp only[ZaJ,List.cons.injEq,Value.int.injEq,true_and,and_true];grind[UInt8.toNat_ofNat']
def aUstr(t:Nat)(x n:AV):HM AV:=match x,n with|.nilptr,.int .i64 0=>.ret (.str [])|.typed a _ (.ptr b g 0),.int .i64 n=>if a=t/\0<n/\n<=9223372036854775807 then .cells b g fun cs=>(match bytesIn (cs.take n.toNat)with|some s=>if s.length=n.toNat then .put b (.dead g) (.ret (.str s))else .fail|none=>.fail)else .fail|_,_=>.fail
def ustrT(P:Program)(a:TypeId)(t:Nat):Bool:=match P.underlying a with|some (.pointer e)=>e==t&&P.cellsOf e==1|_=>false
theorem Qpc{T it ty:TypeId}{t:Nat}{x n v:AV}{S V:Value}{h':Heap}(H:HRel c h w)(E:VRel c w x S)(B:VRel c w n V)(z:ustrT P T t=true)(hm:(aUstr t x n).run h=some (v,h')):Sound P c w (Builtin.unsafeString_ #[T,it] ty #[S,V]) v h':=by
 unfold aUstr at hm;split at hm;·simp only[HM.run,Zab,Zaj]at hm;obtain⟨rfl,rfl⟩:=hm;simp only[VRel]at E B;subst E;subst B;refine .here H (Lib.run_unsafeString_none _ _ _ _ _) ?_;simp only[VRel];rfl
 ·rename_i t' k b g n;split at hm
  ·rename_i hc;obtain⟨rfl,h0,h63⟩:=hc;obtain⟨cs,N,hm⟩:=Qa6 hm;split at hm
   ·rename_i s Y;split at hm
    ·rename_i hl;obtain⟨u,hm⟩:=QaU hm;simp only[HM.run,Zab,Zaj]at hm;obtain⟨rfl,rfl⟩:=hm;simp only[VRel]at E B;subst B;obtain⟨Q,cb2,base,hp,G⟩:=E;obtain⟨d,C,I,h1,o,_⟩:=Q.old (.inr ⟨_,G⟩);have h1:S=.pointer (some ⟨d,0,none⟩):=by simp_all
     rw[h1]at G;simp only[Value.pointer.injEq,Zab,Addr.mk.injEq,and_true]at G;obtain⟨rfl,f⟩:=G;have f:base=0:=by omega
     subst f;subst h1;obtain⟨C',e',fr',hO,A,hfr,hbs,i⟩:=H.here N hp;rw[o]at A;cases A;unfold ustrT at z;split at z
     ·rename_i e hu;simp only[Zaa,beq_iff_eq]at z;obtain⟨rfl,R⟩:=z;have hlen:s.length<=cs.length:=by
       have :(cs.take n.toNat).length=s.length:=by
        have L:∀(r:List AV)(s:List UInt8),bytesIn r=some s->r.length=s.length:=by intro r;induction r with|nil=>intro s h;simp only[bytesIn,Zab]at h;subst h;rfl|cons y r ih=>
         intro s h;cases y<;>try(simp[bytesIn]at h;done)
         rename_i k m;cases k<;>try(simp[bytesIn]at h;done)
         simp only[bytesIn]at h;split at h;·cases o:bytesIn r with|none=>simp[o]at h|some s2=>simp only[o,ZbC,Zab]at h;subst h;simp[ih s2 o]
         cases h
        grind
       grind
      have J:=Qbe i;simp at J;have hrel:=Qhw Y (by have:=QaD i 0 n.toNat (by omega);simpa using this);have U:s≠[]:=by grind
      have M:(n:Int)=(s.length:Int):=by omega
      have q:∀j x,s[j]?=some x->w.cell? ((⟨d,0,none⟩:Addr).add j)=some (.int .u8 x.toNat):=by
       intro j x Z;have hjl:j<s.length:=(Zag.1 Z).1;have h6:(List.take n.toNat (C.toList.drop 0))[j]?=some (.int .u8 x.toNat):=by grind
       grind[Addr.add,World.cell?]
      have l:=Lib.run_unsafeString_row (P:=P) (w:=w) T it ty e hu R d C.size (by simp[World.shape?,o]) s U (by omega) (by omega) q;rw[<-M]at l;have hlt:=QaY o;have hw:(w.freeze ⟨d,0,none⟩ s.length).heap[d]?=some (.cells C e (if I.1==I.2 then(0,s.length)else(min I.1 0,max I.2 (s.length)))):=by grind[World.freeze]
      have K:∀k,k≠d->(w.freeze ⟨d,0,none⟩ s.length).heap[k]?=w.heap[k]?:=by grind[World.freeze]
      have hsz:(w.freeze ⟨d,0,none⟩ s.length).heap.size=w.heap.size:=by grind[World.freeze]
      have a:(w.freeze ⟨d,0,none⟩ s.length).os=w.os/\(w.freeze ⟨d,0,none⟩ s.length).tape=w.tape/\(w.freeze ⟨d,0,none⟩ s.length).output=w.output:=by simp only[World.freeze];grind
      have p:Live h b g:=⟨_,N,rfl,fun k=>by simp⟩;have:=H.put (w':=w.freeze ⟨d,0,none⟩ s.length) (cb:=d) (base:=0) (x:=.dead g) u (fun y hy=>H.later b _ N y hy) (.inr hp) (.inr ⟨g,0,p,hp⟩) a.1 a.2.1 a.2.2 (by omega) (by omega) (fun k _ hk=>K k hk) (fun C2 e2 fr2 X=>by grind) (fun _=>trivial);exact⟨_,_,_,l,this.1,this.2,by simp[VRel]⟩
     cases z
    grind[HM.run]
   grind[HM.run]
  grind[HM.run]
 grind[HM.run]
def aMapEnt(row:Bool)(ks:List LK)(zero x k:AV):HM AV:=if keyOK row ks k then match x with
 |.map b g=>.entries b g fun es=>match aFind row ks k es 0 with|some (some (i,v))=>.put b (.map g (es.set i (k,v))) (.ret (.tup [v,.int .i64 (.ofNat i)]))|some none=>.put b (.map g (es++[(k,zero)])) (.ret (.tup [zero,.int .i64 (.ofNat es.length)]))|none=>.fail
 |_=>.fail else .fail
def aEntSt(x s v:AV):HM AV:=match x,s with
 |.map b g,.int _ (.ofNat i)=>.entries b g fun es=>match es[i]? with|some p=>.put b (.map g (es.set i (p.1,v))) (.ret .any)|none=>.fail
 |_,_=>.fail
theorem Qgp{f:MapEntry->MapEntry}(m:∀e,(f e).born=e.born){p:AV×AV}:∀{es:List (AV×AV)}{ms:List MapEntry}{clock:Nat}(i:Nat),MRel c w es ms clock->(∀e,ms[i]?=some e->VRel c w p.1 (f e).key/\VRel c w p.2 (f e).val)->MRel c w (es.set i p) (ms.modify i f) clock|[],ms,clock,i,hm,_=>by simp_all[MRel]|(o,x)::es,ms,clock,i,hm,hf=>by simp only[MRel]at hm;obtain⟨e,k,rfl,h1,d,b,g,a⟩:=hm;cases i with|zero=>obtain⟨l,h⟩:=hf e (by simp);obtain⟨r,q⟩:=p;simp only[Zb5,List.modify_zero_cons,MRel];exact⟨_,_,rfl,l,h,by simp_all,by simp_all,a⟩|succ i=>simp only[List.set_cons_succ,List.modify_succ_cons,MRel];exact⟨_,_,rfl,h1,d,b,by simpa using g,Qgp m i a (fun e he=>hf e (by simpa using he))⟩
theorem QfA:∀{es:List (AV×AV)}{ms:List MapEntry}{clock:Nat}(i:Nat){e:MapEntry},MRel c w es ms clock->ms[i]?=some e->e.born+es.length=clock+i|[],ms,clock,i,e,hm,hi=>by simp_all[MRel]|(k,x)::es,ms,clock,i,e,hm,hi=>by simp only[MRel]at hm;obtain⟨h,a,rfl,h1,g,f,d,b⟩:=hm;cases i with|zero=>simp at hi;subst hi;simp;omega|succ i=>have:=QfA i b (by simpa using hi);simp;omega
theorem Qj9:∀{es:List (AV×AV)}{ms:List MapEntry}{clock:Nat},MRel c w es ms clock->ms.length=es.length|[],ms,clock,hm=>by simp_all[MRel]|(k,x)::es,ms,clock,hm=>by simp only[MRel]at hm;obtain⟨h,a,rfl,h1,f,d,g,b⟩:=hm;simp[Qj9 b]
theorem QlL{t kt et:TypeId}{row:Bool}{ks:List LK}{zero x k r:AV}{cx ck zv:Value}{ti:TypeInfo}{h':Heap}(H:HRel c h w)(T:MapT P t row ks kt et)(hx:VRel c w x cx)(hkey:VRel c w k ck)(hi:P.info? et=some ti)(hz:ti.zero=some zv)(hc:cOK zero zv=true)(hm:(aMapEnt row ks zero x k).run h=some (r,h')):Sound P c w (Instr.mapEntry t cx ck) r h':=by
 unfold aMapEnt at hm;split at hm
 ·rename_i hok;have hck:=fun e=>Qep (P:=P) T hkey hok e;cases x<;>simp only at hm<;>try(cases hm;done)
  case map b g=>
   obtain⟨es,hb,hm⟩:=Qcl hm;simp only[VRel]at hx;obtain⟨cb,hp,rfl⟩:=hx;obtain⟨ms,clock,hO,hC,hR,hcl⟩:=H.atMap hb hp;split at hm;·rename_i i xo hf;obtain⟨hlim,hm⟩:=QaU hm;simp only[HM.run,Zab,Zaj]at hm;obtain⟨rfl,rfl⟩:=hm;obtain⟨r',h1,h2⟩:=Qbx (P:=P) (w:=w) T hkey hR hf;cases r' with|none=>simp[FoundRel]at h2|some r'=>
    obtain⟨i',xv⟩:=r';simp only[FoundRel]at h2;obtain⟨rfl,hxv⟩:=h2;obtain⟨_,k',hk1,hk2⟩:=Qh9 hf;simp only[Nat.sub_zero]at hk1;obtain⟨e,he,hke,hve⟩:=Qeq i hR hk1;have hrow:row=true\/∃lk,ks=[lk]:=by cases hrw:row with|true=>exact .inl rfl|false=>have hkk:=T.hk;have hr:=T.hr;rw[hrw]at hr;have hl:=Qb8 hkk hr;match ks,hl with|[lk],_=>exact .inr ⟨lk,rfl⟩
    obtain⟨hsame,hbits⟩:=QiJ hk2 hkey hke hrow;have hkeep:(Instr.keyThatStays e.key ck).run P w=.ok ck w:=by simp_all[Instr.keyThatStays]
    have hborn:e.born=i:=by grind[QfA]
    rw[ZaR]at he;obtain⟨c',E,H'⟩:=H.setMap hlim hb hp (es':=es.set i (k,xo)) (ms':=ms.modify i fun e=>{e with key:=ck}) (clock':=clock) (fun c' w' E=>by have :=Qgp (f:=fun e=>{e with key:=ck}) (fun _=>rfl) (p:=(k,xo)) i (MRel.mono (E.ext H.disj) _ _ _ hR) (fun e' he'=>by rw[ZaR,he]at he';cases he';exact⟨Zcl (E.ext H.disj) _ _ hkey,Zcl (E.ext H.disj) _ _ hve⟩);exact⟨by simp_all,by simpa using hcl⟩);refine⟨.tuple #[xv,goInt e.born],c',_,?_,E,H',?_⟩;·simp[Instr.mapEntry,run_underlying T.hu,QbG hC,hck,h1,he,hkeep,Qc4 hC]
    ·simp only[VRel];refine⟨_,rfl,?_⟩;simp only[VRels];exact⟨_,_,rfl,Zcl (E.ext H.disj) _ _ hxv,_,_,rfl,by simp_all[VRel,goInt],rfl⟩
   ·rename_i hf;obtain⟨hlim,hm⟩:=QaU hm;simp only[HM.run,Zab,Zaj]at hm;obtain⟨rfl,rfl⟩:=hm;obtain⟨r',h1,h2⟩:=Qbx (P:=P) (w:=w) T hkey hR hf;have:r'=none:=by grind[FoundRel]
    subst this;have hzr:∀{c':Ctx ok}{w':World},VRel c' w' zero zv:=Qec _ _ hc;obtain⟨c',E,H'⟩:=H.setMap hlim hb hp (es':=es++[(k,zero)]) (ms':=ms.push {key:=ck,val:=zv,born:=clock}) (clock':=clock+1) (fun c' w' E=>by have:=Qgn (Zcl (E.ext H.disj) _ _ hkey) (hzr (c':=c') (w':=w')) (MRel.mono (E.ext H.disj) _ _ _ hR);exact⟨by simp_all,by simpa using hcl⟩);refine⟨.tuple #[zv,goInt clock],c',_,?_,E,H',?_⟩;·simp[Instr.mapEntry,run_underlying T.hu,QbG hC,hck,h1,Qc4 hC,zeroValue,typeInfo,hi,hz]
    ·simp only[VRel];refine⟨_,rfl,?_⟩;simp only[VRels];exact⟨_,_,rfl,hzr,_,_,rfl,by grind[VRel,goInt],rfl⟩
   grind[HM.run]
 grind[HM.run]
theorem QpV{x s v r:AV}{h':Heap}(hm:(aEntSt x s v).run h=some (r,h')):r=.any:=by
 unfold aEntSt at hm;split at hm;·grind[Qcl,HM.run]
 grind[HM.run]
theorem QnE{t:TypeId}{x s v r:AV}{y cs cv:Value}{h':Heap}(H:HRel c h w)(C:VRel c w x y)(G:VRel c w s cs)(I:VRel c w v cv)(hm:(aEntSt x s v).run h=some (r,h')):SoundU P c w (Instr.entryStore t y cs cv) h':=by
 unfold aEntSt at hm;split at hm
 ·rename_i b g Q i;obtain⟨es,u,hm⟩:=Qcl hm;simp only[VRel]at C G;obtain⟨N,hp,rfl⟩:=C;subst G;obtain⟨ms,clock,R,z,k,o⟩:=H.atMap u hp;split at hm
  ·rename_i p m;obtain⟨d,hm⟩:=QaU hm;simp only[HM.run,Zab,Zaj]at hm;obtain⟨rfl,rfl⟩:=hm;obtain⟨e,he,l,K⟩:=Qeq i k m;have hlen:=Qj9 k;have J:i<ms.size:=by grind
   have q:∀(j:Nat)(A:j<ms.size),ms[j].born=j:=fun j A=>by have:=QfA j k (e:=ms[j]) (by simp[A]);omega
   have a:ms.findIdx? (fun e=>(e.born:Int)==((i:Nat):Int))=some i:=by grind[Array.findIdx?_eq_some_iff_getElem]
   rw[ZaR]at he;obtain⟨B,E,H'⟩:=H.setMap d u hp (es':=es.set i (p.1,v)) (ms':=ms.modify i fun e=>{e with val:=cv}) (clock':=clock) (fun B M E=>by have :=Qgp (f:=fun e=>{e with val:=cv}) (fun _=>rfl) (p:=(p.1,v)) i (MRel.mono (E.ext H.disj) _ _ _ k) (fun L f=>by rw[ZaR,he]at f;cases f;exact⟨Zcl (E.ext H.disj) _ _ l,Zcl (E.ext H.disj) _ _ I⟩);exact⟨by simp_all,by simpa using o⟩);refine⟨B,_,?_,E,H'⟩;simp[Instr.entryStore,QbG z,asInt,asIntOf,a,Qc4 z]
  grind[HM.run]
 grind[HM.run]
def aAppendZ(s:Site)(i:Nat)(sz bytes:Nat)(zero:List AV)(x n:AV):HM AV:=match x,n with|.nilsl,.int .i64 (.ofNat (n+1))=>if(n+1)*bytes<=140737488355328/\n+1<=140737488355328/\0<sz then .new s i (fun g=>.cells g (List.replicate (n+1) zero).flatten) fun b g=>.ret (.sl b g 0 (n+1) sz)else .fail|_,_=>.fail
theorem Qia{t t2 ty e:TypeId}{i:TypeInfo}{z:Value}{k2:IntKind}{n:Nat}(l:P.underlying t=some (.slice e))(f:P.underlying t2=some (.int k2))(hi:P.info? e=some i)(m:i.zero=some z)(c:i.size≠0)(q:0<n)(r:n*i.bytes<=140737488355328)(k:n<=140737488355328):(Builtin.append_ #[t,t2] ty #[.slice none 0 0,.int .i64 n]).run P w=.ok (.slice (some ⟨w.heap.size,0,none⟩) n (grownCap w n 0 e)) (w.drew.alloc (.cells ((Builtin.zeroCells z.cells n).toList++(Builtin.zeroCells z.cells (grownCap w n 0 e-n)).toList).toArray e)):=by
 have p:¬(n<=0):=by omega
 have d:n≠0:=by omega
 have hw:IntKind.i64.wrap (n:Int)=n:=by rw[<-wr_eq];grind[wr_of,lo,AM.hi]
 have h:¬(n*i.size=0):=by have:=Nat.mul_pos q (Nat.pos_of_ne_zero c);omega
 have o:¬((n:Int)<0):=by omega
 have g:¬(281474976710656<(n:Int)*(i.bytes:Int)):=by omega
 have b:¬(9223372036854775807<(n:Int)):=by omega
 have a:¬(281474976710656<Builtin.nextslicecap n 0*i.bytes):=by simp_all[QiH]
 simp only[Builtin.append_,ZaR,List.getElem?_toArray,Zbl,ZbJ,Sem.run_bind,run_underlying l,run_underlying f,Result.andThen_ok,QaI hi,Sem.run_pure];simp[asInt,asIntOf,typeInfo,zeroValue,hi,m,p,hw,o,g,b,a,c,h,Question.forced,newRow,grownCap,Builtin.firstCells];rw[if_neg d];congr 3;simp_all
theorem Qlz{t t2 ty e:TypeId}{s:Site}{i sz bytes:Nat}{zero:List AV}{x n v:AV}{A C:Value}{m:TypeInfo}{z:Value}{k2:IntKind}{h':Heap}(H:HRel c h w)(E:VRel c w x A)(B:VRel c w n C)(K:P.underlying t=some (.slice e))(y:P.underlying t2=some (.int k2))(hi:P.info? e=some m)(M:m.zero=some z)(p:m.size=sz)(q:m.bytes=bytes)(u:z.cells.size=sz)(hc:cOKs zero z.cells.toList=true)(hm:(aAppendZ s i sz bytes zero x n).run h=some (v,h')):Sound P c w (Builtin.append_ #[t,t2] ty #[A,C]) v h':=by
 subst p;subst q;unfold aAppendZ at hm;split at hm
 ·rename_i n;split at hm;·rename_i a;obtain⟨L,r,N⟩:=a;obtain⟨b,g,f,J,hm⟩:=Qdj hm;simp only[HM.run,Zab,Zaj]at hm;obtain⟨rfl,rfl⟩:=hm;simp only[VRel]at E B;subst E;subst B;have G:=Qia (P:=P) (w:=w) (ty:=ty) (n:=n+1) K y hi M (by omega) (by omega) L r;have k:VRels c w (List.replicate (n+1) zero).flatten (Builtin.zeroCells z.cells (n+1)).toList:=QcJ (c:=c) (w:=w) (Qcd _ _ hc) (n+1);have o:=Qh8 w (need:=n+1) (old:=0) e;obtain⟨I,E',H',V'⟩:=Qfz H f J (e:=e) (rest:=(Builtin.zeroCells z.cells (grownCap w (n+1) 0 e-(n+1))).toList) k (len:=n+1) (cap:=grownCap w (n+1) 0 e) (sz:=m.size) o (by have l:=QcE z.cells (grownCap w (n+1) 0 e-(n+1));have d:=QcE z.cells (n+1);rw[u]at l d;simp only[Zaf,Array.length_toList,l,d];rw[<-ZbV];simp_all);exact⟨_,I,_,G,E',H',V'⟩
  grind[HM.run]
 grind[HM.run]
theorem onesI{ys:List AV}{us:List Value}(b:VRels c w ys us)(f:ys.all AV.one=true):∀u∈us,u.oneCell'=true:=by
 intro u l;have i:=QaB b;obtain⟨j,k,rfl⟩:=Zcb.1 l;obtain⟨o,d,b⟩:=Qcr j b (Zal (by omega:j<ys.length));rw[Zal k]at d;cases d;have h1:(ys[j]).one=true:=by simp_all
 have m:=Qc3 (x:=ys[j]) b (by cases h:ys[j]<;>simp_all[AV.one,AV.cells]);have:(us[j]).cells=#[us[j]]\/∃a,us[j]=.agg a:=by cases us[j]<;>simp[Value.cells]
 rcases this with g|⟨a,g⟩;·simp_all
 rw[g]at b;exfalso;cases h:ys[j]<;>rw[h]at b h1<;>simp[AV.one]at h1<;>simp[VRel]at b;rcases b.1 with⟨_,_,_,k1,_⟩|⟨_,_,_,_,k1,_⟩<;>simp_all
def aClear(sz:Nat)(zero:List AV)(x:AV):HM AV:=match x with
 |.nilsl|.esl|.nsl=>.ret .any|.sl b g off len s=>match len with|0=>.ret .any|len+1=>if s=sz then .cells b g fun cs=>if off+(len+1)*sz<=cs.length/\zero.length=sz/\zero.all AV.one=true then .put b (.cells g (putR cs off (List.replicate (len+1) zero).flatten)) (.ret .any)else .fail else .fail
 |.typed _ (_+1) (.sl b g off (len+1) s)=>if s=sz then .cells b g fun cs=>if off+(len+1)*sz<=cs.length/\zero.length=sz/\zero.all AV.one=true then .put b (.cells g (putR cs off (List.replicate (len+1) zero).flatten)) (.ret .any)else .fail else .fail|_=>.fail
theorem Qka{zero:List AV}(h:zero.all AV.one=true):∀n:Nat,((List.replicate n zero).flatten).all AV.one=true|0=>rfl|n+1=>by simp_all
theorem QnF{t e ty:TypeId}{sz:Nat}{zero:List AV}{x v:AV}{L:Value}{K:TypeInfo}{z:Value}{h':Heap}(H:HRel c h w)(l:VRel c w x L)(u:P.underlying t=some (.slice e))(hi:P.info? e=some K)(V:K.zero=some z)(S:z.cells.size=sz)(hc:cOKs zero z.cells.toList=true)(hm:(aClear sz zero x).run h=some (v,h')):Sound P c w (Builtin.clear_ #[t] ty #[L]) v h':=by
 unfold aClear at hm;split at hm;·simp only[HM.run,Zab,Zaj]at hm;obtain⟨rfl,rfl⟩:=hm;simp only[VRel]at l;subst l;exact .here H (cv:=.tuple #[]) (by simp[Builtin.clear_,run_underlying u]) (by simp[VRel])
 ·simp only[HM.run,Zab,Zaj]at hm;obtain⟨rfl,rfl⟩:=hm;simp only[VRel]at l;obtain⟨a,rfl⟩:=l;exact .here H (cv:=.tuple #[]) (by cases a<;>simp[Builtin.clear_,run_underlying u]) (by simp[VRel])
 ·simp only[HM.run,Zab,Zaj]at hm;obtain⟨rfl,rfl⟩:=hm;simp only[VRel]at l;obtain⟨a,k,rfl⟩:=l;exact .here H (cv:=.tuple #[]) (by simp[Builtin.clear_,run_underlying u]) (by simp[VRel])
 ·rename_i b g off len s;split at hm
  ·simp only[HM.run,Zab,Zaj]at hm;obtain⟨rfl,rfl⟩:=hm;simp only[VRel]at l;rcases l with⟨_,_,_,rfl⟩|⟨N,base,o,cap,C,r,M,hp,rfl,_⟩;·exact .here H (cv:=.tuple #[]) (by simp[Builtin.clear_,run_underlying u]) (by simp[VRel])
   exact .here H (cv:=.tuple #[]) (by simp[Builtin.clear_,run_underlying u]) (by simp[VRel])
  rename_i len;split at hm
  ·rename_i A;subst A;obtain⟨cs,J,hm⟩:=Qa6 hm;split at hm
   ·rename_i i;obtain⟨Q,q,p⟩:=i;obtain⟨m,hm⟩:=QaU hm;simp only[HM.run,Zab,Zaj]at hm;obtain⟨rfl,rfl⟩:=hm;simp only[VRel]at l;rcases l with⟨_,T,_⟩|⟨N,base,o,cap,C,r,M,hp,rfl,E,U,f⟩;·omega
    obtain⟨rfl,f⟩:=f.resolve_left (by omega);have d:VRels c w (List.replicate (len+1) zero).flatten (Builtin.zeroCells z.cells (len+1)).toList:=QcJ (c:=c) (w:=w) (Qcd _ _ hc) (len+1);have hlen:((List.replicate (len+1) zero).flatten).length=(len+1)*s:=by simp[q]
    obtain⟨B,I,R,y,G⟩:=Qdi (P:=P) H J m hp (vs:=(List.replicate (len+1) zero).flatten) (off:=off) (by omega) d (onesI d (Qka p _));refine⟨.tuple #[],B,I,?_,y,G,by simp[VRel]⟩;simp_all[Builtin.clear_,run_underlying,zeroValue,typeInfo]
   grind[HM.run]
  grind[HM.run]
 ·rename_i b g off len s;split at hm
  ·rename_i A;subst A;obtain⟨cs,J,hm⟩:=Qa6 hm;split at hm
   ·rename_i i;obtain⟨Q,q,p⟩:=i;obtain⟨m,hm⟩:=QaU hm;simp only[HM.run,Zab,Zaj]at hm;obtain⟨rfl,rfl⟩:=hm;simp only[VRel]at l;replace l:=l.2;rcases l with⟨_,T,_⟩|⟨N,base,o,cap,C,r,M,hp,rfl,E,U,f⟩;·omega
    obtain⟨rfl,f⟩:=f.resolve_left (by omega);have d:VRels c w (List.replicate (len+1) zero).flatten (Builtin.zeroCells z.cells (len+1)).toList:=QcJ (c:=c) (w:=w) (Qcd _ _ hc) (len+1);have hlen:((List.replicate (len+1) zero).flatten).length=(len+1)*s:=by simp[q]
    obtain⟨B,I,R,y,G⟩:=Qdi (P:=P) H J m hp (vs:=(List.replicate (len+1) zero).flatten) (off:=off) (by omega) d (onesI d (Qka p _));refine⟨.tuple #[],B,I,?_,y,G,by simp[VRel]⟩;simp_all[Builtin.clear_,run_underlying,zeroValue,typeInfo]
   grind[HM.run]
  grind[HM.run]
 grind[HM.run]
end Go.AM
namespace Go.AM
variable{P:Program}{ok:Okc}{c:Ctx ok}{w:World}{h:Heap}
inductive AOut where|val(v:AV)|call(m:CallM)(f:Nat)(args:List AV)|round(b g:Nat)(args:List AV)
def mapH(f:AV->HM AV):List AV->HM (List AV)|[]=>.ret []|x::xs=>(f x).bind fun y=>(mapH f xs).bind fun a=>.ret (y::a)
def frzH:Nat->AV->HM AV|0,v=>.ret v|d+1,v=>match v with|.sl b g off len sz=>.cells b g fun cs=>if off+len*sz<=cs.length then(mapH (frzH d) ((cs.drop off).take (len*sz))).bind fun a=>.ret (.fsl a len sz)else .fail|.ptr b g off=>.cells b g fun cs=>(mapH (frzH d) (cs.drop off)).bind fun a=>.ret (.fptr a)|.agg cs=>(mapH (frzH d) cs).bind fun a=>.ret (.agg a)|.tup cs=>(mapH (frzH d) cs).bind fun a=>.ret (.tup a)|v=>.ret v
mutual def noRef:AV->Bool|.ptr ..|.sl ..|.map ..|.yld ..|.typed ..=>false|.agg cs|.tup cs|.fptr cs|.fsl cs _ _=>noRefs cs|.fmap ks vs=>noRefs ks&&noRefs vs|.fn _ x y=>noRefs x&&noRefs y|.ifc _ v=>noRef v|.any|.bool _|.int _ _|.str _|.nilptr|.nilsl|.esl|.nsl|.nilmap|.nilfn|.nilif=>true termination_by structural x=>x def noRefs:List AV->Bool|[]=>true|x::xs=>noRef x&&noRefs xs termination_by structural x=>x end
def hasB:List Nat->Nat->Bool|[],_=>false|x::xs,b=>bif Nat.beq x b then true else hasB xs b
theorem Qdm{B:List Nat}{b:Nat}:hasB B b=true↔b∈B:=by induction B with|nil=>simp[hasB]|cons x xs a=>
 simp only[hasB];by_cases e:x=b;·subst e;simp
 have :Nat.beq x b=false:=by simp_all[ZaA]
 grind
mutual def inB(B:List Nat):AV->Bool|.ptr b _ _=>hasB B b|.sl b _ _ _ _=>hasB B b|.map b _=>hasB B b|.yld b _=>hasB B b|.agg cs|.tup cs|.fptr cs|.fsl cs _ _=>inBs B cs|.fmap ks vs=>inBs B ks&&inBs B vs|.fn _ x y=>inBs B x&&inBs B y|.ifc _ v=>inB B v|.typed _ _ v=>inB B v|.any|.bool _|.int _ _|.str _|.nilptr|.nilsl|.esl|.nsl|.nilmap|.nilfn|.nilif=>true termination_by structural x=>x def inBs(B:List Nat):List AV->Bool|[]=>true|x::xs=>inB B x&&inBs B xs termination_by structural x=>x end
def inBe(B:List Nat):List (AV×AV)->Bool|[]=>true|p::r=>inB B p.1&&inB B p.2&&inBe B r
mutual def flatV:AV->Bool|.ptr ..|.sl ..|.map ..|.yld ..|.fptr _|.fsl ..|.fmap ..|.typed ..=>false|.agg cs|.tup cs=>flatVs cs|.fn _ x y=>flatVs x&&flatVs y|.ifc _ v=>flatV v|.any|.bool _|.int _ _|.str _|.nilptr|.nilsl|.esl|.nsl|.nilmap|.nilfn|.nilif=>true termination_by structural x=>x def flatVs:List AV->Bool|[]=>true|x::xs=>flatV x&&flatVs xs termination_by structural x=>x end
def lift(r:Option AV):HM AOut:=match r with|some v=>.ret (.val v)|none=>.fail
def hval(m:HM AV):HM AOut:=m.bind fun v=>.ret (.val v)
def aPick(c a b:AV):Option AV:=match c with|.bool t=>some (if t then a else b)|_=>none
def aNil(x:AV):Option AV:=match x with|.ptr ..|.fptr _|.fn ..|.ifc ..|.typed ..=>some x|_=>none
def aSliceC(sz:Option Nat)(x:AV)(l h m:Option AV):Option AV:=match sz,x with|some n,.sl _ _ _ _ s=>if s=n then aSlice x l h m else none|some n,.fsl _ _ s=>if s=n then aSlice x l h m else none|some _,.nilsl=>aSlice x l h m|some _,.esl=>aSlice x l h m|none,.str _=>aSlice x l h m|_,_=>none
def aLenC(k:Nat)(x:AV):HM AV:=if lenKind x=k then aLen x else .fail
def evs(T:Tmps)(xs:List Opd):List AV:=xs.map (ev T)
def evParts(T:Tmps)(xs:List (Nat×Nat×Opd)):List (Nat×Nat×AV):=xs.map fun p=>(p.1,p.2.1,ev T p.2.2)
def evo(T:Tmps)(x:Option Opd):Option AV:=x.map (ev T)
def aCall(m:CallM)(x:AV)(args:List AV):HM AOut:=match x with
 |.fn f first captured=>match m with|.borrow=>(mapH (frzH 4) (first++args++captured)).bind fun a=>.ret (.call .borrow f a)|m=>.ret (.call m f (first++args++captured))
 |.yld b g=>match m with|.heap=>.ret (.round b g args)|_=>.fail
 |_=>.fail
def aop(i:Nat)(T:Tmps):SOp->HM AOut|.mov x=>.ret (.val (ev T x))|.pick c a b=>lift (aPick (ev T c) (ev T a) (ev T b))|.alloc s z=>hval (aBox s i z)|.allocT t s z=>hval (aBoxT t s i z)|.box s x=>hval (aBox s i (ev T x))|.build zero parts=>lift (aBuild zero (evParts T parts))|.bslice fz s sz len zero parts=>hval (aBuildSlice fz s i sz len zero (evParts T parts))|.load n x=>hval (aLoad n (ev T x))|.store n x v=>hval (aStore n (ev T x) (ev T v))|.nilchk x=>lift (aNil (ev T x))|.bin op x y=>lift (aBin op (ev T x) (ev T y))|.eq k neg x y=>lift (aEq k neg (ev T x) (ev T y))|.eqn neg x=>hval (aEqN neg (ev T x))|.cap x=>lift (aCap (ev T x))|.ment row ks zero x k=>hval (aMapEnt row ks zero (ev T x) (ev T k))|.estore x s v=>hval (aEntSt (ev T x) (ev T s) (ev T v))|.clear sz _ zero x=>hval (aClear sz zero (ev T x))|.appendZ s sz bytes zero x n=>hval (aAppendZ s i sz bytes zero (ev T x) (ev T n))|.eqp neg x y=>lift (aEqP neg (ev T x) (ev T y))|.convP t n x=>lift (aConvP t n (ev T x))|.usd x=>lift (aUsd (ev T x))|.ustr t x n=>hval (aUstr t (ev T x) (ev T n))|.un op x=>lift (aUn op (ev T x))|.conv k x=>lift (aConv k (ev T x))|.convS x=>lift (aConvS (ev T x))|.convB x=>hval (aConvB (ev T x))|.ext k _ args=>lift (aExt k (evs T args))|.mkfn f xs d=>.ret (.val (.fn f (evs T xs) (evs T d)))|.mkmap s=>hval (aMakeMap s i)|.mkslice s sz bytes zero l c=>hval (aMakeSlice s i sz bytes zero (ev T l) (ev T c))|.slice sz x l h m=>lift (aSliceC sz (ev T x) (evo T l) (evo T h) (evo T m))|.sliceK sz x l h=>lift (aSliceK sz (ev T x) (evo T l) (evo T h))|.faddr off x=>lift (aFAddr off (ev T x))|.field n off x=>lift (aField n off (ev T x))|.iaddr arr sz x j=>lift (aIAddr arr sz (ev T x) (ev T j))|.index arr x j=>lift (aIndex arr (ev T x) (ev T j))|.lookup row ks zero ok x k=>hval (aLookup row ks zero ok (ev T x) (ev T k))|.mupd row ks x k v=>hval (aMapUpd row ks (ev T x) (ev T k) (ev T v))|.extract j x=>lift (aExtract j (ev T x))|.len k x=>hval (aLenC k (ev T x))|.append s sz bytes x y=>hval (aAppend s i sz bytes (ev T x) (ev T y))|.appendT t s sz bytes x y=>hval (aAppendT t s i sz bytes (ev T x) (ev T y))|.copy sz x y=>hval (aCopy sz (ev T x) (ev T y))|.maxmin mn xs=>lift (aMax mn (evs T xs))|.call m x args=>aCall m (ev T x) (evs T args)|.bad=>.fail
def okOpd:Operand->Opd->Bool|.tmp t,.t i=>t==i|.const v,.c x=>cOK x v|.func f,.f n=>f==n|.global g,.g n=>g==n|_,_=>false
def okOpds:List Operand->List Opd->Bool|[],[]=>true|x::xs,y::a=>okOpd x y&&okOpds xs a|_,_=>false
def okOpdo:Option Operand->Option Opd->Bool|none,none=>true|some x,some y=>okOpd x y|_,_=>false
def okParts(place:Nat->Option (Nat×Nat)):List (Nat×Operand)->List (Nat×Nat×Opd)->Bool|[],[]=>true|(i,x)::xs,(off,size,y)::a=>(match place i with|some (o,s)=>o==off&&s==size|none=>false)&&okOpd x y&&okParts place xs a|_,_=>false
def LK.same:LK->LK->Bool|.b,.b|.i,.i|.s,.s=>true|_,_=>false
def LK.sames:List LK->List LK->Bool|[],[]=>true|x::xs,y::a=>x.same y&&LK.sames xs a|_,_=>false
def mapTB(P:Program)(t:TypeId)(row:Bool)(ks:List LK):Bool:=match P.underlying t with|some (.map b _)=>rowB P b==row&&(match flatK P 40 b with|some a=>LK.sames ks a|none=>false)|_=>false
def mapElemZero(P:Program)(t:TypeId)(zero:AV):Bool:=match P.underlying t with|some (.map _ a)=>(match zeroOf P a with|some b=>cOK zero b|none=>false)|_=>false
def buildTB(P:Program)(t:TypeId):Bool:=match P.underlying t with|some (.array _ e)=>(P.info? e).isSome|some (.struct fields)=>(fields.toList.mapM (fun f=>(P.info? f.type).map fun i=>(f.offset,i.size))).isSome|_=>false
def elemTB(P:Program)(t:TypeId)(sz bytes:Nat)(k:TypeInfo->Value->Bool):Bool:=match P.underlying t with|some (.slice e)=>(match P.info? e with|some a=>a.size==sz&&a.bytes==bytes&&(match a.zero with|some z=>k a z|none=>false)|none=>false)|_=>false
def notInt(P:Program)(t:TypeId):Bool:=match P.underlying t with|some (.int _)|none=>false|_=>true
def isConstO:Operand->Bool|.const _=>true|_=>false
def okCall(P:Program)(c:Call)(s:SOp):Bool:=match c.callee,s with|.value f,.call _ x args=>okOpd f x&&okOpds c.args.toList args|.builtin .len,.len k x=>(match c.args.toList,c.argTypes.toList with|[y],[t]=>okOpd y x&&lenT P t k|_,_=>false)|.builtin .cap,.cap x=>(match c.args.toList,c.argTypes.toList with|[y],[t]=>okOpd y x&&capT P t|_,_=>false)|.builtin .append,.append _ sz bytes x y=>(match c.args.toList,c.argTypes.toList with|[a,b],[t,d]=>okOpd a x&&okOpd b y&&notInt P d&&elemTB P t sz bytes (fun h z=>z.cells.size==sz)|_,_=>false)|.builtin .append,.appendT e _ sz bytes x y=>(match c.args.toList,c.argTypes.toList with|[a,b],[t,d]=>okOpd a x&&okOpd b y&&notInt P d&&elemTB P t sz bytes (fun h z=>z.cells.size==sz)&&(match P.underlying t with|some (.slice i)=>i==e|_=>false)|_,_=>false)|.builtin .append,.appendZ _ sz bytes zero x y=>(match c.args.toList,c.argTypes.toList with|[a,b],[t,d]=>okOpd a x&&okOpd b y&&(match P.underlying d with|some (.int _)=>true|_=>false)&&elemTB P t sz bytes (fun h z=>z.cells.size==sz&&cOKs zero z.cells.toList)|_,_=>false)|.builtin .clear,.clear sz bytes zero x=>(match c.args.toList,c.argTypes.toList with|[a],[t]=>okOpd a x&&elemTB P t sz bytes (fun h z=>z.cells.size==sz&&cOKs zero z.cells.toList)|_,_=>false)|.builtin .unsafeSliceData,.usd x=>(match c.args.toList with|[y]=>okOpd y x|_=>false)|.builtin .unsafeString,.ustr t x n=>(match c.args.toList,c.argTypes.toList with|[a,m],[l,_]=>okOpd a x&&okOpd m n&&ustrT P l t|_,_=>false)|.builtin .copy,.copy sz x y=>(match c.args.toList,c.argTypes.toList with|[a,b],[t,_]=>okOpd a x&&okOpd b y&&(match P.underlying t with|some (.slice e)=>(match P.info? e with|some h=>h.size==sz|none=>false)|_=>false)|_,_=>false)|.builtin .max,.maxmin false xs=>okOpds c.args.toList xs|.builtin .min,.maxmin true xs=>okOpds c.args.toList xs|.value (.func g),.ext k f xs=>g==f&&extFn P f k&&okOpds c.args.toList xs|_,_=>false
def okOp(P:Program)(o:Op)(s:SOp):Bool:=match o,s with|.move x,.mov y=>okOpd x y|.assign x,.mov y=>okOpd x y|.pick c a b,.pick C L M=>okOpd c C&&okOpd a L&&okOpd b M|.alloc t,.alloc _ z=>(match zeroOf P t with|some w=>cOK z w|none=>false)|.alloc t,.allocT S _ z=>t==S&&(match zeroOf P t with|some w=>cOK z w|none=>false)|.box _ x,.box _ y=>okOpd x y|.build t parts,.build zero I=>(match zeroOf P t with|some w=>cOKs zero w.cells.toList|none=>false)&&buildTB P t&&okParts (placeOf P t) parts.toList I|.buildSlice t len parts,.bslice _ _ sz A zero I=>len==A&&decide (len*sz<=16777216)&&(match P.underlying t with|some (.slice e)=>(match P.info? e with|some E=>E.size==sz&&(match E.zero with|some z=>cOKs zero (zeroRow z.cells (len*sz)).toList|none=>false)|none=>false)|_=>false)&&okParts (fun i=>some (i*sz,sz)) parts.toList I|.load t x,.load n y=>rowT P t n&&okOpd x y|.store t x v,.store n d r=>(match P.info? t with|some i=>i.size==n|none=>false)&&okOpd x d&&okOpd v r|.nilCheck x,.nilchk y=>okOpd x y|.binOp op _ x y _,.bin q d u=>op==q&&okOpd x d&&okOpd y u|.binOp op t x y _,.eq k neg d u=>op==(if neg then .neq else .eql)&&eqT P t k&&okOpd x d&&okOpd y u&&(match k with|.nil _=>isConstO y|_=>true)|.binOp op t x y _,.eqn neg d=>op==(if neg then .neq else .eql)&&eqT P t (.nil 2)&&okOpd x d&&isConstO y&&okOpd y (.c .nilsl)|.binOp op t x y _,.eqp neg d u=>op==(if neg then .neq else .eql)&&eqPT P t&&okOpd x d&&okOpd y u|.unOp op _ x,.un q y=>op==q&&okOpd x y|.convert src dst x,.conv k y=>convT P src dst k&&okOpd x y|.convert src dst x,.convS y=>convST P src dst&&okOpd x y|.convert src dst x,.convB y=>convBT P src dst&&okOpd x y|.convert src dst x,.convP t n y=>convPT P src dst t n&&okOpd x y|.makeFunc (.func f) first captured,.mkfn K xs R=>f==K&&okOpds first.toList xs&&okOpds captured.toList R|.makeMap _ none,.mkmap _=>true|.makeSlice t l c,.mkslice _ sz bytes zero B C=>okOpd l B&&okOpd c C&&elemTB P t sz bytes (fun E z=>z.cells.size==sz&&cOKs zero z.cells.toList)|.slice t x l h m,.slice sz d B G g=>sliceT P t sz&&okOpd x d&&okOpdo l B&&okOpdo h G&&okOpdo m g|.slice t x l h none,.sliceK sz d B G=>sliceT P t (some sz)&&okOpd x d&&okOpdo l B&&okOpdo h G|.fieldAddr s x f,.faddr off y=>faddrT P s f off&&okOpd x y|.field s x f,.field n off y=>fieldT P s f off n&&okOpd x y|.indexAddr t x i,.iaddr arr sz d J=>iaddrT P t arr sz&&okOpd x d&&okOpd i J|.index t x i,.index arr d J=>indexT P t arr&&okOpd x d&&okOpd i J|.lookup t x k ok,.lookup row ks zero H d p=>mapTB P t row ks&&mapElemZero P t zero&&ok==H&&okOpd x d&&okOpd k p|.mapEntry t m k,.ment row ks zero g p=>mapTB P t row ks&&mapElemZero P t zero&&okOpd m g&&okOpd k p|.entryStore _ m s v,.estore g Q r=>okOpd m g&&okOpd s Q&&okOpd v r|.mapUpdate t m k v,.mupd row ks g p r=>mapTB P t row ks&&okOpd m g&&okOpd k p&&okOpd v r|.insert t m k v,.mupd row ks g p r=>mapTB P t row ks&&okOpd m g&&okOpd k p&&okOpd v r|.extract x i,.extract j y=>i==j&&okOpd x y|_,.bad=>true|.call N,s=>okCall P N s|_,_=>false
theorem run_bind{α β:Type}{m:HM α}{f:α->HM β}{h:Heap}{r:β×Heap}(hm:(m.bind f).run h=some r):∃a h1,m.run h=some (a,h1)/\(f a).run h1=some r:=by induction m generalizing h with|ret a=>exact⟨a,h,rfl,hm⟩|fail=>simp[HM.bind,HM.run]at hm|look b k c=>simp only[HM.bind,HM.run]at hm;obtain⟨a,h1,k1,k2⟩:=c _ hm;exact⟨a,h1,by grind[HM.run],k2⟩|put b x k c=>
 simp only[HM.bind]at hm;obtain⟨d,hm⟩:=QaU hm;obtain⟨a,h1,k1,k2⟩:=c hm;refine⟨a,h1,?_,k2⟩;simp only[HM.run];have:Nat.blt b lim=true:=by simp_all
 rw[this];exact k1
theorem QaK{m:HM AV}{h:Heap}{r:AOut×Heap}(hm:(hval m).run h=some r):∃v h1,m.run h=some (v,h1)/\r=(.val v,h1):=by obtain⟨v,h1,k1,k2⟩:=run_bind hm;grind[HM.run]
theorem QaN{o:Option AV}{h:Heap}{r:AOut×Heap}(hm:(lift o).run h=some r):∃v,o=some v/\r=(.val v,h):=by unfold lift at hm;cases o with|none=>simp[HM.run]at hm|some v=>simp only[HM.run,Zab]at hm;exact⟨v,rfl,hm.symm⟩
def lent(c:Ctx ok):Ctx ok:={c with F:=fun k=>c.F k\/c.O k,O:=fun _=>False}
theorem Qib(c:Ctx ok)(w:World):Ext c w (lent c) w:=⟨fun _ _ _ h=>h,fun _ h=>.inl h,fun _ _ _ h=>h,fun _ C _ a h=>⟨C,a,h,rfl⟩⟩
theorem Qc5{f:AV->HM AV}(hf:∀(x y:AV)(v:Value)(h':Heap),VRel c w x v->(f x).run h=some (y,h')->h'=h/\VRel (lent c) w y v):∀(xs ys:List AV)(vs:List Value)(h':Heap),VRels c w xs vs->(mapH f xs).run h=some (ys,h')->h'=h/\VRels (lent c) w ys vs|[],ys,vs,h',b,hm=>by simp only[mapH,HM.run,Zab,Zaj]at hm;obtain⟨rfl,rfl⟩:=hm;simp_all[VRels]|x::xs,ys,vs,h',b,hm=>by simp only[mapH]at hm;obtain⟨y,h1,k1,k2⟩:=run_bind hm;obtain⟨a,l,k3,k4⟩:=run_bind k2;simp only[VRels]at b;obtain⟨v,d,rfl,g,k⟩:=b;obtain⟨i,m⟩:=hf x y v h1 g k1;rw[i]at k3;obtain⟨p,o⟩:=Qc5 hf xs a d l k k3;simp only[HM.run,Zab,Zaj]at k4;obtain⟨rfl,rfl⟩:=k4;simp only[VRels];grind
theorem Qer{f:AV->HM AV}(hf:∀(x y:AV)(v:Value)(h':Heap),VRel c w x v->(f x).run h=some (y,h')->h'=h/\VRel (lent c) w y v):∀(xs ys:List AV)(vs:List Value)(h':Heap),VPre c w xs vs->(mapH f xs).run h=some (ys,h')->h'=h/\VPre (lent c) w ys vs|[],ys,vs,h',b,hm=>by simp only[mapH,HM.run,Zab,Zaj]at hm;obtain⟨rfl,rfl⟩:=hm;simp[VPre]|x::xs,ys,vs,h',b,hm=>by simp only[mapH]at hm;obtain⟨y,h1,k1,k2⟩:=run_bind hm;obtain⟨a,l,k3,k4⟩:=run_bind k2;simp only[VPre]at b;obtain⟨v,d,rfl,g,k⟩:=b;obtain⟨i,m⟩:=hf x y v h1 g k1;rw[i]at k3;obtain⟨p,o⟩:=Qer hf xs a d l k k3;simp only[HM.run,Zab,Zaj]at k4;obtain⟨rfl,rfl⟩:=k4;simp only[VPre];grind
theorem Qhx{f:AV->HM AV}:∀(xs ys:List AV)(h h':Heap),(mapH f xs).run h=some (ys,h')->ys.length=xs.length|[],ys,h,h',hm=>by simp only[mapH,HM.run,Zab,Zaj]at hm;simp_all|x::xs,ys,h,h',hm=>by simp only[mapH]at hm;obtain⟨y,h1,k1,k2⟩:=run_bind hm;obtain⟨a,b,k3,k4⟩:=run_bind k2;simp only[HM.run,Zab,Zaj]at k4;obtain⟨rfl,rfl⟩:=k4;simp[Qhx xs a _ _ k3]
theorem QeP(H:HRel c h w):∀(d:Nat)(x y:AV)(v:Value)(h':Heap),VRel c w x v->(frzH d x).run h=some (y,h')->h'=h/\VRel (lent c) w y v
 |0,x,y,v,h',a,hm=>by simp only[frzH,HM.run,Zab,Zaj]at hm;obtain⟨rfl,rfl⟩:=hm;exact⟨rfl,Zcl (Qib c w) _ _ a⟩|d+1,x,y,v,h',a,hm=>by
  have m:=QeP H d;have same:(HM.ret x).run h=some (y,h')->h'=h/\VRel (lent c) w y v:=by intro hm;simp only[HM.run,Zab,Zaj]at hm;obtain⟨rfl,rfl⟩:=hm;exact⟨rfl,Zcl (Qib c w) _ _ a⟩
  cases x<;>simp only[frzH]at hm<;>try(exact same hm)
  case sl b g off len sz=>
   obtain⟨cs,u,hm⟩:=Qa6 hm;split at hm
   ·rename_i N;obtain⟨l,h1,k1,k2⟩:=run_bind hm;simp only[HM.run,Zab,Zaj]at k2;obtain⟨rfl,rfl⟩:=k2;have hlen:=Qhx _ _ _ _ k1;simp only[VRel]at a;rcases a with⟨hp,rfl,rfl,rfl⟩|⟨G,base,o,cap,C,e,A,hp,rfl,t,s,q⟩
    ·have f:l=[]:=by simp_all
     subst f;obtain⟨rfl,_⟩:=Qer m _ _ [] _ (by simp[VPre]) k1;exact⟨rfl,by simp_all[VRel]⟩
    obtain⟨C',P,J,I,p,E,B,k⟩:=H.here u hp;rw[s]at p;cases p;by_cases M:cap=0
    ·have z:len=0:=by omega
     subst z;have f:l=[]:=by simp_all
     subst f;obtain⟨rfl,_⟩:=Qer m _ _ [] _ (by simp[VPre]) k1;refine⟨rfl,?_⟩;simp only[VRel];simp_all
    obtain⟨rfl,K⟩:=q.resolve_left M;have i:=Qb7 (len*sz) (Qba off k);rw[ZaW]at i;obtain⟨rfl,r⟩:=Qer m _ _ _ _ i k1;refine⟨rfl,?_⟩;simp only[VRel];exact .inr ⟨G,base+off,cap,C,e,A,rfl,t,by grind,.inr I,s,r⟩
   grind[HM.run]
  case ptr b g off=>obtain⟨cs,u,hm⟩:=Qa6 hm;obtain⟨l,h1,k1,k2⟩:=run_bind hm;simp only[HM.run,Zab,Zaj]at k2;obtain⟨rfl,rfl⟩:=k2;simp only[VRel]at a;obtain⟨G,base,hp,rfl⟩:=a;obtain⟨C,e,A,I,s,E,B,k⟩:=H.here u hp;have i:=Qba off k;rw[ZaW]at i;obtain⟨rfl,r⟩:=Qer m _ _ _ _ i k1;refine⟨rfl,?_⟩;simp only[VRel];exact⟨G,base+off,C,e,A,rfl,.inr I,s,r⟩
  case agg cs=>obtain⟨l,h1,k1,k2⟩:=run_bind hm;simp only[HM.run,Zab,Zaj]at k2;obtain⟨rfl,rfl⟩:=k2;simp only[VRel]at a;obtain⟨L,rfl,a⟩:=a;obtain⟨rfl,r⟩:=Qc5 m _ _ _ _ a k1;exact⟨rfl,by simp only[VRel];simp_all⟩
  case tup cs=>obtain⟨l,h1,k1,k2⟩:=run_bind hm;simp only[HM.run,Zab,Zaj]at k2;obtain⟨rfl,rfl⟩:=k2;simp only[VRel]at a;obtain⟨L,rfl,a⟩:=a;obtain⟨rfl,r⟩:=Qc5 m _ _ _ _ a k1;exact⟨rfl,by simp only[VRel];simp_all⟩
def TRel(c:Ctx ok)(w:World)(T:Tmps)(a:Act):Prop:=∀i,VRel c w (lk T i) (a.tmps.getD i undef)
theorem Qas{T:Tmps}{a:Act}(d:TRel c w T a){x:Operand}{y:Opd}(b:okOpd x y=true):VRel c w (ev T y) (a.eval x):=by
 cases x<;>cases y<;>simp only[okOpd,Zao,beq_iff_eq]at b;·subst b;exact d _
 ·exact Qec _ _ b
 ·simp[ev,VRel]
 subst b;simp only[ev,VRel,Act.eval];exact⟨#[],#[],rfl,by simp[VRels],by simp[VRels]⟩
theorem Qcf{T:Tmps}{a:Act}(d:TRel c w T a):∀{xs:List Operand}{ys:List Opd},okOpds xs ys=true->VRels c w (evs T ys) (xs.map a.eval)|[],[],_=>by simp[evs,VRels]|[],_::_,b=>by simp[okOpds]at b|_::_,[],b=>by simp[okOpds]at b|x::xs,y::ys,b=>by simp only[okOpds,Zaa]at b;simp only[evs,ZaJ,VRels];exact⟨_,_,rfl,Qas d b.1,Qcf d b.2⟩
theorem Qc6{T:Tmps}{a:Act}(d:TRel c w T a){x:Option Operand}{y:Option Opd}(b:okOpdo x y=true):ORel c w (evo T y) (x.map a.eval):=by
 cases x<;>cases y<;>simp only[okOpdo,Zao]at b;·simp[evo,ORel]
 exact Qas d b
theorem Qe3{T:Tmps}{a:Act}(d:TRel c w T a){place:Nat->Option (Nat×Nat)}:∀{xs:List (Nat×Operand)}{ys:List (Nat×Nat×Opd)},okParts place xs ys=true->PartsRel c w place (evParts T ys) (xs.map fun p=>(p.1,a.eval p.2))|[],[],_=>by simp[evParts,PartsRel]|[],_::_,b=>by simp[okParts]at b|_::_,[],b=>by simp[okParts]at b|(i,x)::xs,(off,size,y)::ys,b=>by simp only[okParts,Zaa]at b;obtain⟨⟨h1,g⟩,f⟩:=b;simp only[evParts,ZaJ,PartsRel];refine⟨_,_,_,rfl,?_,Qas d g,Qe3 d f⟩;grind
def Callable(P:Program)(f:Nat):Prop:=∃fn,P.funcs[f]?=some fn/\fn.body.isSome=true/\(fn.name== "runtime.NumGoroutine")=false
def Done(P:Program)(c:Ctx ok)(h:Heap)(w:World)(s:Sem Next):AOut->Heap->Prop|.val v,d=>∃k o l i,s.run P w=.ok k i/\(k=.value o\/k=.skip/\o=undef)/\Evo c w l i/\HRel l d i/\VRel l i v o|.call m f args,d=>d=h/\∃a:Array Value,(Callable P f->s.run P w=.ok (.enter f a) w)/\(m≠.borrow->VRels c w args a.toList)/\(m=.borrow->VRels (lent c) w args a.toList)|.round b g args,d=>d=h/\∃(p:Nat)(a:Array Value),c.ρ b g=some (.loc p 0)/\VRels c w args a.toList/\s.run P w=(Instr.yield p a).run P w
theorem Done.ofSound{s:Sem Value}{v:AV}{h':Heap}(d:Sound P c w s v h'):Done P c h w (do pure (.value (<-s))) (.val v) h':=by obtain⟨a,f,k,h1,i,b,g⟩:=d;exact⟨.value a,a,f,k,by simp[h1],.inl rfl,i,b,g⟩
theorem Done.ofPure{s:Sem Value}{v:AV}(H:HRel c h w)(a:Pure P c w s v):Done P c h w (do pure (.value (<-s))) (.val v) h:=.ofSound (a.sound H)
theorem Done.ofU{s:Sem Unit}{v:AV}{h':Heap}(i:SoundU P c w s h')(d:v=.any):Done P c h w (do s;pure .skip) (.val v) h':=by obtain⟨b,f,h1,a,g⟩:=i;subst d;exact⟨.skip,undef,b,f,by simp[h1],.inr ⟨rfl,rfl⟩,a,g,by simp[VRel]⟩
theorem QsY{k a:LK}(b:LK.same k a=true):k=a:=by cases k<;>cases a<;>simp[LK.same]at b<;>rfl
theorem QlM:∀{ks ks':List LK},LK.sames ks ks'=true->ks=ks'|[],[],_=>rfl|[],_::_,hh=>by simp[LK.sames]at hh|_::_,[],hh=>by simp[LK.sames]at hh|k::ks,k'::ks',hh=>by simp only[LK.sames,Zaa]at hh;rw[QsY hh.1,QlM hh.2]
theorem QfB{t:TypeId}{row:Bool}{ks:List LK}(a:mapTB P t row ks=true):∃c b,MapT P t row ks c b:=by
 unfold mapTB at a;split at a
 ·rename_i c b g;simp only[Zaa,beq_iff_eq]at a;obtain⟨h1,d⟩:=a;split at d;·rename_i f h;exact⟨c,b,g,by rw[h,QlM d],h1⟩
  cases d
 cases a
theorem QdF{t:TypeId}{a:Value}(b:zeroOf P t=some a):∃i,P.info? t=some i/\i.zero=some a:=by unfold zeroOf at b;cases hi:P.info? t with|none=>simp[hi]at b|some i=>exact⟨i,rfl,by simp_all⟩
theorem QdL{t:TypeId}{sz bytes:Nat}{k:TypeInfo->Value->Bool}(b:elemTB P t sz bytes k=true):∃e a z,P.underlying t=some (.slice e)/\P.info? e=some a/\a.size=sz/\a.bytes=bytes/\a.zero=some z/\k a z=true:=by grind[elemTB]
theorem QpW{x v:AV}{a:Value}(b:VRel c w x a)(hm:aNil x=some v):(match a with
 |.pointer none|.nilIface|.nilFunc=>(runtimePanic .nilDeref:Sem Next)|.func (.method name) first captured=>
  match(first[0]?:Option Value)with|some .nilIface=>runtimePanic .nilDeref|some (.iface t w)=>do
   if(<-nilAhead ((<-program).types.size+Made.depth) t w name)!=some false then unsupported (.noEntry "op/nilCheck.the method's receiver behind this interface value is a nil pointer, or cannot be seen to be none, and the arguments act or may panic (ledger 612)")
   pure (.value (.func (.method name) first captured))|_=>pure (.value (.func (.method name) first captured))
 |x=>pure (.value x))=pure (.value a)/\v=x:=by
 unfold aNil at hm;split at hm<;>first|(cases hm;done)|(cases hm;simp only[VRel]at b)
 ·grind
 ·grind
 ·grind
 ·grind
 rcases b.1 with⟨_,_,_,h1|⟨_,_,_,h1⟩,_⟩|⟨_,_,_,_,h1,_⟩<;>(subst h1;exact⟨rfl,rfl⟩)
theorem Qgq{f:Nat}{args:Array Value}(hc:Callable P f)(w:World):(callFunc f args).run P w=.ok (.enter f args) w:=by
 obtain⟨fn,h1,c,b⟩:=hc;have a:fn.body.isNone=false:=by simp_all
 simp only[callFunc,Sem.run_bind,run_program,Result.andThen_ok,h1,b,a,Zao,if_false,Sem.run_pure]
theorem QnG{x:AV}{args:List AV}{s:Value}{a:Array Value}{m:CallM}{out:AOut}{h':Heap}(H:HRel c h w)(l:VRel c w x s)(t:VRels c w args a.toList)(hm:(aCall m x args).run h=some (out,h')):Done P c h w (do let d<-Deferred.ofValue s a;invoke d.target d.args) out h':=by
 cases x<;>simp only[aCall]at hm<;>try(cases hm;done)
 rotate_left;·rename_i b g;simp only[VRel]at l;obtain⟨y,h1,rfl⟩:=l;cases m<;>simp only[HM.run,Zab,Zaj,reduceCtorEq]at hm;obtain⟨rfl,rfl⟩:=hm;exact⟨rfl,y,a,h1,t,by simp[Deferred.ofValue,invoke]⟩
 rename_i f first captured;simp only[VRel]at l;obtain⟨o,p,rfl,h1,A⟩:=l;have i:VRels c w (first++args++captured) (o++a++p).toList:=by simp_all[Qbq]
 have k:Callable P f->(do let d<-Deferred.ofValue (.func (.func f) o p) a;invoke d.target d.args:Sem Next).run P w=.ok (.enter f (o++a++p)) w:=by simp_all[Deferred.ofValue,invoke,Qgq]
 have plain:∀r,r≠.borrow->(HM.ret (AOut.call r f (first++args++captured))).run h=some (out,h')->Done P c h w (do let d<-Deferred.ofValue (.func (.func f) o p) a;invoke d.target d.args) out h':=by intro r q hm;simp only[HM.run,Zab,Zaj]at hm;obtain⟨rfl,rfl⟩:=hm;exact⟨rfl,_,k,fun _=>i,fun e=>absurd e q⟩
 cases m with|heap=>exact plain _ (by simp) hm|pure=>exact plain _ (by simp) hm|borrow=>simp only at hm;obtain⟨v,z,k1,k2⟩:=run_bind hm;simp only[HM.run,Zab,Zaj]at k2;obtain⟨rfl,rfl⟩:=k2;obtain⟨rfl,u⟩:=Qc5 (QeP H 4) _ _ _ _ i k1;exact⟨rfl,_,k,fun e=>absurd rfl e,fun _=>u⟩
theorem Qpd{cl:Call}{ty:TypeId}{s:SOp}{i:Nat}{T:Tmps}{a:Act}{out:AOut}{h':Heap}(H:HRel c h w)(r:TRel c w T a)(b:okCall P cl s=true)(hm:(aop i T s).run h=some (out,h')):Done P c h w (do let d<-resolve a.eval cl ty;invoke d.target d.args) out h':=by
 obtain⟨callee,args,argTypes⟩:=cl;unfold okCall at b;simp only at b;split at b
 ·rename_i f m x xs;simp only[Zaa]at b;have l:VRels c w (evs T xs) (args.map a.eval).toList:=by simp_all[Qcf]
  exact QnG H (Qas r b.1) l hm
 ·rename_i k x;split at b
  ·rename_i y t M R;simp only[Zaa]at b;obtain⟨v,h1,k1,k2⟩:=QaK hm;cases k2;unfold aLenC at k1;split at k1
   ·rename_i K;have u:=QpP (P:=P) (ty:=ty) H (Qas r b.1) (by rw[K];exact b.2) k1;have :(do let d<-resolve a.eval {callee:=.builtin .len,args:=args,argTypes:=argTypes} ty;invoke d.target d.args:Sem Next)=(do pure (.value (<-Builtin.len_ #[t] ty #[a.eval y]))):=by
     have L:args=#[y]:=by grind
     have N:argTypes=#[t]:=by grind
     simp_all[resolve,invoke,builtin]
    rw[this];exact .ofSound u
   grind[HM.run]
  cases b
 ·rename_i x;split at b
  ·rename_i y t M R;simp only[Zaa]at b;obtain⟨v,k1,k2⟩:=QaN hm;cases k2;have :(do let d<-resolve a.eval {callee:=.builtin .cap,args:=args,argTypes:=argTypes} ty;invoke d.target d.args:Sem Next)=(do pure (.value (<-Builtin.cap_ #[t] ty #[a.eval y]))):=by
    have L:args=#[y]:=by grind
    have N:argTypes=#[t]:=by grind
    simp_all[resolve,invoke,builtin]
   rw[this];exact .ofPure H (QpQ (Qas r b.1) b.2 k1)
  cases b
 ·rename_i st sz bytes x y;split at b
  ·rename_i p I t q M R;simp only[Zaa]at b;obtain⟨⟨⟨E,G⟩,o⟩,U⟩:=b;obtain⟨v,h1,k1,k2⟩:=QaK hm;cases k2;obtain⟨e,Z,z,J,hi,A,B,Q,S⟩:=QdL U;have C:∃V,P.underlying q=some V/\∀k,V≠.int k:=by
    unfold notInt at o;split at o;·cases o
    ·cases o
    rename_i h1 h2;cases X:P.underlying q with|none=>exact absurd X h2|some d=>exact⟨d,rfl,fun k e=>h1 k (by rw[X,e])⟩
   have u:=Qeo (P:=P) (ty:=ty) H (Qas r E) (Qas r G) (T:=⟨J,C,hi,Q,A,B,by simpa using S⟩) k1;have :(do let d<-resolve a.eval {callee:=.builtin .append,args:=args,argTypes:=argTypes} ty;invoke d.target d.args:Sem Next)=(do pure (.value (<-Builtin.append_ #[t,q] ty #[a.eval p,a.eval I]))):=by
    have L:args=#[p,I]:=by grind
    have N:argTypes=#[t,q]:=by grind
    simp_all[resolve,invoke,builtin]
   rw[this];exact .ofSound u
  cases b
 ·rename_i e0 st sz bytes x y;split at b
  ·rename_i p I t q M R;simp only[Zaa]at b;obtain⟨⟨⟨⟨E,G⟩,o⟩,U⟩,Y⟩:=b;obtain⟨v,h1,k1,k2⟩:=QaK hm;cases k2;obtain⟨e,Z,z,J,hi,A,B,Q,S⟩:=QdL U;rw[J]at Y;have Y:e=e0:=by simpa using Y
   subst Y;have C:∃V,P.underlying q=some V/\∀k,V≠.int k:=by
    unfold notInt at o;split at o;·cases o
    ·cases o
    rename_i h1 h2;cases X:P.underlying q with|none=>exact absurd X h2|some d=>exact⟨d,rfl,fun k e=>h1 k (by rw[X,e])⟩
   have u:=Qly (P:=P) (ty:=ty) H (Qas r E) (Qas r G) (T:=⟨J,C,hi,Q,A,B,by simpa using S⟩) k1;have :(do let d<-resolve a.eval {callee:=.builtin .append,args:=args,argTypes:=argTypes} ty;invoke d.target d.args:Sem Next)=(do pure (.value (<-Builtin.append_ #[t,q] ty #[a.eval p,a.eval I]))):=by
    have L:args=#[p,I]:=by grind
    have N:argTypes=#[t,q]:=by grind
    simp_all[resolve,invoke,builtin]
   rw[this];exact .ofSound u
  cases b
 ·rename_i st sz bytes zero x y;split at b
  ·rename_i p I t q M R;simp only[Zaa]at b;obtain⟨⟨⟨E,G⟩,o⟩,U⟩:=b;obtain⟨v,h1,k1,k2⟩:=QaK hm;cases k2;obtain⟨e,Z,z,J,hi,A,B,Q,K⟩:=QdL U;simp only[Zaa,beq_iff_eq]at K;split at o
   ·rename_i k2 hu2;have u:=Qlz (P:=P) (ty:=ty) H (Qas r E) (Qas r G) J hu2 hi Q A B K.1 K.2 k1;have :(do let d<-resolve a.eval {callee:=.builtin .append,args:=args,argTypes:=argTypes} ty;invoke d.target d.args:Sem Next)=(do pure (.value (<-Builtin.append_ #[t,q] ty #[a.eval p,a.eval I]))):=by
     have L:args=#[p,I]:=by grind
     have N:argTypes=#[t,q]:=by grind
     simp_all[resolve,invoke,builtin]
    rw[this];exact .ofSound u
   cases o
  cases b
 ·rename_i sz bytes zero x;split at b
  ·rename_i p t M R;simp only[Zaa]at b;obtain⟨E,U⟩:=b;obtain⟨v,h1,k1,k2⟩:=QaK hm;cases k2;obtain⟨e,Z,z,J,hi,A,B,Q,K⟩:=QdL U;simp only[Zaa,beq_iff_eq]at K;have u:=QnF (P:=P) (ty:=ty) H (Qas r E) J hi Q K.1 K.2 k1;have :(do let d<-resolve a.eval {callee:=.builtin .clear,args:=args,argTypes:=argTypes} ty;invoke d.target d.args:Sem Next)=(do pure (.value (<-Builtin.clear_ #[t] ty #[a.eval p]))):=by
    have L:args=#[p]:=by grind
    have N:argTypes=#[t]:=by grind
    simp_all[resolve,invoke,builtin]
   rw[this];exact .ofSound u
  cases b
 ·rename_i x;split at b
  ·rename_i y M;obtain⟨v,k1,k2⟩:=QaN hm;cases k2;have :(do let d<-resolve a.eval {callee:=.builtin .unsafeSliceData,args:=args,argTypes:=argTypes} ty;invoke d.target d.args:Sem Next)=(do pure (.value (<-Builtin.unsafeSliceData_ argTypes ty #[a.eval y]))):=by
    have L:args=#[y]:=by grind
    simp_all[resolve,invoke,builtin]
   rw[this];exact .ofPure H (QpU (P:=P) (Qas r b) k1)
  cases b
 ·rename_i t x n;split at b
  ·rename_i p n' pt it M R;simp only[Zaa]at b;obtain⟨⟨E,G⟩,o⟩:=b;obtain⟨v,h1,k1,k2⟩:=QaK hm;cases k2;have u:=Qpc (P:=P) (ty:=ty) (it:=it) H (Qas r E) (Qas r G) o k1;have :(do let d<-resolve a.eval {callee:=.builtin .unsafeString,args:=args,argTypes:=argTypes} ty;invoke d.target d.args:Sem Next)=(do pure (.value (<-Builtin.unsafeString_ #[pt,it] ty #[a.eval p,a.eval n']))):=by
    have L:args=#[p,n']:=by grind
    have N:argTypes=#[pt,it]:=by grind
    simp_all[resolve,invoke,builtin]
   rw[this];exact .ofSound u
  cases b
 ·rename_i sz x y;split at b
  ·rename_i p I t q M R;simp only[Zaa]at b;obtain⟨⟨E,G⟩,o⟩:=b;obtain⟨v,h1,k1,k2⟩:=QaK hm;cases k2;split at o
   ·rename_i e J;split at o
    ·rename_i Z hi;have u:=Qo7 (P:=P) (ty:=ty) (t2:=q) H (Qas r E) (Qas r G) J hi (by simpa using o) k1;have :(do let d<-resolve a.eval {callee:=.builtin .copy,args:=args,argTypes:=argTypes} ty;invoke d.target d.args:Sem Next)=(do pure (.value (<-Builtin.copy_ #[t,q] ty #[a.eval p,a.eval I]))):=by
      have L:args=#[p,I]:=by grind
      have N:argTypes=#[t,q]:=by grind
      simp_all[resolve,invoke,builtin]
     rw[this];exact .ofSound u
    cases o
   cases o
  cases b
 ·rename_i xs;obtain⟨v,k1,k2⟩:=QaN hm;cases k2;have l:VRels c w (evs T xs) (args.map a.eval).toList:=by simp_all[Qcf]
  exact .ofPure H (Qj7 (P:=P) (mn:=false) (ats:=argTypes) (ty:=ty) l k1)
 ·rename_i xs;obtain⟨v,k1,k2⟩:=QaN hm;cases k2;have l:VRels c w (evs T xs) (args.map a.eval).toList:=by simp_all[Qcf]
  exact .ofPure H (Qj7 (P:=P) (mn:=true) (ats:=argTypes) (ty:=ty) l k1)
 ·rename_i g k f xs;simp only[Zaa,beq_iff_eq]at b;obtain⟨⟨rfl,G⟩,o⟩:=b;obtain⟨v,k1,k2⟩:=QaN hm;cases k2;have l:VRels c w (evs T xs) (args.map a.eval).toList:=by simp_all[Qcf]
  obtain⟨cv,hr,hv⟩:=QpS G l k1;refine⟨.value cv,cv,c,w,?_,.inl rfl,.refl c w,H,hv⟩;simp[resolve,Deferred.ofValue,invoke,Act.eval,hr]
 cases b
theorem QlN{row:Bool}{ks:List LK}{x k v r:AV}{h':Heap}(hm:(aMapUpd row ks x k v).run h=some (r,h')):r=.any:=by unfold aMapUpd at hm;grind[Qcl,HM.run]
theorem QrQ{o:Oper}{s:SOp}{i:Nat}{T:Tmps}{a:Act}{out:AOut}{h':Heap}(H:HRel c h w)(d:TRel c w T a)(b:okOp P o.op s=true)(hm:(aop i T s).run h=some (out,h')):Done P c h w (execOp a.eval o) out h':=by
 obtain⟨dst,op,ty,pos,after,guard⟩:=o;simp only at b;have I:∀{v:AV}{V:Value},VRel c w v V->Done P c h w (pure (.value V)) (.val v) h:=fun{v V}U=>⟨.value V,V,c,w,rfl,.inl rfl,.refl c w,H,U⟩;unfold okOp at b;split at b;·simp only[aop,HM.run,Zab,Zaj]at hm;obtain⟨rfl,rfl⟩:=hm;exact I (Qas d b)
 ·simp only[aop,HM.run,Zab,Zaj]at hm;obtain⟨rfl,rfl⟩:=hm;exact I (Qas d b)
 ·rename_i x y z Q y' z';simp only[Zaa]at b;obtain⟨v,k1,k2⟩:=QaN hm;cases k2;have h1:=Qas d b.1.1;unfold aPick at k1;split at k1;·rename_i t e;rw[e]at h1;simp only[VRel]at h1;cases k1;have K:execOp a.eval {dst,op:=.pick x y z,type:=ty,pos,after,guard}=(do pure (.value (if<-asBool (a.eval x)then a.eval y else a.eval z))):=rfl;rw[K,h1];refine⟨.value (if t then a.eval y else a.eval z),_,c,w,by simp[asBool],.inl rfl,.refl c w,H,?_⟩;grind[Qas]
  cases k1
 ·rename_i t st z;split at b;·rename_i Y C;obtain⟨Z,hi,B⟩:=QdF C;obtain⟨v,h1,k1,k2⟩:=QaK hm;cases k2;exact .ofSound (Qnu (P:=P) H hi B b k1)
  cases b
 ·rename_i t t' st z;simp only[Zaa,beq_iff_eq]at b;obtain⟨rfl,b⟩:=b;split at b;·rename_i Y C;obtain⟨Z,hi,B⟩:=QdF C;obtain⟨v,h1,k1,k2⟩:=QaK hm;cases k2;exact .ofSound (QlK (P:=P) H hi B b k1)
  cases b
 ·obtain⟨v,h1,k1,k2⟩:=QaK hm;cases k2;exact .ofSound (Qj5 (P:=P) H (Qas d b) k1)
 ·rename_i t parts zero ps;simp only[Zaa]at b;obtain⟨⟨q,g⟩,p⟩:=b;obtain⟨v,k1,k2⟩:=QaN hm;cases k2;split at q
  ·rename_i Y C;have hb:(∃n e ie,P.underlying t=some (.array n e)/\P.info? e=some ie)\/(∃fields L,P.underlying t=some (.struct fields)/\fields.toList.mapM (fun f=>(P.info? f.type).map fun i=>(f.offset,i.size))=some L):=by grind[buildTB,Za9]
   have K:execOp a.eval {dst,op:=.build t parts,type:=ty,pos,after,guard}=(do pure (.value (<-Instr.build t (parts.map fun(i,x)=>(i,a.eval x))))):=rfl;have N:PartsRel c w (placeOf P t) (evParts T ps) (parts.map fun(i,x)=>(i,a.eval x)).toList:=by simp_all[Qe3]
   have hs:=Qnv (P:=P) H C q hb N k1;rw[K];exact .ofSound hs
  cases q
 ·rename_i t len parts fz st sz len' zero ps;simp only[Zaa,beq_iff_eq,decide_eq_true_eq]at b;obtain⟨⟨⟨rfl,g⟩,p⟩,A⟩:=b;obtain⟨v,h1,k1,k2⟩:=QaK hm;cases k2;split at p
  ·rename_i e hu;split at p
   ·rename_i ie hi;simp only[Zaa,beq_iff_eq]at p;obtain⟨J,g6⟩:=p;split at g6
    ·rename_i z C;have K:execOp a.eval {dst,op:=.buildSlice t len parts,type:=ty,pos,after,guard}=(do pure (.value (<-Instr.buildSlice t len (parts.map fun(i,x)=>(i,a.eval x))))):=rfl;have N:PartsRel c w (fun i=>some (i*sz,sz)) (evParts T ps) (parts.map fun(i,x)=>(i,a.eval x)).toList:=by simp_all[Qe3]
     have hs:=Qh7 (P:=P) H hu hi J C g g6 N k1;rw[K];exact .ofSound hs
    cases g6
   cases p
  cases p
 ·simp only[Zaa]at b;obtain⟨v,h1,k1,k2⟩:=QaK hm;cases k2;exact .ofSound (Qo5 (P:=P) H (Qas d b.2) b.1 k1)
 ·rename_i t x v n Q v';simp only[Zaa]at b;obtain⟨⟨q,g⟩,p⟩:=b;obtain⟨r,h1,k1,k2⟩:=QaK hm;cases k2;split at q
  ·rename_i Z hi;have R:∀w,(sizeOf t).run P w=.ok n w:=fun w=>by simp_all[QaI]
   have S:r=.any:=by unfold aStore at k1;grind[Qa6,HM.run]
   exact .ofU (Qnt (P:=P) H (Qas d g) (Qas d p) R k1) S
  cases q
 ·rename_i x y;obtain⟨v,k1,k2⟩:=QaN hm;cases k2;have E:=Qas d b;obtain⟨K,rfl⟩:=QpW E k1;grind[execOp]
 ·rename_i op t x y X op' Q y';simp only[Zaa,beq_iff_eq]at b;obtain⟨⟨rfl,g⟩,p⟩:=b;obtain⟨v,k1,k2⟩:=QaN hm;cases k2;have E:=Qas d g;have hy:=Qas d p;have hp:=QpN (P:=P) (t:=t) E hy k1;have hg:(eqGuard op t x y (a.eval x) (a.eval y))=pure ():=by
   unfold aBin at k1;split at k1;·rename_i K e2;rw[K]at E;simp only[VRel]at E;rw[E];cases op<;>rfl
   ·rename_i K e2;rw[K]at E;simp only[VRel]at E;rw[E];cases op<;>rfl
   cases k1
  have:execOp a.eval {dst,op:=.binOp op t x y X,type:=ty,pos,after,guard}=(do pure (.value (<-(do eqGuard op t x y (a.eval x) (a.eval y);binOp op t (a.eval x) (a.eval y))))):=rfl;rw[this,hg];exact .ofPure H hp
 ·rename_i op t x y X k neg Q y';simp only[Zaa,beq_iff_eq]at b;obtain⟨⟨⟨⟨q,g⟩,p⟩,A⟩,J⟩:=b;obtain⟨v,k1,k2⟩:=QaN hm;cases k2;refine .ofPure H (QlE (P:=P) (ox:=x) (oy:=y) q (Qas d p) (Qas d A) g ?_ k1);intro kind e;subst e;cases y<;>simp[isConstO]at J;simp_all
 ·rename_i op t x y X neg Q;simp only[Zaa,beq_iff_eq]at b;obtain⟨⟨⟨⟨q,g⟩,p⟩,J⟩,A⟩:=b;obtain⟨v,h1,k1,k2⟩:=QaK hm;cases k2;obtain⟨x2,hx2,G⟩:=Qo9 H (Qas d p) k1;cases U:aEq (.nil 2) neg x2 .nilsl with|none=>rw[U]at G;simp[HM.opt,HM.run]at G|some u=>rw[U]at G;simp only[HM.opt,HM.run,Zab,Zaj]at G;obtain⟨rfl,rfl⟩:=G;refine .ofPure H (QlE (P:=P) (ox:=x) (oy:=y) q hx2 (Qas d A) g ?_ U);intro kind e;cases e;cases y<;>simp[isConstO]at J;exact⟨_,rfl⟩
 ·rename_i op t x y X neg Q y';simp only[Zaa,beq_iff_eq]at b;obtain⟨⟨⟨q,g⟩,p⟩,A⟩:=b;obtain⟨v,k1,k2⟩:=QaN hm;cases k2;exact .ofPure H (QpT (P:=P) (ox:=x) (oy:=y) q (Qas d p) (Qas d A) g k1)
 ·simp only[Zaa,beq_iff_eq]at b;obtain⟨rfl,g⟩:=b;obtain⟨v,k1,k2⟩:=QaN hm;cases k2;exact .ofPure H (QrP (P:=P) (Qas d g) k1)
 ·simp only[Zaa]at b;obtain⟨v,k1,k2⟩:=QaN hm;cases k2;exact .ofPure H (Qo6 (P:=P) (Qas d b.2) b.1 k1)
 ·simp only[Zaa]at b;obtain⟨v,k1,k2⟩:=QaN hm;cases k2;exact .ofPure H (QnB (P:=P) (Qas d b.2) b.1 k1)
 ·simp only[Zaa]at b;obtain⟨v,h1,k1,k2⟩:=QaK hm;cases k2;exact .ofSound (QnC (P:=P) H (Qas d b.2) b.1 k1)
 ·simp only[Zaa]at b;obtain⟨v,k1,k2⟩:=QaN hm;cases k2;exact .ofPure H (QnD (P:=P) (Qas d b.2) b.1 k1)
 ·rename_i f first captured f' xs ys;simp only[Zaa,beq_iff_eq]at b;obtain⟨⟨rfl,g⟩,p⟩:=b;simp only[aop,HM.run,Zab,Zaj]at hm;obtain⟨rfl,rfl⟩:=hm;have:execOp a.eval {dst,op:=.makeFunc (.func f) first captured,type:=ty,pos,after,guard}=pure (.value (.func (.func f) (first.map a.eval) (captured.map a.eval))):=rfl;rw[this];refine I ?_;simp only[VRel];exact⟨_,_,rfl,by simp_all[Qcf],by simp_all[Qcf]⟩
 ·obtain⟨v,h1,k1,k2⟩:=QaK hm;cases k2;exact .ofSound (Qlw (P:=P) (reserve:=none) (by simp) H k1)
 ·rename_i t l cc st sz bytes zero l' c';simp only[Zaa]at b;obtain⟨⟨q,g⟩,p⟩:=b;obtain⟨v,h1,k1,k2⟩:=QaK hm;cases k2;obtain⟨e,ie,z,hu,hi,R,hby,C,hk⟩:=QdL p;simp only[Zaa,beq_iff_eq]at hk;exact .ofSound (QiG (P:=P) H (Qas d q) (Qas d g) hu hi R hby C hk.1 hk.2 k1)
 ·rename_i t x l hi mx sz Q l' h' m';simp only[Zaa]at b;obtain⟨⟨⟨⟨q,g⟩,p⟩,A⟩,J⟩:=b;obtain⟨v,k1,k2⟩:=QaN hm;cases k2;have E:=Qas d g;have hl:=Qc6 d p;have hh:=Qc6 d A;have hmx:=Qc6 d J;refine .ofPure H ?_;unfold aSliceC at k1;split at k1;·grind[QcK]
  ·grind[QcK]
  ·grind[QcK]
  ·grind[QcK]
  ·rename_i s e;rw[e]at E k1;exact QcK (P:=P) E hl hh hmx q (fun _ _ _ _ _ e=>by cases e) (fun _ _ _ e=>by cases e) (fun _=>rfl) (.inl ⟨_,rfl⟩) k1
  cases k1
 ·simp only[Zaa]at b;obtain⟨⟨⟨q,g⟩,p⟩,A⟩:=b;obtain⟨v,k1,k2⟩:=QaN hm;cases k2;exact .ofPure H (QlF (P:=P) (Qas d g) (Qc6 d p) (Qc6 d A) q k1)
 ·simp only[Zaa]at b;obtain⟨v,k1,k2⟩:=QaN hm;cases k2;exact .ofPure H (Qny (P:=P) (Qas d b.2) b.1 k1)
 ·simp only[Zaa]at b;obtain⟨v,k1,k2⟩:=QaN hm;cases k2;exact .ofPure H (Qnx (P:=P) (Qas d b.2) b.1 k1)
 ·simp only[Zaa]at b;obtain⟨v,k1,k2⟩:=QaN hm;cases k2;exact .ofPure H (Qnz (P:=P) (Qas d b.1.2) (Qas d b.2) b.1.1 k1)
 ·simp only[Zaa]at b;obtain⟨v,k1,k2⟩:=QaN hm;cases k2;exact .ofPure H (QnA (P:=P) (Qas d b.1.2) (Qas d b.2) b.1.1 k1)
 ·rename_i t x k ok row ks zero ok' Q k';simp only[Zaa,beq_iff_eq]at b;obtain⟨⟨⟨⟨q,g⟩,rfl⟩,A⟩,J⟩:=b;obtain⟨v,h1,k1,k2⟩:=QaK hm;cases k2;obtain⟨kt,et,M⟩:=QfB q;unfold mapElemZero at g;rw[M.hu]at g;simp only at g;split at g;·rename_i Y C;obtain⟨Z,hi,B⟩:=QdF C;exact .ofSound (QlI (P:=P) H M (Qas d A) (Qas d J) hi B g k1)
  cases g
 ·rename_i t m k row ks zero m' k';simp only[Zaa]at b;obtain⟨⟨⟨q,g⟩,A⟩,J⟩:=b;obtain⟨v,h1,k1,k2⟩:=QaK hm;cases k2;obtain⟨kt,et,M⟩:=QfB q;unfold mapElemZero at g;rw[M.hu]at g;simp only at g;split at g;·rename_i Y C;obtain⟨Z,hi,B⟩:=QdF C;exact .ofSound (QlL (P:=P) H M (Qas d A) (Qas d J) hi B g k1)
  cases g
 ·simp only[Zaa]at b;obtain⟨⟨g,p⟩,A⟩:=b;obtain⟨r,h1,k1,k2⟩:=QaK hm;cases k2;exact .ofU (QnE (P:=P) H (Qas d g) (Qas d p) (Qas d A) k1) (QpV k1)
 ·simp only[Zaa]at b;obtain⟨⟨⟨q,g⟩,p⟩,A⟩:=b;obtain⟨r,h1,k1,k2⟩:=QaK hm;cases k2;obtain⟨kt,et,M⟩:=QfB q;exact .ofU (Qgo (P:=P) H M (Qas d g) (Qas d p) (Qas d A) k1) (QlN k1)
 ·simp only[Zaa]at b;obtain⟨⟨⟨q,g⟩,p⟩,A⟩:=b;obtain⟨r,h1,k1,k2⟩:=QaK hm;cases k2;obtain⟨kt,et,M⟩:=QfB q;exact .ofU (Qgo (P:=P) H M (Qas d g) (Qas d p) (Qas d A) k1) (QlN k1)
 ·simp only[Zaa,beq_iff_eq]at b;obtain⟨rfl,g⟩:=b;obtain⟨v,k1,k2⟩:=QaN hm;cases k2;exact .ofPure H (Qlu (P:=P) (Qas d g) k1)
 ·simp_all[aop,HM.run]
 ·exact Qpd (P:=P) (ty:=ty) H d b hm
 cases b
end Go.AM
namespace Go.AM
def Opd.slots:Opd->List Nat|.t i=>[i]|_=>[]
def slotsOf(xs:List Opd):List Nat:=xs.flatMap Opd.slots
def SOp.opds:SOp->List Opd|.mov x|.box _ x|.load _ x|.nilchk x|.un _ x|.conv _ x|.convS x|.convB x|.eqn _ x|.cap x|.clear _ _ _ x|.convP _ _ x|.usd x|.faddr _ x|.field _ _ x|.extract _ x|.len _ x=>[x]|.pick c a b=>[c,a,b]|.alloc _ _|.allocT ..|.mkmap _|.bad=>[]|.build _ d|.bslice _ _ _ _ _ d=>d.map fun p=>p.2.2|.store _ x v|.ment _ _ _ x v|.appendZ _ _ _ _ x v|.bin _ x v|.eq _ _ x v|.eqp _ x v|.appendT _ _ _ _ x v|.ustr _ x v|.iaddr _ _ x v|.index _ x v|.append _ _ _ x v|.copy _ x v|.lookup _ _ _ _ x v|.mkslice _ _ _ _ x v=>[x,v]|.mkfn _ xs f=>xs++f|.slice _ x l h m=>[x]++l.toList++h.toList++m.toList|.sliceK _ x l h=>[x]++l.toList++h.toList|.mupd _ _ x k v|.estore x k v=>[x,k,v]|.maxmin _ xs=>xs|.ext _ _ xs=>xs|.call _ x args=>x::args
def SOper.reads(s:SOper):List Nat:=slotsOf s.op.opds++(match s.guard with|some (g,_)=>[g]|none=>[])
def optIn(d:Option Nat)(xs:List Nat):Bool:=match d with|some d=>xs.contains d|none=>false
def SOper.apart(a b:SOper):Bool:=!optIn a.dst b.reads&&!optIn b.dst a.reads&&!(match a.dst,b.dst with|some x,some y=>x==y|_,_=>false)
def okGuard(N:Nat)(ops:Array Oper):Option (Nat×Bool)->Option (Nat×Bool)->Bool|none,none=>true|some (j,b),some (slot,a)=>b==a&&((ops[j]?).bind (·.dst))==some slot&&decide (slot<N)|_,_=>false
def okAfter(es:List Edge)(l:List Nat):Bool:=((es.filter fun e=>Region.binds .any e).map (·.on))==l
def okOper(P:Program)(N:Nat)(ops:Array Oper)(o:Oper)(s:SOper):Bool:=o.dst==s.dst&&(match s.dst with|some d=>decide (d<N)|none=>true)&&okOp P o.op s.op&&okGuard N ops o.guard s.guard&&okAfter o.after.toList s.after
def SOp.cls:SOp->Nat|.mov _|.pick ..|.build ..|.nilchk _|.bin ..|.eq ..|.un ..|.conv ..|.convS _|.mkfn ..|.slice ..|.sliceK ..|.faddr ..|.field ..|.iaddr ..|.index ..|.extract ..|.maxmin ..|.ext ..|.cap _|.eqp ..|.convP ..|.usd _|.bad=>0|.load ..|.len ..|.lookup ..|.convB _|.eqn ..=>1|.call m _ _=>(match m with|.heap=>2|_=>1)|.alloc ..|.allocT ..|.ment ..|.estore ..|.appendZ ..|.clear ..|.appendT ..|.ustr ..|.box ..|.bslice ..|.store ..|.mkmap ..|.mkslice ..|.mupd ..|.append ..|.copy ..=>2
def maskOf(acc:List Nat)(s:SOper):Nat:=s.after.foldl (fun m e=>m|||2^e|||acc.getD e 0) 0
def masksFrom(acc:List Nat):List SOper->List Nat|[]=>acc|s::r=>masksFrom (acc++[maskOf acc s]) r
def SOp.still:SOp->Bool|.call .heap _ _=>false|_=>true
def SOp.fresh:SOp->Bool|.alloc .dyn _=>true|.box .dyn _=>true|.bslice false .dyn _ _ _ _=>true|.mkslice .dyn _ _ _ _ _=>true|.mkmap .dyn=>true|_=>false
def SOp.sees:SOp->Bool|.load _ _=>true|.len _ _=>true|_=>false
def pairOK(sops:List SOper)(a:List (Nat×Nat))(k j:Nat):Bool:=match sops[k]?,sops[j]? with|some s,some t=>s.apart t&&(Nat.beq s.op.cls 0||Nat.beq t.op.cls 0||(Nat.ble s.op.cls 1&&Nat.ble t.op.cls 1)||a.contains (k,j)||((s.op.sees||s.op.fresh)&&t.op.fresh&&sops.all fun s=>s.op.still))|_,_=>false
def freeB(sops:List SOper)(a:List (Nat×Nat)):Bool:=let ms:=masksFrom [] sops
 (List.range sops.length).all fun j=>(match sops[j]? with|some s=>s.after.all fun k=>Nat.blt k j|none=>false)&&(List.range j).all fun k=>(ms.getD j 0).testBit k||pairOK sops a k j
def okOpers(P:Program)(N:Nat)(ops:Array Oper):List Oper->List SOper->Bool|[],[]=>true|o::os,s::a=>okOper P N ops o s&&okOpers P N ops os a|_,_=>false
def okRegion(P:Program)(N:Nat)(ops:Array Oper)(draw:Bool)(sops:List SOper)(a:List (Nat×Nat)):Bool:=okOpers P N ops ops.toList sops&&(!draw||(P.follows .mixedOrders&&freeB sops a))
structure MLParts where
 ops6:Array Oper
 b:Nat
 ops7:Array Oper
 c:Nat
 b':Nat
 b3:Nat
 ops8:Array Oper
 body:Code
def mlParts:Code->Option MLParts|.seq (.region _ a false) (.block b (.loop (.seq (.region _ f false) (.seq (.cond (.tmp c) .skip (.exit h)) (.block g (.seq (.region _ d false) body))))))=>some ⟨a,b,f,c,h,g,d,body⟩|_=>none
def isMapT(P:Program)(t:TypeId):Bool:=match P.underlying t with|some (.map _ _)=>true|_=>false
def okRange(P:Program)(N:Nat)(ops:Array Oper)(pre:List SOper)(x:Opd)(it:Nat):Bool:=match ops[pre.length]? with|some o=>o.dst==some it&&decide (it<N)&&o.guard.isNone&&(match o.op with|.range t y=>isMapT P t&&okOpd y x|_=>false)&&ops.size==pre.length+1&&okOpers P N ops (ops.toList.take pre.length) pre|none=>false
def okNext(N:Nat)(ops:Array Oper)(it c ok:Nat):Bool:=match ops.toList with|[a,b]=>a.dst==some c&&decide (c<N)&&a.guard.isNone&&(match a.op with|.next (.tmp i) false=>i==it|_=>false)&&b.dst==some ok&&decide (ok<N)&&b.guard.isNone&&(match b.op with|.extract (.tmp j) 0=>j==c|_=>false)&&!(c==it)&&!(ok==it)|_=>false
def okEntry(P:Program)(N:Nat)(ops:Array Oper)(rest:List SOper)(it b:Nat):Bool:=match ops.toList with|a::l=>a.dst==some b&&decide (b<N)&&a.guard.isNone&&(match a.op with|.entry (.tmp i)=>i==it|_=>false)&&okOpers P N ops l rest|_=>false
def SCode.rf:SCode->Bool|.seq a b=>a.rf||b.rf|.cond _ a b=>a.rf||b.rf|.block _ b=>b.rf|.loop b=>b.rf|.mloop ..=>true|.rfunc ..=>true|_=>false
def okCode(P:Program)(N:Nat):Code->SCode->Bool|.skip,.skip=>true|.region _ ops draw,.region sops f _=>okRegion P N ops draw sops f|.seq a b,.seq h d=>okCode P N a h&&okCode P N b d|.cond c a b,.cond x h d=>okOpd c x&&okCode P N a h&&okCode P N b d|.block i b,.block l d=>i==l&&okCode P N b d|.loop b,.loop d=>okCode P N b d|.exit i,.exit l=>i==l|.ret,.ret=>true|c,.mloop pre x it s ok o m b2 rest body=>(match mlParts c with|some p=>okRange P N p.ops6 pre x it&&p.b==m&&okNext N p.ops7 it s ok&&p.c==ok&&p.b'==m&&p.b3==b2&&okEntry P N p.ops8 rest it o&&okCode P N p.body body|none=>false)|.rangeFunc g r a b,.rfunc t k N' h d=>okOpd g t&&r.toList==k&&N'==N&&k.all (fun p=>Nat.blt p N)&&!h.rf&&!d.rf&&okCode P N a h&&okCode P N b d|_,.bad=>true|_,_=>false termination_by structural _ q=>q
def okc(P:Program):Okc:=fun N code a=>okCode P N code a=true/\a.rf=false
end Go.AM
