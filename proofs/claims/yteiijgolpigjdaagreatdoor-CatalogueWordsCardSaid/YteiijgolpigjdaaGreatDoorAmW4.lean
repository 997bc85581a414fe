/- A part of the proof of CatalogueWordsCardSaid: lemmas on the way (AmGy, AmH, AmHa). Conditions: none of ours. -/
import Derived.Lib.UnsafeStr
import Derived.Lib.Builder
import Derived.LaidEqlPtr
import Derived.Test.YteiijgolpigjdaaGreatDoorAmW3
set_option linter.unusedSectionVars false
set_option maxHeartbeats 32000000
set_option maxRecDepth 100000
set_option linter.unusedVariables false
set_option linter.unusedSimpArgs false
namespace Go.AM
variable {P:Program} {ok:Okc} {c:Ctx ok} {w:World} {h:Heap}
theorem run_bind' {α β:Type} {m:HM α} {f:α->HM β} {h:Heap} {r:β×Heap} (hm:(m.bind f).run h=some r):∃a h1,m.run h=some (a,h1)/\(f a).run h1=some r:=by
 induction m generalizing h with
 |ret a=>exact⟨a,h,rfl,hm⟩
 |fail=>simp[HM.bind,HM.run]at hm
 |look b k ih=>exact ih _ hm
 |put b x k ih=>
  obtain⟨hl,hm⟩:=Qa3 (k:=k.bind f) hm
  obtain⟨a,h1,h2,h3⟩:=ih hm
  refine⟨a,h1,?_,h3⟩
  have hl':Nat.blt b lim=true:=by simp_all
  simp only[HM.run,hl',cond_true]
  exact h2
def aBoxT (t:Nat) (s:Site) (i:Nat) (x:AV):HM AV:=
 if x.boxable then .new s i (fun g=> .cells g x.cells) fun b g=> .ret (.typed t x.cells.length (.ptr b g 0))else .fail
theorem Qj6 {t:TypeId} {s:Site} {i:Nat} {z v:AV} {ti:TypeInfo} {zv:Value} {h':Heap} (H:HRel c h w) (hi:P.info? t=some ti) (hz:ti.zero=some zv)
  (hc:cOK z zv=true) (hm:(aBoxT t s i z).run h=some (v,h')):Sound P c w (Instr.alloc t true (.tuple #[])) v h':=by
 unfold aBoxT at hm
 split at hm
 ·rename_i hb
  obtain⟨b,g,hlim,hg,hm⟩:=Qde hm
  simp only[HM.run,Option.some.injEq,Prod.mk.injEq]at hm
  obtain⟨rfl,rfl⟩:=hm
  have hx:=QdJ (c:=c) (w:=w) z zv hc
  have hr:=VRel_cells' hx hb
  obtain⟨c',hp,hE,hH⟩:=H.newCells hlim hg (C:=zv.cells) (e:=t) (Qa0 hr)
  refine⟨.pointer (some ⟨w.heap.size,0,none⟩),c',_,?_,hE,hH,?_⟩
  ·simp[Instr.alloc,newVar,newRow,zeroValue,typeInfo,hi,hz]
  ·simp only [VRel]
   refine⟨.inl ⟨w.heap.size,zv.cells,(0,0),.inl rfl,?_,.inr ?_⟩,_,0,hp,by simp⟩
   ·show (w.heap.push _)[w.heap.size]? = _
    simp
   ·have := QaC hr
    simp_all
 grind [HM.run]
def AV.bare:AV->AV
 | .typed _ _ v=>v
 |v=>v
theorem VRel.bare {x:AV} {v:Value} (h:VRel c w x v):VRel c w x.bare v:=by
 cases x<;>first|exact h|exact(by simp only[VRel]at h;exact h.2)
def aEqP (neg:Bool) (x y:AV):Option AV:=
 match x.bare,y.bare with
 | .ptr b g o,.ptr b' g' o'=>if b=b'/\g=g'/\o=o' then some (.bool (true !=neg))else none
 |_,_=>none
def eqPT (P:Program) (t:TypeId):Bool:=
 match P.underlying t with
 |some (.pointer e)=>(match P.info? e with|some i=>i.size !=0|none=>false)
 |_=>false
theorem Qii {tp te:TypeId} {j:TypeInfo} (a:Addr) (hp:P.underlying tp=some (.pointer te)) (hte:P.info? te=some j):
  (Op.equal tp (.pointer (some a)) (.pointer (some a))).run P w= .ok true w:=by
 have h:∀d:Nat,(Op.equalIn (d+1) tp (.pointer (some a)) (.pointer (some a))).run P w= .ok true w:=fun d=>by
  simp[Op.equalIn,run_underlying hp,sizeOf,typeInfo,hte,run_sameAddr_same]
 simp_all [Op.equal,Op.maxDepth]
theorem Qfi (w:World) (o:Obj):(w.drew.alloc o).heap[w.heap.size]?=some o:=by
 show(w.heap.push o)[w.heap.size]?=_
 simp
theorem QnU {op : BinOp} {neg : Bool} {t : TypeId} {ox oy : Operand} {x y v : AV} {cx cy : Value} (hop : op = if neg then .neq else .eql) (hx : VRel c w x cx) (hy : VRel c w y cy)
    (ht:eqPT P t=true) (hm:aEqP neg x y=some v):Pure P c w (do eqGuard op t ox oy cx cy;binOp op t cx cy) v:=by
  unfold aEqP at hm
  have hx:=hx.bare
  have hy:=hy.bare
  split at hm
  · rename_i b g o b' g' o' e1 e2
    rw[e1]at hx
    rw[e2]at hy
    split at hm
    · rename_i hh
      obtain⟨rfl,rfl,rfl⟩:=hh
      cases hm
      simp only[VRel]at hx hy
      obtain⟨cb,base,hp,rfl⟩:=hx
      obtain⟨cb',base',hp',rfl⟩:=hy
      rw[hp]at hp';cases hp'
      unfold eqPT at ht
      split at ht
      · rename_i e hu
        split at ht
        · rename_i i hi
          have hne:i.size≠0:=by simpa using ht
          have hsame:=Qii (w:=w) ⟨cb,base+o,none⟩ hu hi
          subst hop
          cases neg
          · refine ⟨.bool true, ?_, by simp [VRel]⟩
            simp_all [eqGuard,binOp]
          · refine ⟨.bool false, ?_, by simp [VRel]⟩
            simp_all [eqGuard,binOp]
        · cases ht
      · cases ht
    · cases hm
  · cases hm
def aConvP (t n:Nat) (x:AV):Option AV:=
 match x with
 | .typed t' n' (.ptr b g o)=>if t'=t/\n'=n then some x else none
 |_=>none
def convPT (P:Program) (src dst:TypeId) (T n:Nat):Bool:=
 match P.underlying src,P.underlying dst with
 |some (.pointer t),some .unsafePointer=>n !=0&&(match P.info? t with|some i=>i.size !=0|none=>false)
 |some .unsafePointer,some (.pointer u)=>n !=0&&(P.info? u).isSome&&liesAt P P.depth T (n/P.cellsOf T) 0 u 1
 |_,_=>false
theorem QlT {src dst:TypeId} {t n:Nat} {x v:AV} {cx:Value} (hx:VRel c w x cx) (ht:convPT P src dst t n=true) (hm:aConvP t n x=some v):Pure P c w (convert src dst cx) v:=by
 unfold aConvP at hm
 split at hm
 ·rename_i t' n' b g o
  split at hm
  ·rename_i hh
   obtain⟨rfl,rfl⟩:=hh
   cases hm
   have hx0:=hx
   simp only[VRel]at hx
   obtain⟨hty,_,_,_,h4⟩:=hx
   obtain⟨cb,C,fr,h1,h2,h3⟩:=hty.old (.inr ⟨_,h4⟩)
   have hcx:cx= .pointer (some ⟨cb,0,none⟩):=by
    simp_all
   subst hcx
   have hsh:w.shape? cb=some (t',C.size):=by simp[World.shape?,h2]
   unfold convPT at ht
   split at ht
   ·rename_i e hs hd
    simp only[Bool.and_eq_true,bne_iff_ne,ne_eq]at ht
    obtain⟨hn,hi⟩:=ht
    split at hi
    ·rename_i i hi'
     have hj:i.size≠0:=by simpa using hi
     have hC:C.size=n':=h3.resolve_left hn
     exact⟨_,Lib.run_to_unsafe (P:=P) (w:=w) ⟨cb,0,none⟩ hs hd hi' hj hsh (by grind),hx0⟩
    ·cases hi
   ·rename_i u hs hd
    simp only[Bool.and_eq_true,bne_iff_ne,ne_eq]at ht
    obtain⟨⟨hn,hi⟩,hl⟩:=ht
    obtain⟨i,hi'⟩:=Option.isSome_iff_exists.1 hi
    have hC:C.size=n':=h3.resolve_left hn
    exact⟨_,Lib.run_from_unsafe (P:=P) (w:=w) ⟨cb,0,none⟩ hs hd hi' hsh (by simp_all),hx0⟩
   ·cases ht
  ·cases hm
 ·cases hm
def tagT (t:Nat):AV->AV
 | .sl b g off len sz=> .typed t 0 (.sl b g off len sz)
 |v=>v
def aAppendT (t:Nat) (s:Site) (i:Nat) (sz bytes:Nat) (x y:AV):HM AV:=
 match x with
 | .nilsl=>(aAppend s i sz bytes .nilsl y).bind fun v=> .ret (tagT t v)
 | .typed t' 0 (.sl b g 0 (len+1) s')=>if t'=t then(aAppend s i sz bytes (.sl b g 0 (len+1) s') y).bind fun v=> .ret (tagT t v)else .fail
 |_=> .fail
theorem QjT {t t2 ty e : TypeId} {s : Site} {i sz bytes : Nat} {x y v : AV} {cx cy : Value} {ti : TypeInfo} {z : Value} {h' : Heap} (H : HRel c h w) (hx : VRel c w x cx) (hy : VRel c w y cy)
  (T:AppT P t t2 e sz bytes ti z) (hm:(aAppendT e s i sz bytes x y).run h=some (v,h')):Sound P c w (Builtin.append_ #[t,t2] ty #[cx,cy]) v h':=by
 have tagged:∀(u:AV) (h1:Heap),Sound P c w (Builtin.append_ #[t,t2] ty #[cx,cy]) u h1->(∀cv w',(Builtin.append_ #[t,t2] ty #[cx,cy]).run P w= .ok cv w'->(∃c',Evo c w c' w')->∀b g off len sz,u= .sl b g off len sz->TyAt w' e 0 cv)->
   Sound P c w (Builtin.append_ #[t,t2] ty #[cx,cy]) (tagT e u) h1:=by
  rintro u h1 ⟨cv,c',w',hr,E,H',V⟩ ht
  refine⟨cv,c',w',hr,E,H',?_⟩
  cases u<;>first|exact V|skip
  simp only[tagT,VRel]
  refine⟨ht cv w' hr ⟨c',E⟩ _ _ _ _ _ rfl,?_⟩
  simp_all [VRel]
 unfold aAppendT at hm
 split at hm
 ·obtain ⟨u, h1, k1, k2⟩ := run_bind' hm
  simp only[HM.run,Option.some.injEq,Prod.mk.injEq]at k2
  obtain⟨rfl,rfl⟩:=k2
  refine tagged u h1 (QdP (P:=P) (ty:=ty) H hx hy T k1) ?_
  rintro cv w' hr _ b g off len sz rfl
  simp only[VRel]at hx
  subst hx
  obtain⟨ht,⟨d2,ht2,hd2⟩,hi,hz,rfl,rfl,hzs⟩:=T
  have k1:=QcP (P:=P) H hy k1
  obtain⟨ys,n,us,S,k1⟩:=k1
  split at k1
  ·rename_i hcond
   obtain⟨hb,hb2,hone⟩:=hcond
   simp only[slLen,Nat.zero_add]at hb hb2
   cases n with
   |zero=>simp[HM.run]at k1
   |succ n=>
    have hg:=Qcb (P:=P) (w:=w) (ty:=ty) (t:=t) (t2:=t2) (dlen:=0) (dcap:=0) (base:=none) (cy:=cy) (olds:=[]) (us:=us) ht ht2 hd2 hi hz S.lenOf S.first (fun w1 _=>by simp[Builtin.firstCells]) (by omega) (by simpa using hb) (by omega)
    rw[hr]at hg
    cases hg
    exact .inl ⟨w.heap.size,_,(0,0),.inr ⟨rfl,_,_,rfl⟩,Qfi w _,.inl rfl⟩
  grind [HM.run]
 ·rename_i t' b0 g0 len0 s'
  split at hm
  ·rename_i e0
   subst e0
   obtain⟨u,h1,k1,k2⟩:=run_bind' hm
   simp only[HM.run,Option.some.injEq,Prod.mk.injEq]at k2
   obtain⟨rfl,rfl⟩:=k2
   have hx':VRel c w (.sl b0 g0 0 (len0+1) s') cx:=by simp_all [VRel]
   have hty:TyAt w t' 0 cx:=by simp_all [VRel]
   refine tagged u h1 (QdP (P:=P) (ty:=ty) H hx' hy T k1) ?_
   rintro cv w' hr ⟨c',E⟩ b g off len sz rfl
   obtain⟨ht,⟨d2,ht2,hd2⟩,hi,hz,rfl,rfl,hzs⟩:=T
   replace k1:=QcP (P:=P) H hy k1
   obtain⟨ys,n,us,S,k1⟩:=k1
   split at k1
   ·rename_i hcond
    obtain⟨hb,hb2,hone⟩:=hcond
    simp only[slLen]at hb hb2
    dsimp only at k1
    split at k1
    ·rename_i e1; subst e1
     obtain⟨cs,hbk,k1⟩:=Qbg k1
     split at k1
     ·rename_i hl
      have hxx:=hx'
      simp only[VRel]at hx'
      rcases hx' with⟨hp,hz0,_⟩|⟨cb,base,o,cap,C,e',fr,hp,rfl,hlc,hC,hcap⟩
      ·omega
      ·obtain ⟨cb2, C2, fr2, q1, q2, q3⟩ := hty.old (.inl rfl)
       have q1:=q1.resolve_left (by simp)
       obtain⟨_,l2,k2,q1⟩:=q1
       simp only[Value.slice.injEq,Option.some.injEq,Addr.mk.injEq]at q1
       obtain⟨⟨rfl,rfl,_⟩,_,_⟩:=q1
       by_cases hroom:len0+1+n<=cap
       ·have hrun := Qbn (P := P) (w := w) (ty := ty) (base := some ⟨cb, 0, none⟩) (dlen := len0 + 1) (dcap := cap) ht ht2 hd2 hi S.lenOf (S.first w rfl) hroom
        rw[hr]at hrun
        simp only at hrun
        cases hst:(storeCells ((⟨cb,0,none⟩:Addr).add ((len0+1)*ti.size)) us).run P w with
        |halt x y=>rw[hst]at hrun;cases hrun
        |ok x y=>
         rw[hst]at hrun
         simp only[Result.andThen_ok,Result.ok.injEq]at hrun
         obtain⟨rfl,rfl⟩:=hrun
         obtain⟨C',fr',s1,s2⟩:=E.shape _ _ _ _ q2
         exact .inl ⟨cb,C',fr',.inr ⟨rfl,_,_,rfl⟩,s1,.inl rfl⟩
       ·obtain ⟨olds, So⟩ := Qeq (P := P) H hxx hbk hl
        have hrun:=Qcb (P:=P) (w:=w) (ty:=ty) (t:=t) (t2:=t2) (dlen:=len0+1) (dcap:=cap) (base:=some ⟨cb,0,none⟩) (cy:=cy) (olds:=olds) (us:=us) ht ht2 hd2 hi hz S.lenOf S.first So.first (by omega) hb (by omega)
        rw[hr]at hrun
        cases hrun
        exact .inl ⟨w.heap.size,_,(0,0),.inr ⟨rfl,_,_,rfl⟩,Qfi w _,.inl rfl⟩
     grind [HM.run]
    grind [HM.run]
   grind [HM.run]
  grind [HM.run]
 grind [HM.run]
def aUsd (x:AV):Option AV:=
 match x with
 | .nilsl=>some .nilptr
 | .typed t 0 (.sl b g 0 (_+1) _)=>some (.typed t 0 (.ptr b g 0))
 |_=>none
theorem QnV {ts:Array TypeId} {ty:TypeId} {x v:AV} {cx:Value} (hx:VRel c w x cx) (hm:aUsd x=some v):Pure P c w (Builtin.unsafeSliceData_ ts ty #[cx]) v:=by
  unfold aUsd at hm
  split at hm
  · cases hm
    simp only[VRel]at hx
    subst hx
    exact⟨_,Lib.run_unsafeSliceData_nil _ _ _ _ _,by simp[VRel]⟩
  · rename_i t b g len s
    cases hm
    simp only[VRel]at hx
    obtain⟨hty,h4⟩:=hx
    obtain⟨cb,C,fr,h1,h2,h3⟩:=hty.old (.inl rfl)
    rcases h4 with⟨_,h5,_⟩|⟨cb2,base,o,cap,C2,e,fr2,hp,rfl,hlc,hC,hcap⟩
    · omega
    · have h1 := h1.resolve_left (by simp)
      obtain⟨_,l,k,h1⟩:=h1
      simp only[Value.slice.injEq,Option.some.injEq,Addr.mk.injEq]at h1
      obtain⟨⟨rfl,rfl,_⟩,_,_⟩:=h1
      obtain⟨hb,_⟩:=hcap.resolve_left (by omega)
      refine⟨.pointer (some ⟨cb2,0,none⟩),Lib.run_unsafeSliceData_row _ _ _ _ _ _ (by omega),?_⟩
      simp only[VRel]
      exact⟨.inl ⟨cb2,C,fr,.inl rfl,h2,.inl rfl⟩,cb2,base,hp,by simp;omega⟩
  · cases hm
def bytesIn:List AV->Option (List UInt8)
 |[]=>some []
 | .int .u8 n::r=>if 0<=n/\n<256 then(bytesIn r).map (UInt8.ofNat n.toNat:: ·)else none
 |_=>none
theorem Qgq:∀{ys:List AV} {us:List Value} {s:List UInt8},bytesIn ys=some s->VRels c w ys us->us=s.map fun b=>Value.int .u8 b.toNat
 |[],us,s,hb,hr=>by
  simp_all [bytesIn,VRels]
 | y :: ys, us, s, hb, hr => by
  have hy:∃n s2,y= .int .u8 n/\(0<=n/\n<256)/\bytesIn ys=some s2/\s=UInt8.ofNat n.toNat::s2:=by
   cases y<;>try (simp[bytesIn]at hb;done)
   rename_i k n
   cases k<;>try (simp[bytesIn]at hb;done)
   simp only[bytesIn]at hb
   split at hb
   ·rename_i hn
    cases hb2:bytesIn ys with
    |none=>simp[hb2]at hb
    |some s2=>
     simp only[hb2,Option.map_some,Option.some.injEq]at hb
     exact⟨n,s2,rfl,hn,rfl,hb.symm⟩
   ·cases hb
  obtain⟨n,s2,rfl,hn,hb2,rfl⟩:=hy
  simp only[VRels]at hr
  obtain⟨v,vs,rfl,h1,h2⟩:=hr
  simp only[VRel]at h1
  subst h1
  rw[Qgq hb2 h2]
  simp only[List.map_cons,List.cons.injEq,Value.int.injEq,true_and,and_true]
  grind [UInt8.toNat_ofNat']
def aUstr (t:Nat) (x n:AV):HM AV:=
 match x,n with
 | .nilptr,.int .i64 0=> .ret (.str [])
 | .typed t' _ (.ptr b g 0), .int .i64 n => if t' = t /\ 0 < n /\ n <= 9223372036854775807 then .cells b g fun cs => (match bytesIn (cs.take n.toNat) with
   |some s=>if s.length=n.toNat then .put b (.dead g) (.ret (.str s))else .fail
   |none=> .fail)else .fail
 |_,_=> .fail
def ustrT (P:Program) (pt:TypeId) (t:Nat):Bool:=
 match P.underlying pt with
 |some (.pointer e)=>e==t&&P.cellsOf e==1
 |_=>false
theorem Qng {pt it ty : TypeId} {t : Nat} {x n v : AV} {cx cn : Value} {h' : Heap} (H : HRel c h w) (hx : VRel c w x cx) (hn : VRel c w n cn) (ht : ustrT P pt t = true) (hm : (aUstr t x n).run h = some (v, h')) :
    Sound P c w (Builtin.unsafeString_ #[pt,it] ty #[cx,cn]) v h':=by
  unfold aUstr at hm
  split at hm
  · simp only [HM.run, Option.some.injEq, Prod.mk.injEq] at hm
    obtain⟨rfl,rfl⟩:=hm
    simp only[VRel]at hx hn
    subst hx;subst hn
    refine .here H (Lib.run_unsafeString_none _ _ _ _ _) ?_
    simp only[VRel]
    rfl
  · rename_i t' k b g n
    split at hm
    · rename_i hc
      obtain⟨rfl,h0,h63⟩:=hc
      obtain⟨cs,hb,hm⟩:=Qbg hm
      split at hm
      · rename_i s hs
        split at hm
        · rename_i hl
          obtain⟨hlim,hm⟩:=Qa3 hm
          simp only[HM.run,Option.some.injEq,Prod.mk.injEq]at hm
          obtain⟨rfl,rfl⟩:=hm
          simp only[VRel]at hx hn
          subst hn
          obtain⟨hty,cb2,base,hp,h4⟩:=hx
          obtain⟨cb,C,fr,h1,h2,_⟩:=hty.old (.inr ⟨_,h4⟩)
          have h1:cx= .pointer (some ⟨cb,0,none⟩):=by
            simp_all
          rw[h1]at h4
          simp only[Value.pointer.injEq,Option.some.injEq,Addr.mk.injEq,and_true]at h4
          obtain⟨rfl,hbase⟩:=h4
          have hbase:base=0:=by omega
          subst hbase
          subst h1
          obtain⟨C',e',fr',hO,hC',hfr,hbs,hpre⟩:=H.here hb hp
          rw[h2]at hC';cases hC'
          unfold ustrT at ht
          split at ht
          · rename_i e hu
            simp only[Bool.and_eq_true,beq_iff_eq]at ht
            obtain⟨rfl,hc1⟩:=ht
            have hlen : s.length <= cs.length := by
              have : (cs.take n.toNat).length = s.length := by
                have hlen2:∀(ys:List AV) (s:List UInt8),bytesIn ys=some s->ys.length=s.length:=by
                  intro ys
                  induction ys with
                  |nil=>intro s h;simp only[bytesIn,Option.some.injEq]at h;subst h;rfl
                  | cons y ys ih =>
                    intro s h
                    cases y<;>try (simp[bytesIn]at h;done)
                    rename_i k m
                    cases k<;>try (simp[bytesIn]at h;done)
                    simp only[bytesIn]at h
                    split at h
                    · cases h2 : bytesIn ys with
                      |none=>simp[h2]at h
                      |some s2=>simp only[h2,Option.map_some,Option.some.injEq]at h;subst h;simp[ih s2 h2]
                    · cases h
                grind
              grind
            have hcl:=Qbk hpre
            simp at hcl
            have hrel:=Qgq hs (by
              have:=QaF hpre 0 n.toNat (by omega)
              simpa using this)
            have hne:s≠[]:=by grind
            have hn2:(n:Int)=(s.length:Int):=by omega
            have hcell:∀j x,s[j]?=some x->w.cell? ((⟨cb,0,none⟩:Addr).add j)=some (.int .u8 x.toNat):=by
              intro j x hj
              have hjl:j<s.length:=(List.getElem?_eq_some_iff.1 hj).1
              have h6:(List.take n.toNat (C.toList.drop 0))[j]?=some (.int .u8 x.toNat):=by
                grind
              grind [Addr.add,World.cell?]
            have hrun:=Lib.run_unsafeString_row (P:=P) (w:=w) pt it ty e hu hc1 cb C.size (by simp[World.shape?,h2]) s hne (by omega) (by omega) hcell
            rw[<-hn2]at hrun
            have hlt:=Qbd h2
            have hw:(w.freeze ⟨cb,0,none⟩ s.length).heap[cb]?=some (.cells C e (if fr.1==fr.2 then(0,s.length)else(min fr.1 0,max fr.2 (s.length)))):=by
              grind [World.freeze]
            have hwo:∀k,k≠cb->(w.freeze ⟨cb,0,none⟩ s.length).heap[k]?=w.heap[k]?:=by
              grind [World.freeze]
            have hsz:(w.freeze ⟨cb,0,none⟩ s.length).heap.size=w.heap.size:=by
              grind [World.freeze]
            have hrest:(w.freeze ⟨cb,0,none⟩ s.length).os=w.os/\(w.freeze ⟨cb,0,none⟩ s.length).tape=w.tape/\(w.freeze ⟨cb,0,none⟩ s.length).output=w.output:=by
              simp only[World.freeze];grind
            have hlive:Live h b g:=⟨_,hb,rfl,fun k=>by simp⟩
            have:=H.put (w':=w.freeze ⟨cb,0,none⟩ s.length) (cb:=cb) (base:=0) (x:= .dead g) hlim (fun y hy=>H.later b _ hb y hy) (.inr hp) (.inr ⟨g,0,hlive,hp⟩) hrest.1 hrest.2.1 hrest.2.2 (by omega) (by omega)
              (fun k _ hk=>hwo k hk) (fun C2 e2 fr2 hc2=>by grind) (fun _=>trivial)
            exact⟨_,_,_,hrun,this.1,this.2,by simp[VRel]⟩
          · cases ht
        grind [HM.run]
      grind [HM.run]
    grind [HM.run]
  grind [HM.run]
def aMapEnt (row:Bool) (ks:List LK) (zero x k:AV):HM AV:=
 if keyOK row ks k then
  match x with
  | .map b g=> .entries b g fun es=>
   match aFind row ks k es 0 with
   |some (some (i,v))=> .put b (.map g (es.set i (k,v))) (.ret (.tup [v,.int .i64 (.ofNat i)]))
   |some none=> .put b (.map g (es++[(k,zero)])) (.ret (.tup [zero,.int .i64 (.ofNat es.length)]))
   |none=> .fail
  |_=> .fail
 else .fail
def aEntSt (x s v:AV):HM AV:=
 match x,s with
 | .map b g,.int _ (.ofNat i)=> .entries b g fun es=>match es[i]? with
  |some p=> .put b (.map g (es.set i (p.1,v))) (.ret .any)
  |none=> .fail
 |_,_=> .fail
theorem Qft {f:MapEntry->MapEntry} (hb:∀e,(f e).born=e.born) {p:AV×AV}:∀{es:List (AV×AV)} {ms:List MapEntry} {clock:Nat} (i:Nat),MRel c w es ms clock->
  (∀e,ms[i]?=some e->VRel c w p.1 (f e).key/\VRel c w p.2 (f e).val)->MRel c w (es.set i p) (ms.modify i f) clock
 |[],ms,clock,i,hm,_=>by
  simp_all [MRel]
 | (k', x) :: es, ms, clock, i, hm, hf => by
  simp only[MRel]at hm
  obtain⟨e,ms',rfl,h1,h2,h3,h4,h5⟩:=hm
  cases i with
  |zero=>
   obtain⟨g1,g2⟩:=hf e (by simp)
   obtain⟨p1,p2⟩:=p
   simp only[List.set_cons_zero,List.modify_zero_cons,MRel]
   exact⟨_,_,rfl,g1,g2,by simp_all,by simp_all,h5⟩
  |succ i=>
   simp only[List.set_cons_succ,List.modify_succ_cons,MRel]
   exact⟨_,_,rfl,h1,h2,h3,by simpa using h4,Qft hb i h5 (fun e he=>hf e (by simpa using he))⟩
theorem QeN:∀{es:List (AV×AV)} {ms:List MapEntry} {clock:Nat} (i:Nat) {e:MapEntry},MRel c w es ms clock->ms[i]?=some e->e.born+es.length=clock+i
 |[],ms,clock,i,e,hm,hi=>by simp_all [MRel]
 |(k,x)::es,ms,clock,i,e,hm,hi=>by
  simp only[MRel]at hm
  obtain⟨e',ms',rfl,h1,h2,h3,h4,h5⟩:=hm
  cases i with
  |zero=>simp at hi;subst hi;simp;omega
  |succ i=>have:=QeN i h5 (by simpa using hi);simp;omega
theorem QiJ:∀{es:List (AV×AV)} {ms:List MapEntry} {clock:Nat},MRel c w es ms clock->ms.length=es.length
 |[],ms,clock,hm=>by simp_all [MRel]
 |(k,x)::es,ms,clock,hm=>by
  simp only[MRel]at hm
  obtain⟨e',ms',rfl,h1,h2,h3,h4,h5⟩:=hm
  simp[QiJ h5]
theorem Qj7 {t kt et : TypeId} {row : Bool} {ks : List LK} {zero x k r : AV} {cx ck zv : Value} {ti : TypeInfo} {h' : Heap} (H : HRel c h w) (T : MapT P t row ks kt et) (hx : VRel c w x cx) (hkey : VRel c w k ck)
  (hi:P.info? et=some ti) (hz:ti.zero=some zv) (hc:cOK zero zv=true) (hm:(aMapEnt row ks zero x k).run h=some (r,h')):Sound P c w (Instr.mapEntry t cx ck) r h':=by
 unfold aMapEnt at hm
 split at hm
 ·rename_i hok
  have hck:=fun e=>QdQ (P:=P) T hkey hok e
  cases x<;>simp only at hm<;>try (cases hm;done)
  case map b g =>
   obtain⟨es,hb,hm⟩:=Qcm hm
   simp only[VRel]at hx
   obtain⟨cb,hp,rfl⟩:=hx
   obtain⟨ms,clock,hO,hC,hR,hcl⟩:=H.atMap hb hp
   split at hm
   ·rename_i i xo hf
    obtain⟨hlim,hm⟩:=Qa3 hm
    simp only[HM.run,Option.some.injEq,Prod.mk.injEq]at hm
    obtain⟨rfl,rfl⟩:=hm
    obtain⟨r',h1,h2⟩:=QbC (P:=P) (w:=w) T hkey hR hf
    cases r' with
    |none=>simp[FoundRel]at h2
    | some r' =>
     obtain⟨i',xv⟩:=r'
     simp only[FoundRel]at h2
     obtain⟨rfl,hxv⟩:=h2
     obtain⟨_,k',hk1,hk2⟩:=Qg4 hf
     simp only[Nat.sub_zero]at hk1
     obtain⟨e,he,hke,hve⟩:=QdR i hR hk1
     have hrow:row=true\/∃lk,ks=[lk]:=by
      cases hrw:row with
      |true=>exact .inl rfl
      |false=>
       have hkk:=T.hk
       have hr:=T.hr
       rw[hrw]at hr
       have hl:=Qb7 hkk hr
       match ks,hl with
       |[lk],_=>exact .inr ⟨lk,rfl⟩
     obtain⟨hsame,hbits⟩:=Qhy hk2 hkey hke hrow
     have hkeep:(Instr.keyThatStays e.key ck).run P w= .ok ck w:=by
      simp_all [Instr.keyThatStays]
     have hborn:e.born=i:=by grind [QeN]
     rw[Array.getElem?_toList]at he
     obtain ⟨c', E, H'⟩ := H.setMap hlim hb hp (es' := es.set i (k, xo)) (ms' := ms.modify i fun e => { e with key := ck }) (clock' := clock)
      (fun c' w' E => by
       have := Qft (f := fun e => { e with key := ck }) (fun _ => rfl) (p := (k, xo)) i (MRel.mono (E.ext H.disj) _ _ _ hR) (fun e' he' => by
        rw[Array.getElem?_toList,he]at he'
        cases he'
        exact⟨VRel.mono (E.ext H.disj) _ _ hkey,VRel.mono (E.ext H.disj) _ _ hve⟩)
       exact⟨by simp_all,by simpa using hcl⟩)
     refine⟨.tuple #[xv,goInt e.born],c',_,?_,E,H',?_⟩
     ·simp[Instr.mapEntry,run_underlying T.hu,QbM hC,hck,h1,he,hkeep,Qc0 hC]
     ·simp only [VRel]
      refine⟨_,rfl,?_⟩
      simp only[VRels]
      exact⟨_,_,rfl,VRel.mono (E.ext H.disj) _ _ hxv,_,_,rfl,by simp_all [VRel,goInt],rfl⟩
   ·rename_i hf
    obtain⟨hlim,hm⟩:=Qa3 hm
    simp only[HM.run,Option.some.injEq,Prod.mk.injEq]at hm
    obtain⟨rfl,rfl⟩:=hm
    obtain⟨r',h1,h2⟩:=QbC (P:=P) (w:=w) T hkey hR hf
    have:r'=none:=by grind [FoundRel]
    subst this
    have hzr:∀{c':Ctx ok} {w':World},VRel c' w' zero zv:=QdJ _ _ hc
    obtain ⟨c', E, H'⟩ := H.setMap hlim hb hp (es' := es ++ [(k, zero)]) (ms' := ms.push { key := ck, val := zv, born := clock }) (clock' := clock + 1)
     (fun c' w' E => by
      have:=Qfr (VRel.mono (E.ext H.disj) _ _ hkey) (hzr (c':=c') (w':=w')) (MRel.mono (E.ext H.disj) _ _ _ hR)
      exact⟨by simp_all,by simpa using hcl⟩)
    refine⟨.tuple #[zv,goInt clock],c',_,?_,E,H',?_⟩
    ·simp[Instr.mapEntry,run_underlying T.hu,QbM hC,hck,h1,Qc0 hC,zeroValue,typeInfo,hi,hz]
    ·simp only [VRel]
     refine⟨_,rfl,?_⟩
     simp only[VRels]
     exact⟨_,_,rfl,hzr,_,_,rfl,by grind [VRel,goInt],rfl⟩
   grind [HM.run]
 grind [HM.run]
theorem QnW {x s v r:AV} {h':Heap} (hm:(aEntSt x s v).run h=some (r,h')):r= .any:=by
 unfold aEntSt at hm
 split at hm
 ·grind [Qcm,HM.run]
 grind [HM.run]
theorem QlU {t:TypeId} {x s v r:AV} {cx cs cv:Value} {h':Heap} (H:HRel c h w) (hx:VRel c w x cx) (hs:VRel c w s cs) (hv:VRel c w v cv)
  (hm:(aEntSt x s v).run h=some (r,h')):SoundU P c w (Instr.entryStore t cx cs cv) h':=by
 unfold aEntSt at hm
 split at hm
 ·rename_i b g kd i
  obtain⟨es,hb,hm⟩:=Qcm hm
  simp only[VRel]at hx hs
  obtain⟨cb,hp,rfl⟩:=hx
  subst hs
  obtain⟨ms,clock,hO,hC,hR,hcl⟩:=H.atMap hb hp
  split at hm
  ·rename_i p hpi
   obtain⟨hlim,hm⟩:=Qa3 hm
   simp only[HM.run,Option.some.injEq,Prod.mk.injEq]at hm
   obtain⟨rfl,rfl⟩:=hm
   obtain⟨e,he,hke,hve⟩:=QdR i hR hpi
   have hlen:=QiJ hR
   have hlt:i<ms.size:=by
    grind
   have hborn:∀(j:Nat) (hj:j<ms.size),ms[j].born=j:=fun j hj=>by
    have:=QeN j hR (e:=ms[j]) (by simp[hj])
    omega
   have hfind:ms.findIdx? (fun e=>(e.born:Int)==((i:Nat):Int))=some i:=by
    grind [Array.findIdx?_eq_some_iff_getElem]
   rw[Array.getElem?_toList]at he
   obtain ⟨c', E, H'⟩ := H.setMap hlim hb hp (es' := es.set i (p.1, v)) (ms' := ms.modify i fun e => { e with val := cv }) (clock' := clock)
    (fun c' w' E => by
     have := Qft (f := fun e => { e with val := cv }) (fun _ => rfl) (p := (p.1, v)) i (MRel.mono (E.ext H.disj) _ _ _ hR) (fun e' he' => by
      rw[Array.getElem?_toList,he]at he'
      cases he'
      exact⟨VRel.mono (E.ext H.disj) _ _ hke,VRel.mono (E.ext H.disj) _ _ hv⟩)
     exact⟨by simp_all,by simpa using hcl⟩)
   refine⟨c',_,?_,E,H'⟩
   simp[Instr.entryStore,QbM hC,asInt,asIntOf,hfind,Qc0 hC]
  grind [HM.run]
 grind [HM.run]
def aAppendZ (s:Site) (i:Nat) (sz bytes:Nat) (zero:List AV) (x n:AV):HM AV:=
 match x,n with
 | .nilsl,.int .i64 (.ofNat (n+1))=>if(n+1)*bytes<=140737488355328/\n+1<=140737488355328/\0<sz then .new s i (fun g=> .cells g (List.replicate (n+1) zero).flatten) fun b g=> .ret (.sl b g 0 (n+1) sz)else .fail
 |_,_=> .fail
theorem Qg5 {t t2 ty e:TypeId} {i:TypeInfo} {z:Value} {k2:IntKind} {n:Nat} (ht:P.underlying t=some (.slice e)) (ht2:P.underlying t2=some (.int k2))
  (hi:P.info? e=some i) (hz:i.zero=some z) (hsz:i.size≠0) (hg:0<n) (hb:n*i.bytes<=140737488355328) (h63:n<=140737488355328):
  (Builtin.append_ #[t, t2] ty #[.slice none 0 0, .int .i64 n]).run P w =
   .ok (.slice (some ⟨w.heap.size,0,none⟩) n (grownCap w n 0 e))
    (w.drew.alloc (.cells ((Builtin.zeroCells z.cells n).toList++(Builtin.zeroCells z.cells (grownCap w n 0 e-n)).toList).toArray e)):=by
 have hn:¬(n<=0):=by omega
 have hn0:n≠0:=by omega
 have hw:IntKind.i64.wrap (n:Int)=n:=by rw[<-wr_eq];grind [wr_of,lo,AM.hi]
 have hns:¬(n*i.size=0):=by have:=Nat.mul_pos hg (Nat.pos_of_ne_zero hsz);omega
 have h0:¬((n:Int)<0):=by omega
 have h48:¬(281474976710656<(n:Int)*(i.bytes:Int)):=by
  omega
 have h63':¬(9223372036854775807<(n:Int)):=by omega
 have h48':¬(281474976710656<Builtin.nextslicecap n 0*i.bytes):=by
  simp_all [Qhw]
 simp only[Builtin.append_,Array.getElem?_toList,List.getElem?_toArray,List.getElem?_cons_zero,List.getElem?_cons_succ,Sem.run_bind,run_underlying ht,run_underlying ht2,Result.andThen_ok,QaJ hi,Sem.run_pure]
 simp[asInt,asIntOf,typeInfo,zeroValue,hi,hz,hn,hw,h0,h48,h63',h48',hsz,hns,Question.forced,newRow,grownCap,Builtin.firstCells]
 rw[if_neg hn0]
 congr 3
 simp_all
theorem QjU {t t2 ty e:TypeId} {s:Site} {i sz bytes:Nat} {zero:List AV} {x n v:AV} {cx cn:Value} {ti:TypeInfo} {z:Value} {k2:IntKind} {h':Heap} (H:HRel c h w) (hx:VRel c w x cx) (hn:VRel c w n cn)
  (ht:P.underlying t=some (.slice e)) (ht2:P.underlying t2=some (.int k2)) (hi:P.info? e=some ti) (hz:ti.zero=some z) (hsz:ti.size=sz) (hby:ti.bytes=bytes) (hzs:z.cells.size=sz) (hc:cOKs zero z.cells.toList=true)
  (hm:(aAppendZ s i sz bytes zero x n).run h=some (v,h')):Sound P c w (Builtin.append_ #[t,t2] ty #[cx,cn]) v h':=by
 subst hsz;subst hby
 unfold aAppendZ at hm
 split at hm
 ·rename_i n
  split at hm
  ·rename_i hcond
   obtain⟨hb,h63,h0⟩:=hcond
   obtain⟨b,g,hlim,hg,hm⟩:=Qde hm
   simp only[HM.run,Option.some.injEq,Prod.mk.injEq]at hm
   obtain⟨rfl,rfl⟩:=hm
   simp only[VRel]at hx hn
   subst hx;subst hn
   have hr:=Qg5 (P:=P) (w:=w) (ty:=ty) (n:=n+1) ht ht2 hi hz (by omega) (by omega) hb h63
   have hrow:VRels c w (List.replicate (n+1) zero).flatten (Builtin.zeroCells z.cells (n+1)).toList:=QcE (c:=c) (w:=w) (Qca _ _ hc) (n+1)
   have hgl:=Qg3 w (need:=n+1) (old:=0) e
   obtain⟨c',E',H',V'⟩:=QeM H hlim hg (e:=e) (rest:=(Builtin.zeroCells z.cells (grownCap w (n+1) 0 e-(n+1))).toList) hrow (len:=n+1) (cap:=grownCap w (n+1) 0 e) (sz:=ti.size) hgl (by
    have hz1:=QcA z.cells (grownCap w (n+1) 0 e-(n+1))
    have hz2:=QcA z.cells (n+1)
    rw[hzs]at hz1 hz2
    simp only[List.length_append,Array.length_toList,hz1,hz2]
    rw[<-Nat.add_mul]
    simp_all)
   exact⟨_,c',_,hr,E',H',V'⟩
  grind [HM.run]
 grind [HM.run]
theorem onesI {ys:List AV} {us:List Value} (hr:VRels c w ys us) (hone:ys.all AV.one=true):∀u∈us,u.oneCell'=true:=by
 intro u hu
 have hul:=QaC hr
 obtain⟨j,hj,rfl⟩:=List.mem_iff_getElem.1 hu
 obtain⟨v',hv',hr⟩:=Qcp j hr (List.getElem?_eq_getElem (by omega:j<ys.length))
 rw[List.getElem?_eq_getElem hj]at hv';cases hv'
 have h1:(ys[j]).one=true:=by
  simp_all
 have h2:=QcZ (x:=ys[j]) hr (by cases hh:ys[j]<;>simp_all [AV.one,AV.cells])
 have:(us[j]).cells= #[us[j]]\/∃a,us[j]= .agg a:=by cases us[j]<;>simp[Value.cells]
 rcases this with h3|⟨a,h3⟩
 ·simp_all
 ·rw [h3] at hr
  exfalso
  cases hh:ys[j]<;>rw[hh]at hr h1<;>simp[AV.one]at h1<;>simp[VRel]at hr
  rcases hr.1 with⟨_,_,_,k1,_⟩|⟨_,_,_,_,k1,_⟩<;>simp_all
def aClear (sz:Nat) (zero:List AV) (x:AV):HM AV:=
 match x with
 | .nilsl| .esl| .nsl=> .ret .any
 | .sl b g off len s => match len with
  |0=> .ret .any
  |len+1=>if s=sz then .cells b g fun cs=>if off+(len+1)*sz<=cs.length/\zero.length=sz/\zero.all AV.one=true then .put b (.cells g (putR cs off (List.replicate (len+1) zero).flatten)) (.ret .any)else .fail
   else .fail
 | .typed _ (_ + 1) (.sl b g off (len + 1) s) => if s = sz then .cells b g fun cs => if off + (len + 1) * sz <= cs.length /\ zero.length = sz /\ zero.all AV.one = true then .put b (.cells g (putR cs off (List.replicate (len + 1) zero).flatten)) (.ret .any) else .fail
   else .fail
 |_=> .fail
theorem QiK {zero:List AV} (h:zero.all AV.one=true):∀n:Nat,((List.replicate n zero).flatten).all AV.one=true
 |0=>rfl
 |n+1=>by simp_all
theorem QlV {t e ty : TypeId} {sz : Nat} {zero : List AV} {x v : AV} {cx : Value} {ti : TypeInfo} {z : Value} {h' : Heap} (H : HRel c h w) (hx : VRel c w x cx)
    (ht:P.underlying t=some (.slice e)) (hi:P.info? e=some ti) (hz:ti.zero=some z) (hzs:z.cells.size=sz) (hc:cOKs zero z.cells.toList=true)
    (hm:(aClear sz zero x).run h=some (v,h')):Sound P c w (Builtin.clear_ #[t] ty #[cx]) v h':=by
  unfold aClear at hm
  split at hm
  · simp only [HM.run, Option.some.injEq, Prod.mk.injEq] at hm
    obtain⟨rfl,rfl⟩:=hm
    simp only[VRel]at hx
    subst hx
    exact .here H (cv:= .tuple #[]) (by simp[Builtin.clear_,run_underlying ht]) (by simp[VRel])
  · simp only [HM.run, Option.some.injEq, Prod.mk.injEq] at hm
    obtain⟨rfl,rfl⟩:=hm
    simp only[VRel]at hx
    obtain⟨a,rfl⟩:=hx
    exact .here H (cv:= .tuple #[]) (by cases a<;>simp[Builtin.clear_,run_underlying ht]) (by simp[VRel])
  · simp only [HM.run, Option.some.injEq, Prod.mk.injEq] at hm
    obtain⟨rfl,rfl⟩:=hm
    simp only[VRel]at hx
    obtain⟨a,k,rfl⟩:=hx
    exact .here H (cv:= .tuple #[]) (by simp[Builtin.clear_,run_underlying ht]) (by simp[VRel])
  · rename_i b g off len s
    split at hm
    · simp only [HM.run, Option.some.injEq, Prod.mk.injEq] at hm
      obtain⟨rfl,rfl⟩:=hm
      simp only[VRel]at hx
      rcases hx with⟨_,_,_,rfl⟩|⟨cb,base,o,cap,C,ty2,fr,hp,rfl,_⟩
      · exact .here H (cv:= .tuple #[]) (by simp[Builtin.clear_,run_underlying ht]) (by simp[VRel])
      · exact .here H (cv:= .tuple #[]) (by simp[Builtin.clear_,run_underlying ht]) (by simp[VRel])
    · rename_i len
      split at hm
      · rename_i hs; subst hs
        obtain⟨cs,hb,hm⟩:=Qbg hm
        split at hm
        · rename_i hcond
          obtain⟨hl,hzl,hone⟩:=hcond
          obtain⟨hlim,hm⟩:=Qa3 hm
          simp only[HM.run,Option.some.injEq,Prod.mk.injEq]at hm
          obtain⟨rfl,rfl⟩:=hm
          simp only[VRel]at hx
          rcases hx with⟨_,h0,_⟩|⟨cb,base,o,cap,C,ty2,fr,hp,rfl,hlc,hC,hcap⟩
          · omega
          · obtain ⟨rfl, hcap⟩ := hcap.resolve_left (by omega)
            have hrow:VRels c w (List.replicate (len+1) zero).flatten (Builtin.zeroCells z.cells (len+1)).toList:=QcE (c:=c) (w:=w) (Qca _ _ hc) (len+1)
            have hlen:((List.replicate (len+1) zero).flatten).length=(len+1)*s:=by simp[hzl]
            obtain⟨c',w',hr,hE,hH⟩:=Qdd (P:=P) H hb hlim hp (vs:=(List.replicate (len+1) zero).flatten) (off:=off) (by omega) hrow (onesI hrow (QiK hone _))
            refine⟨.tuple #[],c',w',?_,hE,hH,by simp[VRel]⟩
            simp_all [Builtin.clear_,run_underlying,zeroValue,typeInfo]
        grind [HM.run]
      grind [HM.run]
  · rename_i b g off len s
    split at hm
    · rename_i hs; subst hs
      obtain⟨cs,hb,hm⟩:=Qbg hm
      split at hm
      · rename_i hcond
        obtain⟨hl,hzl,hone⟩:=hcond
        obtain⟨hlim,hm⟩:=Qa3 hm
        simp only[HM.run,Option.some.injEq,Prod.mk.injEq]at hm
        obtain⟨rfl,rfl⟩:=hm
        simp only[VRel]at hx
        replace hx:=hx.2
        rcases hx with⟨_,h0,_⟩|⟨cb,base,o,cap,C,ty2,fr,hp,rfl,hlc,hC,hcap⟩
        · omega
        · obtain ⟨rfl, hcap⟩ := hcap.resolve_left (by omega)
          have hrow:VRels c w (List.replicate (len+1) zero).flatten (Builtin.zeroCells z.cells (len+1)).toList:=QcE (c:=c) (w:=w) (Qca _ _ hc) (len+1)
          have hlen:((List.replicate (len+1) zero).flatten).length=(len+1)*s:=by simp[hzl]
          obtain⟨c',w',hr,hE,hH⟩:=Qdd (P:=P) H hb hlim hp (vs:=(List.replicate (len+1) zero).flatten) (off:=off) (by omega) hrow (onesI hrow (QiK hone _))
          refine⟨.tuple #[],c',w',?_,hE,hH,by simp[VRel]⟩
          simp_all [Builtin.clear_,run_underlying,zeroValue,typeInfo]
      grind [HM.run]
    grind [HM.run]
  grind [HM.run]
end Go.AM
namespace Go.AM
variable {P:Program} {ok:Okc} {c:Ctx ok} {w:World} {h:Heap}
inductive AOut where
 |val (v:AV)
 |call (m:CallM) (f:Nat) (args:List AV)
 |round (b g:Nat) (args:List AV)
def mapH (f:AV->HM AV):List AV->HM (List AV)
 |[]=> .ret []
 |x::xs=>(f x).bind fun y=>(mapH f xs).bind fun ys=> .ret (y::ys)
def frzH:Nat->AV->HM AV
 |0,v=> .ret v
 |d+1,v=>match v with
  | .sl b g off len sz=> .cells b g fun cs=>if off+len*sz<=cs.length then(mapH (frzH d) ((cs.drop off).take (len*sz))).bind fun cs'=> .ret (.fsl cs' len sz)else .fail
  | .ptr b g off=> .cells b g fun cs=>(mapH (frzH d) (cs.drop off)).bind fun cs'=> .ret (.fptr cs')
  | .agg cs=>(mapH (frzH d) cs).bind fun cs'=> .ret (.agg cs')
  | .tup cs=>(mapH (frzH d) cs).bind fun cs'=> .ret (.tup cs')
  |v=> .ret v
mutual
def noRef:AV->Bool
 | .ptr .. | .sl .. | .map .. | .yld .. | .typed .. =>false
 | .agg cs| .tup cs| .fptr cs| .fsl cs _ _=>noRefs cs
 | .fmap ks vs=>noRefs ks&&noRefs vs
 | .fn _ x y=>noRefs x&&noRefs y
 | .ifc _ v=>noRef v
 | .any| .bool _| .int _ _| .str _| .nilptr| .nilsl| .esl| .nsl| .nilmap| .nilfn| .nilif=>true
termination_by structural x=>x
def noRefs:List AV->Bool
 |[]=>true
 |x::xs=>noRef x&&noRefs xs
termination_by structural x=>x
end
def hasB:List Nat->Nat->Bool
 |[],_=>false
 |x::xs,b=>bif Nat.beq x b then true else hasB xs b
theorem Qdh {B:List Nat} {b:Nat}:hasB B b=true↔b∈B:=by
 induction B with
 |nil=>simp[hasB]
 | cons x xs ih =>
  simp only[hasB]
  by_cases e:x=b
  ·subst e;simp
  ·have : Nat.beq x b = false := by simp_all [Bool.eq_false_iff]
   grind
mutual
def inB (B:List Nat):AV->Bool
 | .ptr b _ _=>hasB B b
 | .sl b _ _ _ _=>hasB B b
 | .map b _=>hasB B b
 | .yld b _=>hasB B b
 | .agg cs| .tup cs| .fptr cs| .fsl cs _ _=>inBs B cs
 | .fmap ks vs=>inBs B ks&&inBs B vs
 | .fn _ x y=>inBs B x&&inBs B y
 | .ifc _ v=>inB B v
 | .typed _ _ v=>inB B v
 | .any| .bool _| .int _ _| .str _| .nilptr| .nilsl| .esl| .nsl| .nilmap| .nilfn| .nilif=>true
termination_by structural x=>x
def inBs (B:List Nat):List AV->Bool
 |[]=>true
 |x::xs=>inB B x&&inBs B xs
termination_by structural x=>x
end
def inBe (B:List Nat):List (AV×AV)->Bool
 |[]=>true
 |p::r=>inB B p.1&&inB B p.2&&inBe B r
mutual
def flatV:AV->Bool
 | .ptr .. | .sl .. | .map .. | .yld .. | .fptr _| .fsl .. | .fmap .. | .typed .. =>false
 | .agg cs| .tup cs=>flatVs cs
 | .fn _ x y=>flatVs x&&flatVs y
 | .ifc _ v=>flatV v
 | .any| .bool _| .int _ _| .str _| .nilptr| .nilsl| .esl| .nsl| .nilmap| .nilfn| .nilif=>true
termination_by structural x=>x
def flatVs:List AV->Bool
 |[]=>true
 |x::xs=>flatV x&&flatVs xs
termination_by structural x=>x
end
def lift (r:Option AV):HM AOut:=
 match r with
 |some v=> .ret (.val v)
 |none=> .fail
def hval (m:HM AV):HM AOut:=m.bind fun v=> .ret (.val v)
def aPick (c a b:AV):Option AV:=
 match c with
 | .bool t=>some (if t then a else b)
 |_=>none
def aNil (x:AV):Option AV:=
 match x with
 | .ptr .. | .fptr _| .fn .. | .ifc .. | .typed .. =>some x
 |_=>none
def aSliceC (sz:Option Nat) (x:AV) (l h m:Option AV):Option AV:=
 match sz,x with
 |some n,.sl _ _ _ _ s=>if s=n then aSlice x l h m else none
 |some n,.fsl _ _ s=>if s=n then aSlice x l h m else none
 |some _,.nilsl=>aSlice x l h m
 |some _,.esl=>aSlice x l h m
 |none,.str _=>aSlice x l h m
 |_,_=>none
def aLenC (k:Nat) (x:AV):HM AV:=if lenKind x=k then aLen x else .fail
def evs (T:Tmps) (xs:List Opd):List AV:=xs.map (ev T)
def evParts (T:Tmps) (xs:List (Nat×Nat×Opd)):List (Nat×Nat×AV):=xs.map fun p=>(p.1,p.2.1,ev T p.2.2)
def evo (T:Tmps) (x:Option Opd):Option AV:=x.map (ev T)
def aCall (m:CallM) (x:AV) (args:List AV):HM AOut:=
 match x with
 | .fn f first captured=>
  match m with
  | .borrow=>(mapH (frzH 4) (first++args++captured)).bind fun asg=> .ret (.call .borrow f asg)
  |m=> .ret (.call m f (first++args++captured))
 | .yld b g=>match m with
  | .heap=> .ret (.round b g args)
  |_=> .fail
 |_=> .fail
def aop (i:Nat) (T:Tmps):SOp->HM AOut
 | .mov x=> .ret (.val (ev T x))
 | .pick c a b=>lift (aPick (ev T c) (ev T a) (ev T b))
 | .alloc s z=>hval (aBox s i z)
 | .allocT t s z=>hval (aBoxT t s i z)
 | .box s x=>hval (aBox s i (ev T x))
 | .build zero parts=>lift (aBuild zero (evParts T parts))
 | .bslice fz s sz len zero parts=>hval (aBuildSlice fz s i sz len zero (evParts T parts))
 | .load n x=>hval (aLoad n (ev T x))
 | .store n x v=>hval (aStore n (ev T x) (ev T v))
 | .nilchk x=>lift (aNil (ev T x))
 | .bin op x y=>lift (aBin op (ev T x) (ev T y))
 | .eq k neg x y=>lift (aEq k neg (ev T x) (ev T y))
 | .eqn neg x=>hval (aEqN neg (ev T x))
 | .cap x=>lift (aCap (ev T x))
 | .ment row ks zero x k=>hval (aMapEnt row ks zero (ev T x) (ev T k))
 | .estore x s v=>hval (aEntSt (ev T x) (ev T s) (ev T v))
 | .clear sz _ zero x=>hval (aClear sz zero (ev T x))
 | .appendZ s sz bytes zero x n=>hval (aAppendZ s i sz bytes zero (ev T x) (ev T n))
 | .eqp neg x y=>lift (aEqP neg (ev T x) (ev T y))
 | .convP t n x=>lift (aConvP t n (ev T x))
 | .usd x=>lift (aUsd (ev T x))
 | .ustr t x n=>hval (aUstr t (ev T x) (ev T n))
 | .un op x=>lift (aUn op (ev T x))
 | .conv k x=>lift (aConv k (ev T x))
 | .convS x=>lift (aConvS (ev T x))
 | .convB x=>hval (aConvB (ev T x))
 | .ext k _ args=>lift (aExt k (evs T args))
 | .mkfn f xs ys=> .ret (.val (.fn f (evs T xs) (evs T ys)))
 | .mkmap s=>hval (aMakeMap s i)
 | .mkslice s sz bytes zero l c=>hval (aMakeSlice s i sz bytes zero (ev T l) (ev T c))
 | .slice sz x l h m=>lift (aSliceC sz (ev T x) (evo T l) (evo T h) (evo T m))
 | .sliceK sz x l h=>lift (aSliceK sz (ev T x) (evo T l) (evo T h))
 | .faddr off x=>lift (aFAddr off (ev T x))
 | .field n off x=>lift (aField n off (ev T x))
 | .iaddr arr sz x j=>lift (aIAddr arr sz (ev T x) (ev T j))
 | .index arr x j=>lift (aIndex arr (ev T x) (ev T j))
 | .lookup row ks zero ok x k=>hval (aLookup row ks zero ok (ev T x) (ev T k))
 | .mupd row ks x k v=>hval (aMapUpd row ks (ev T x) (ev T k) (ev T v))
 | .extract j x=>lift (aExtract j (ev T x))
 | .len k x=>hval (aLenC k (ev T x))
 | .append s sz bytes x y=>hval (aAppend s i sz bytes (ev T x) (ev T y))
 | .appendT t s sz bytes x y=>hval (aAppendT t s i sz bytes (ev T x) (ev T y))
 | .copy sz x y=>hval (aCopy sz (ev T x) (ev T y))
 | .maxmin mn xs=>lift (aMax mn (evs T xs))
 | .call m x args=>aCall m (ev T x) (evs T args)
 | .bad=> .fail
def okOpd:Operand->Opd->Bool
 | .tmp t,.t i=>t==i
 | .const v,.c x=>cOK x v
 | .func f,.f n=>f==n
 | .global g,.g n=>g==n
 |_,_=>false
def okOpds:List Operand->List Opd->Bool
 |[],[]=>true
 |x::xs,y::ys=>okOpd x y&&okOpds xs ys
 |_,_=>false
def okOpdo:Option Operand->Option Opd->Bool
 |none,none=>true
 |some x,some y=>okOpd x y
 |_,_=>false
def okParts (place:Nat->Option (Nat×Nat)):List (Nat×Operand)->List (Nat×Nat×Opd)->Bool
 |[],[]=>true
 |(i,x)::xs,(off,size,y)::ys=>(match place i with|some (o,s)=>o==off&&s==size|none=>false)&&okOpd x y&&okParts place xs ys
 |_,_=>false
def LK.same:LK->LK->Bool
 | .b,.b| .i,.i| .s,.s=>true
 |_,_=>false
def LK.sames:List LK->List LK->Bool
 |[],[]=>true
 |x::xs,y::ys=>x.same y&&LK.sames xs ys
 |_,_=>false
def mapTB (P:Program) (t:TypeId) (row:Bool) (ks:List LK):Bool:=
 match P.underlying t with
 |some (.map kt _)=>rowB P kt==row&&(match flatK P 40 kt with|some ks'=>LK.sames ks ks'|none=>false)
 |_=>false
def mapElemZero (P:Program) (t:TypeId) (zero:AV):Bool:=
 match P.underlying t with
 |some (.map _ et)=>(match zeroOf P et with|some zv=>cOK zero zv|none=>false)
 |_=>false
def buildTB (P:Program) (t:TypeId):Bool:=
 match P.underlying t with
 |some (.array _ e)=>(P.info? e).isSome
 |some (.struct fields)=>(fields.toList.mapM (fun f=>(P.info? f.type).map fun i=>(f.offset,i.size))).isSome
 |_=>false
def elemTB (P:Program) (t:TypeId) (sz bytes:Nat) (k:TypeInfo->Value->Bool):Bool:=
 match P.underlying t with
 |some (.slice e)=>(match P.info? e with
  |some ie=>ie.size==sz&&ie.bytes==bytes&&(match ie.zero with|some z=>k ie z|none=>false)
  |none=>false)
 |_=>false
def notInt (P:Program) (t:TypeId):Bool:=
 match P.underlying t with
 |some (.int _)|none=>false
 |_=>true
def isConstO:Operand->Bool
 | .const _=>true
 |_=>false
def okCall (P:Program) (c:Call) (s:SOp):Bool:=
 match c.callee,s with
 | .value f,.call _ x args=>okOpd f x&&okOpds c.args.toList args
 | .builtin .len,.len k x=>(match c.args.toList,c.argTypes.toList with|[y],[t]=>okOpd y x&&lenT P t k|_,_=>false)
 | .builtin .cap,.cap x=>(match c.args.toList,c.argTypes.toList with|[y],[t]=>okOpd y x&&capT P t|_,_=>false)
 | .builtin .append,.append _ sz bytes x y=>(match c.args.toList,c.argTypes.toList with
  |[x',y'],[t,t2]=>okOpd x' x&&okOpd y' y&&notInt P t2&&elemTB P t sz bytes (fun ie z=>z.cells.size==sz)
  |_,_=>false)
 | .builtin .append,.appendT e _ sz bytes x y=>(match c.args.toList,c.argTypes.toList with
  |[x',y'],[t,t2]=>okOpd x' x&&okOpd y' y&&notInt P t2&&elemTB P t sz bytes (fun ie z=>z.cells.size==sz)&&(match P.underlying t with|some (.slice e')=>e'==e|_=>false)
  |_,_=>false)
 | .builtin .append,.appendZ _ sz bytes zero x y=>(match c.args.toList,c.argTypes.toList with
  |[x',y'],[t,t2]=>okOpd x' x&&okOpd y' y&&(match P.underlying t2 with|some (.int _)=>true|_=>false)&&elemTB P t sz bytes (fun ie z=>z.cells.size==sz&&cOKs zero z.cells.toList)
  |_,_=>false)
 | .builtin .clear,.clear sz bytes zero x=>(match c.args.toList,c.argTypes.toList with
  |[x'],[t]=>okOpd x' x&&elemTB P t sz bytes (fun ie z=>z.cells.size==sz&&cOKs zero z.cells.toList)
  |_,_=>false)
 | .builtin .unsafeSliceData,.usd x=>(match c.args.toList with|[y]=>okOpd y x|_=>false)
 | .builtin .unsafeString,.ustr t x n=>(match c.args.toList,c.argTypes.toList with|[x',n'],[pt,_]=>okOpd x' x&&okOpd n' n&&ustrT P pt t|_,_=>false)
 | .builtin .copy,.copy sz x y=>(match c.args.toList,c.argTypes.toList with
  |[x',y'],[t,_]=>okOpd x' x&&okOpd y' y&&(match P.underlying t with|some (.slice e)=>(match P.info? e with|some ie=>ie.size==sz|none=>false)|_=>false)
  |_,_=>false)
 | .builtin .max,.maxmin false xs=>okOpds c.args.toList xs
 | .builtin .min,.maxmin true xs=>okOpds c.args.toList xs
 | .value (.func g),.ext k f xs=>g==f&&extFn P f k&&okOpds c.args.toList xs
 |_,_=>false
def okOp (P : Program) (o : Op) (s : SOp) : Bool :=
  match o,s with
  | .move x,.mov y=>okOpd x y
  | .assign x,.mov y=>okOpd x y
  | .pick c a b,.pick c' a' b'=>okOpd c c'&&okOpd a a'&&okOpd b b'
  | .alloc t,.alloc _ z=>(match zeroOf P t with|some zv=>cOK z zv|none=>false)
  | .alloc t,.allocT t' _ z=>t==t'&&(match zeroOf P t with|some zv=>cOK z zv|none=>false)
  | .box _ x,.box _ y=>okOpd x y
  | .build t parts,.build zero ps=>(match zeroOf P t with|some zv=>cOKs zero zv.cells.toList|none=>false)&&buildTB P t&&okParts (placeOf P t) parts.toList ps
  | .buildSlice t len parts,.bslice _ _ sz len' zero ps=>len==len'&&decide (len*sz<=16777216)&&
      (match P.underlying t with
       | some (.slice e) => (match P.info? e with
         |some ie=>ie.size==sz&&(match ie.zero with|some z=>cOKs zero (zeroRow z.cells (len*sz)).toList|none=>false)
         |none=>false)
       |_=>false)&&okParts (fun i=>some (i*sz,sz)) parts.toList ps
  | .load t x,.load n y=>rowT P t n&&okOpd x y
  | .store t x v,.store n x' v'=>(match P.info? t with|some i=>i.size==n|none=>false)&&okOpd x x'&&okOpd v v'
  | .nilCheck x,.nilchk y=>okOpd x y
  | .binOp op _ x y _,.bin op' x' y'=>op==op'&&okOpd x x'&&okOpd y y'
  | .binOp op t x y _,.eq k neg x' y'=>op==(if neg then .neq else .eql)&&eqT P t k&&okOpd x x'&&okOpd y y'&&(match k with| .nil _=>isConstO y|_=>true)
  | .binOp op t x y _,.eqn neg x'=>op==(if neg then .neq else .eql)&&eqT P t (.nil 2)&&okOpd x x'&&isConstO y&&okOpd y (.c .nilsl)
  | .binOp op t x y _,.eqp neg x' y'=>op==(if neg then .neq else .eql)&&eqPT P t&&okOpd x x'&&okOpd y y'
  | .unOp op _ x,.un op' y=>op==op'&&okOpd x y
  | .convert src dst x,.conv k y=>convT P src dst k&&okOpd x y
  | .convert src dst x,.convS y=>convST P src dst&&okOpd x y
  | .convert src dst x,.convB y=>convBT P src dst&&okOpd x y
  | .convert src dst x,.convP t n y=>convPT P src dst t n&&okOpd x y
  | .makeFunc (.func f) first captured,.mkfn f' xs ys=>f==f'&&okOpds first.toList xs&&okOpds captured.toList ys
  | .makeMap _ none,.mkmap _=>true
  | .makeSlice t l c,.mkslice _ sz bytes zero l' c'=>okOpd l l'&&okOpd c c'&&elemTB P t sz bytes (fun ie z=>z.cells.size==sz&&cOKs zero z.cells.toList)
  | .slice t x l h m,.slice sz x' l' h' m'=>sliceT P t sz&&okOpd x x'&&okOpdo l l'&&okOpdo h h'&&okOpdo m m'
  | .slice t x l h none,.sliceK sz x' l' h'=>sliceT P t (some sz)&&okOpd x x'&&okOpdo l l'&&okOpdo h h'
  | .fieldAddr s x f,.faddr off y=>faddrT P s f off&&okOpd x y
  | .field s x f,.field n off y=>fieldT P s f off n&&okOpd x y
  | .indexAddr t x i,.iaddr arr sz x' i'=>iaddrT P t arr sz&&okOpd x x'&&okOpd i i'
  | .index t x i,.index arr x' i'=>indexT P t arr&&okOpd x x'&&okOpd i i'
  | .lookup t x k ok,.lookup row ks zero ok' x' k'=>mapTB P t row ks&&mapElemZero P t zero&&ok==ok'&&okOpd x x'&&okOpd k k'
  | .mapEntry t m k,.ment row ks zero m' k'=>mapTB P t row ks&&mapElemZero P t zero&&okOpd m m'&&okOpd k k'
  | .entryStore _ m s v,.estore m' s' v'=>okOpd m m'&&okOpd s s'&&okOpd v v'
  | .mapUpdate t m k v,.mupd row ks m' k' v'=>mapTB P t row ks&&okOpd m m'&&okOpd k k'&&okOpd v v'
  | .insert t m k v,.mupd row ks m' k' v'=>mapTB P t row ks&&okOpd m m'&&okOpd k k'&&okOpd v v'
  | .extract x i,.extract j y=>i==j&&okOpd x y
  |_,.bad=>true
  | .call cl,s=>okCall P cl s
  |_,_=>false
theorem run_bind {α β:Type} {m:HM α} {f:α->HM β} {h:Heap} {r:β×Heap} (hm:(m.bind f).run h=some r):∃a h1,m.run h=some (a,h1)/\(f a).run h1=some r:=by
 induction m generalizing h with
 |ret a=>exact⟨a,h,rfl,hm⟩
 |fail=>simp[HM.bind,HM.run]at hm
 |look b k ih=>
  simp only[HM.bind,HM.run]at hm
  obtain⟨a,h1,k1,k2⟩:=ih _ hm
  exact⟨a,h1,by grind [HM.run],k2⟩
 |put b x k ih=>
  simp only[HM.bind]at hm
  obtain⟨hl,hm⟩:=Qa3 hm
  obtain⟨a,h1,k1,k2⟩:=ih hm
  refine⟨a,h1,?_,k2⟩
  simp only[HM.run]
  have:Nat.blt b lim=true:=by simp_all
  rw[this];exact k1
theorem QaS {m:HM AV} {h:Heap} {r:AOut×Heap} (hm:(hval m).run h=some r):∃v h1,m.run h=some (v,h1)/\r=(.val v,h1):=by
 obtain⟨v,h1,k1,k2⟩:=run_bind hm
 grind [HM.run]
theorem QaV {o:Option AV} {h:Heap} {r:AOut×Heap} (hm:(lift o).run h=some r):∃v,o=some v/\r=(.val v,h):=by
 unfold lift at hm
 cases o with
 |none=>simp[HM.run]at hm
 |some v=>simp only[HM.run,Option.some.injEq]at hm;exact⟨v,rfl,hm.symm⟩
def lent (c:Ctx ok):Ctx ok:={c with F:=fun k=>c.F k\/c.O k,O:=fun _=>False}
theorem Qg6 (c:Ctx ok) (w:World):Ext c w (lent c) w:=
 ⟨fun _ _ _ h=>h,fun _ h=> .inl h,fun _ _ _ h=>h,fun _ C _ fr h=>⟨C,fr,h,rfl⟩⟩
theorem Qc1 {f:AV->HM AV} (hf:∀(x y:AV) (v:Value) (h':Heap),VRel c w x v->(f x).run h=some (y,h')->h'=h/\VRel (lent c) w y v):
  ∀(xs ys:List AV) (vs:List Value) (h':Heap),VRels c w xs vs->(mapH f xs).run h=some (ys,h')->h'=h/\VRels (lent c) w ys vs
 |[],ys,vs,h',hv,hm=>by
  simp only[mapH,HM.run,Option.some.injEq,Prod.mk.injEq]at hm
  obtain⟨rfl,rfl⟩:=hm
  simp_all [VRels]
 |x::xs,ys,vs,h',hv,hm=>by
  simp only[mapH]at hm
  obtain⟨y,h1,k1,k2⟩:=run_bind hm
  obtain⟨ys',h2,k3,k4⟩:=run_bind k2
  simp only[VRels]at hv
  obtain⟨v,vs',rfl,g1,g2⟩:=hv
  obtain⟨e1,r1⟩:=hf x y v h1 g1 k1
  rw[e1]at k3
  obtain⟨e2,r2⟩:=Qc1 hf xs ys' vs' h2 g2 k3
  simp only[HM.run,Option.some.injEq,Prod.mk.injEq]at k4
  obtain⟨rfl,rfl⟩:=k4
  simp only[VRels]
  grind
theorem QdS {f:AV->HM AV} (hf:∀(x y:AV) (v:Value) (h':Heap),VRel c w x v->(f x).run h=some (y,h')->h'=h/\VRel (lent c) w y v):
  ∀(xs ys:List AV) (vs:List Value) (h':Heap),VPre c w xs vs->(mapH f xs).run h=some (ys,h')->h'=h/\VPre (lent c) w ys vs
 |[],ys,vs,h',hv,hm=>by
  simp only[mapH,HM.run,Option.some.injEq,Prod.mk.injEq]at hm
  obtain⟨rfl,rfl⟩:=hm
  simp[VPre]
 |x::xs,ys,vs,h',hv,hm=>by
  simp only[mapH]at hm
  obtain⟨y,h1,k1,k2⟩:=run_bind hm
  obtain⟨ys',h2,k3,k4⟩:=run_bind k2
  simp only[VPre]at hv
  obtain⟨v,vs',rfl,g1,g2⟩:=hv
  obtain⟨e1,r1⟩:=hf x y v h1 g1 k1
  rw[e1]at k3
  obtain⟨e2,r2⟩:=QdS hf xs ys' vs' h2 g2 k3
  simp only[HM.run,Option.some.injEq,Prod.mk.injEq]at k4
  obtain⟨rfl,rfl⟩:=k4
  simp only[VPre]
  grind
theorem Qgr {f:AV->HM AV}:∀(xs ys:List AV) (h h':Heap),(mapH f xs).run h=some (ys,h')->ys.length=xs.length
 |[],ys,h,h',hm=>by
  simp only[mapH,HM.run,Option.some.injEq,Prod.mk.injEq]at hm
  simp_all
 |x::xs,ys,h,h',hm=>by
  simp only[mapH]at hm
  obtain⟨y,h1,k1,k2⟩:=run_bind hm
  obtain⟨ys',h2,k3,k4⟩:=run_bind k2
  simp only[HM.run,Option.some.injEq,Prod.mk.injEq]at k4
  obtain⟨rfl,rfl⟩:=k4
  simp[Qgr xs ys' _ _ k3]
theorem Qef (H : HRel c h w) : ∀ (d : Nat) (x y : AV) (v : Value) (h' : Heap), VRel c w x v -> (frzH d x).run h = some (y, h') -> h' = h /\ VRel (lent c) w y v
  | 0, x, y, v, h', hv, hm => by
    simp only[frzH,HM.run,Option.some.injEq,Prod.mk.injEq]at hm
    obtain⟨rfl,rfl⟩:=hm
    exact⟨rfl,VRel.mono (Qg6 c w) _ _ hv⟩
  | d + 1, x, y, v, h', hv, hm => by
    have ih:=Qef H d
    have same:(HM.ret x).run h=some (y,h')->h'=h/\VRel (lent c) w y v:=by
      intro hm
      simp only[HM.run,Option.some.injEq,Prod.mk.injEq]at hm
      obtain⟨rfl,rfl⟩:=hm
      exact⟨rfl,VRel.mono (Qg6 c w) _ _ hv⟩
    cases x<;>simp only[frzH]at hm<;>try (exact same hm)
    case sl b g off len sz =>
      obtain⟨cs,hb,hm⟩:=Qbg hm
      split at hm
      · rename_i hl
        obtain⟨cs',h1,k1,k2⟩:=run_bind hm
        simp only[HM.run,Option.some.injEq,Prod.mk.injEq]at k2
        obtain⟨rfl,rfl⟩:=k2
        have hlen:=Qgr _ _ _ _ k1
        simp only[VRel]at hv
        rcases hv with⟨hp,rfl,rfl,rfl⟩|⟨cb,base,o,cap,C,e,fr,hp,rfl,hlc,hC,hcap⟩
        · have hcs' : cs' = [] := by
            simp_all
          subst hcs'
          obtain⟨rfl,_⟩:=QdS ih _ _ [] _ (by simp[VPre]) k1
          exact⟨rfl,by simp_all [VRel]⟩
        · obtain ⟨C', e', fr', hO, hC', hfr, hbs, hpre⟩ := H.here hb hp
          rw[hC]at hC';cases hC'
          by_cases h0:cap=0
          · have hl0 : len = 0 := by omega
            subst hl0
            have hcs':cs'=[]:=by
              simp_all
            subst hcs'
            obtain⟨rfl,_⟩:=QdS ih _ _ [] _ (by simp[VPre]) k1
            refine⟨rfl,?_⟩
            simp only[VRel]
            simp_all
          · obtain ⟨rfl, hbd⟩ := hcap.resolve_left h0
            have hp2:=Qb6 (len*sz) (Qbi off hpre)
            rw[List.drop_drop]at hp2
            obtain⟨rfl,hr⟩:=QdS ih _ _ _ _ hp2 k1
            refine⟨rfl,?_⟩
            simp only[VRel]
            exact .inr ⟨cb,base+off,cap,C,e,fr,rfl,hlc,by grind,.inr hO,hC,hr⟩
      grind [HM.run]
    case ptr b g off=>
      obtain⟨cs,hb,hm⟩:=Qbg hm
      obtain⟨cs',h1,k1,k2⟩:=run_bind hm
      simp only[HM.run,Option.some.injEq,Prod.mk.injEq]at k2
      obtain⟨rfl,rfl⟩:=k2
      simp only[VRel]at hv
      obtain⟨cb,base,hp,rfl⟩:=hv
      obtain⟨C,e,fr,hO,hC,hfr,hbs,hpre⟩:=H.here hb hp
      have hp2:=Qbi off hpre
      rw[List.drop_drop]at hp2
      obtain⟨rfl,hr⟩:=QdS ih _ _ _ _ hp2 k1
      refine⟨rfl,?_⟩
      simp only[VRel]
      exact⟨cb,base+off,C,e,fr,rfl,.inr hO,hC,hr⟩
    case agg cs=>
      obtain⟨cs',h1,k1,k2⟩:=run_bind hm
      simp only[HM.run,Option.some.injEq,Prod.mk.injEq]at k2
      obtain⟨rfl,rfl⟩:=k2
      simp only[VRel]at hv
      obtain⟨vs,rfl,hv⟩:=hv
      obtain⟨rfl,hr⟩:=Qc1 ih _ _ _ _ hv k1
      exact⟨rfl,by simp only[VRel];simp_all⟩
    case tup cs=>
      obtain⟨cs',h1,k1,k2⟩:=run_bind hm
      simp only[HM.run,Option.some.injEq,Prod.mk.injEq]at k2
      obtain⟨rfl,rfl⟩:=k2
      simp only[VRel]at hv
      obtain⟨vs,rfl,hv⟩:=hv
      obtain⟨rfl,hr⟩:=Qc1 ih _ _ _ _ hv k1
      exact⟨rfl,by simp only[VRel];simp_all⟩
def TRel (c:Ctx ok) (w:World) (T:Tmps) (a:Act):Prop:=∀i,VRel c w (lk T i) (a.tmps.getD i undef)
theorem Qat {T:Tmps} {a:Act} (ht:TRel c w T a) {x:Operand} {y:Opd} (hok:okOpd x y=true):VRel c w (ev T y) (a.eval x):=by
 cases x<;>cases y<;>simp only[okOpd,Bool.false_eq_true,beq_iff_eq]at hok
 ·subst hok;exact ht _
 ·exact QdJ _ _ hok
 ·simp[ev,VRel]
 ·subst hok;simp only[ev,VRel,Act.eval];exact⟨#[], #[],rfl,by simp[VRels],by simp[VRels]⟩
theorem Qcc {T:Tmps} {a:Act} (ht:TRel c w T a):∀{xs:List Operand} {ys:List Opd},okOpds xs ys=true->VRels c w (evs T ys) (xs.map a.eval)
 |[],[],_=>by simp[evs,VRels]
 |[],_::_,hok=>by simp[okOpds]at hok
 |_::_,[],hok=>by simp[okOpds]at hok
 |x::xs,y::ys,hok=>by
  simp only[okOpds,Bool.and_eq_true]at hok
  simp only[evs,List.map_cons,VRels]
  exact⟨_,_,rfl,Qat ht hok.1,Qcc ht hok.2⟩
theorem Qc2 {T:Tmps} {a:Act} (ht:TRel c w T a) {x:Option Operand} {y:Option Opd} (hok:okOpdo x y=true):ORel c w (evo T y) (x.map a.eval):=by
 cases x<;>cases y<;>simp only[okOpdo,Bool.false_eq_true]at hok
 ·simp[evo,ORel]
 ·exact Qat ht hok
theorem Qer {T:Tmps} {a:Act} (ht:TRel c w T a) {place:Nat->Option (Nat×Nat)}:∀{xs:List (Nat×Operand)} {ys:List (Nat×Nat×Opd)},okParts place xs ys=true->
  PartsRel c w place (evParts T ys) (xs.map fun p=>(p.1,a.eval p.2))
 |[],[],_=>by simp[evParts,PartsRel]
 |[],_::_,hok=>by simp[okParts]at hok
 |_::_,[],hok=>by simp[okParts]at hok
 |(i,x)::xs,(off,size,y)::ys,hok=>by
  simp only[okParts,Bool.and_eq_true]at hok
  obtain⟨⟨h1,h2⟩,h3⟩:=hok
  simp only[evParts,List.map_cons,PartsRel]
  refine⟨_,_,_,rfl,?_,Qat ht h2,Qer ht h3⟩
  grind
def Callable (P:Program) (f:Nat):Prop:=∃fn,P.funcs[f]?=some fn/\fn.body.isSome=true/\(fn.name== "runtime.NumGoroutine")=false
def Done (P:Program) (c:Ctx ok) (h:Heap) (w:World) (s:Sem Next):AOut->Heap->Prop
 | .val v,h'=>∃nx cv c' w',s.run P w= .ok nx w'/\(nx= .value cv\/nx= .skip/\cv=undef)/\Evo c w c' w'/\HRel c' h' w'/\VRel c' w' v cv
 | .call m f args,h'=>h'=h/\∃cargs:Array Value,(Callable P f->s.run P w= .ok (.enter f cargs) w)/\(m≠ .borrow->VRels c w args cargs.toList)/\(m= .borrow->VRels (lent c) w args cargs.toList)
 | .round b g args,h'=>h'=h/\∃(cb:Nat) (cargs:Array Value),c.ρ b g=some (.loc cb 0)/\VRels c w args cargs.toList/\s.run P w=(Instr.yield cb cargs).run P w
theorem Done.ofSound {s:Sem Value} {v:AV} {h':Heap} (hs:Sound P c w s v h'):Done P c h w (do pure (.value (<-s))) (.val v) h':=by
 obtain⟨cv,c',w',h1,h2,h3,h4⟩:=hs
 exact⟨.value cv,cv,c',w',by simp[h1],.inl rfl,h2,h3,h4⟩
theorem Done.ofPure {s:Sem Value} {v:AV} (H:HRel c h w) (hs:Pure P c w s v):Done P c h w (do pure (.value (<-s))) (.val v) h:=
 .ofSound (hs.sound H)
theorem Done.ofU {s:Sem Unit} {v:AV} {h':Heap} (hs:SoundU P c w s h') (hv:v= .any):Done P c h w (do s;pure .skip) (.val v) h':=by
 obtain⟨c',w',h1,h2,h3⟩:=hs
 subst hv
 exact⟨.skip,undef,c',w',by simp[h1],.inr ⟨rfl,rfl⟩,h2,h3,by simp[VRel]⟩
theorem Qqo {k k':LK} (hh:LK.same k k'=true):k=k':=by
 cases k<;>cases k'<;>simp[LK.same]at hh<;>rfl
theorem Qj8:∀{ks ks':List LK},LK.sames ks ks'=true->ks=ks'
 |[],[],_=>rfl
 |[],_::_,hh=>by simp[LK.sames]at hh
 |_::_,[],hh=>by simp[LK.sames]at hh
 |k::ks,k'::ks',hh=>by
  simp only[LK.sames,Bool.and_eq_true]at hh
  rw[Qqo hh.1,Qj8 hh.2]
theorem QeO {t:TypeId} {row:Bool} {ks:List LK} (hh:mapTB P t row ks=true):∃kt et,MapT P t row ks kt et:=by
 unfold mapTB at hh
 split at hh
 ·rename_i kt et hu
  simp only[Bool.and_eq_true,beq_iff_eq]at hh
  obtain⟨h1,h2⟩:=hh
  split at h2
  ·rename_i ks' hk
   exact⟨kt,et,hu,by rw[hk,Qj8 h2],h1⟩
  ·cases h2
 ·cases hh
theorem Qdo {t:TypeId} {zv:Value} (hh:zeroOf P t=some zv):∃i,P.info? t=some i/\i.zero=some zv:=by
 unfold zeroOf at hh
 cases hi:P.info? t with
 |none=>simp[hi]at hh
 |some i=>exact⟨i,rfl,by simp_all⟩
theorem Qdt {t:TypeId} {sz bytes:Nat} {k:TypeInfo->Value->Bool} (hh:elemTB P t sz bytes k=true):
  ∃e ie z,P.underlying t=some (.slice e)/\P.info? e=some ie/\ie.size=sz/\ie.bytes=bytes/\ie.zero=some z/\k ie z=true:=by
 grind [elemTB]
theorem QnX {x v:AV} {cx:Value} (hx:VRel c w x cx) (hm:aNil x=some v):
  (match cx with
  | .pointer none| .nilIface| .nilFunc=>(runtimePanic .nilDeref:Sem Next)
  | .func (.method name) first captured =>
   match (first[0]?:Option Value)with
   |some .nilIface=>runtimePanic .nilDeref
   | some (.iface t w) => do
    if(<-nilAhead ((<-program).types.size+Made.depth) t w name) !=some false then
     unsupported (.noEntry "op/nilCheck.the method's receiver behind this interface value is a nil pointer, or cannot be seen to be none, and the arguments act or may panic (ledger 612)")
    pure (.value (.func (.method name) first captured))
   |_=>pure (.value (.func (.method name) first captured))
  |x=>pure (.value x))=pure (.value cx)/\v=x:=by
 unfold aNil at hm
 split at hm<;>first|(cases hm;done)|(cases hm;simp only[VRel]at hx)
 ·grind
 ·grind
 ·grind
 ·grind
 ·rcases hx.1 with⟨_,_,_,h1|⟨_,_,_,h1⟩,_⟩|⟨_,_,_,_,h1,_⟩<;>(subst h1;exact⟨rfl,rfl⟩)
theorem Qfu {f:Nat} {args:Array Value} (hc:Callable P f) (w:World):(callFunc f args).run P w= .ok (.enter f args) w:=by
 obtain⟨fn,h1,h2,h3⟩:=hc
 have h4:fn.body.isNone=false:=by
  simp_all
 simp only[callFunc,Sem.run_bind,run_program,Result.andThen_ok,h1,h3,h4,Bool.false_eq_true,if_false,Sem.run_pure]
theorem QlW {x:AV} {args:List AV} {cx:Value} {cargs:Array Value} {m:CallM} {out:AOut} {h':Heap} (H:HRel c h w) (hx:VRel c w x cx) (ha:VRels c w args cargs.toList)
  (hm:(aCall m x args).run h=some (out,h')):Done P c h w (do let d<-Deferred.ofValue cx cargs;invoke d.target d.args) out h':=by
 cases x<;>simp only[aCall]at hm<;>try (cases hm;done)
 rotate_left
 ·rename_i b g
  simp only[VRel]at hx
  obtain⟨cb,h1,rfl⟩:=hx
  cases m<;>simp only[HM.run,Option.some.injEq,Prod.mk.injEq,reduceCtorEq]at hm
  obtain⟨rfl,rfl⟩:=hm
  exact⟨rfl,cb,cargs,h1,ha,by simp[Deferred.ofValue,invoke]⟩
 rename_i f first captured
 simp only[VRel]at hx
 obtain⟨x',y',rfl,h1,h2⟩:=hx
 have hall:VRels c w (first++args++captured) (x'++cargs++y').toList:=by
  simp_all [Qbx]
 have hrun:Callable P f->(do let d<-Deferred.ofValue (.func (.func f) x' y') cargs;invoke d.target d.args:Sem Next).run P w= .ok (.enter f (x'++cargs++y')) w:=by
  simp_all [Deferred.ofValue,invoke,Qfu]
 have plain:∀m',m'≠ .borrow->(HM.ret (AOut.call m' f (first++args++captured))).run h=some (out,h')->Done P c h w (do let d<-Deferred.ofValue (.func (.func f) x' y') cargs;invoke d.target d.args) out h':=by
  intro m' hne hm
  simp only[HM.run,Option.some.injEq,Prod.mk.injEq]at hm
  obtain⟨rfl,rfl⟩:=hm
  exact⟨rfl,_,hrun,fun _=>hall,fun e=>absurd e hne⟩
 cases m with
 |heap=>exact plain _ (by simp) hm
 |pure=>exact plain _ (by simp) hm
 |borrow=>
  simp only at hm
  obtain⟨asg,h1',k1,k2⟩:=run_bind hm
  simp only[HM.run,Option.some.injEq,Prod.mk.injEq]at k2
  obtain⟨rfl,rfl⟩:=k2
  obtain⟨rfl,hr⟩:=Qc1 (Qef H 4) _ _ _ _ hall k1
  exact⟨rfl,_,hrun,fun e=>absurd rfl e,fun _=>hr⟩
theorem Qnh {cl:Call} {ty:TypeId} {s:SOp} {i:Nat} {T:Tmps} {a:Act} {out:AOut} {h':Heap} (H:HRel c h w) (ht:TRel c w T a) (hok:okCall P cl s=true) (hm:(aop i T s).run h=some (out,h')):
  Done P c h w (do let d<-resolve a.eval cl ty;invoke d.target d.args) out h':=by
 obtain⟨callee,args,argTypes⟩:=cl
 unfold okCall at hok
 simp only at hok
 split at hok
 ·rename_i f m x xs
  simp only[Bool.and_eq_true]at hok
  have hargs:VRels c w (evs T xs) (args.map a.eval).toList:=by simp_all [Qcc]
  exact QlW H (Qat ht hok.1) hargs hm
 ·rename_i k x
  split at hok
  ·rename_i y t e1 e2
   simp only[Bool.and_eq_true]at hok
   obtain⟨v,h1,k1,k2⟩:=QaS hm
   cases k2
   unfold aLenC at k1
   split at k1
   ·rename_i hk
    have hs:=QnQ (P:=P) (ty:=ty) H (Qat ht hok.1) (by rw[hk];exact hok.2) k1
    have : (do let d <- resolve a.eval { callee := .builtin .len, args := args, argTypes := argTypes } ty; invoke d.target d.args : Sem Next) = (do pure (.value (<- Builtin.len_ #[t] ty #[a.eval y]))) := by
     have ea:args= #[y]:=by grind
     have eb:argTypes= #[t]:=by grind
     simp_all [resolve,invoke,builtin]
    rw[this]
    exact .ofSound hs
   grind [HM.run]
  ·cases hok
 ·rename_i x
  split at hok
  ·rename_i y t e1 e2
   simp only[Bool.and_eq_true]at hok
   obtain⟨v,k1,k2⟩:=QaV hm
   cases k2
   have : (do let d <- resolve a.eval { callee := .builtin .cap, args := args, argTypes := argTypes } ty; invoke d.target d.args : Sem Next) = (do pure (.value (<- Builtin.cap_ #[t] ty #[a.eval y]))) := by
    have ea:args= #[y]:=by grind
    have eb:argTypes= #[t]:=by grind
    simp_all [resolve,invoke,builtin]
   rw[this]
   exact .ofPure H (QnR (Qat ht hok.1) hok.2 k1)
  ·cases hok
 ·rename_i st sz bytes x y
  split at hok
  ·rename_i x' y' t t2 e1 e2
   simp only[Bool.and_eq_true]at hok
   obtain⟨⟨⟨g1,g2⟩,g3⟩,g4⟩:=hok
   obtain⟨v,h1,k1,k2⟩:=QaS hm
   cases k2
   obtain⟨e,ie,z,hu,hi,hsz,hby,hz,hzs⟩:=Qdt g4
   have hnot:∃d2,P.underlying t2=some d2/\∀k,d2≠ .int k:=by
    unfold notInt at g3
    split at g3
    ·cases g3
    ·cases g3
    ·rename_i h1 h2
     cases hd:P.underlying t2 with
     |none=>exact absurd hd h2
     |some d=>exact⟨d,rfl,fun k e=>h1 k (by rw[hd,e])⟩
   have hs:=QdP (P:=P) (ty:=ty) H (Qat ht g1) (Qat ht g2) (T:=⟨hu,hnot,hi,hz,hsz,hby,by simpa using hzs⟩) k1
   have : (do let d <- resolve a.eval { callee := .builtin .append, args := args, argTypes := argTypes } ty; invoke d.target d.args : Sem Next) = (do pure (.value (<- Builtin.append_ #[t, t2] ty #[a.eval x', a.eval y']))) := by
    have ea:args= #[x',y']:=by grind
    have eb:argTypes= #[t,t2]:=by grind
    simp_all [resolve,invoke,builtin]
   rw[this]
   exact .ofSound hs
  ·cases hok
 ·rename_i e0 st sz bytes x y
  split at hok
  ·rename_i x' y' t t2 e1 e2
   simp only[Bool.and_eq_true]at hok
   obtain⟨⟨⟨⟨g1,g2⟩,g3⟩,g4⟩,g5⟩:=hok
   obtain⟨v,h1,k1,k2⟩:=QaS hm
   cases k2
   obtain⟨e,ie,z,hu,hi,hsz,hby,hz,hzs⟩:=Qdt g4
   rw[hu]at g5
   have g5:e=e0:=by simpa using g5
   subst g5
   have hnot:∃d2,P.underlying t2=some d2/\∀k,d2≠ .int k:=by
    unfold notInt at g3
    split at g3
    ·cases g3
    ·cases g3
    ·rename_i h1 h2
     cases hd:P.underlying t2 with
     |none=>exact absurd hd h2
     |some d=>exact⟨d,rfl,fun k e=>h1 k (by rw[hd,e])⟩
   have hs:=QjT (P:=P) (ty:=ty) H (Qat ht g1) (Qat ht g2) (T:=⟨hu,hnot,hi,hz,hsz,hby,by simpa using hzs⟩) k1
   have : (do let d <- resolve a.eval { callee := .builtin .append, args := args, argTypes := argTypes } ty; invoke d.target d.args : Sem Next) = (do pure (.value (<- Builtin.append_ #[t, t2] ty #[a.eval x', a.eval y']))) := by
    have ea:args= #[x',y']:=by grind
    have eb:argTypes= #[t,t2]:=by grind
    simp_all [resolve,invoke,builtin]
   rw[this]
   exact .ofSound hs
  ·cases hok
 ·rename_i st sz bytes zero x y
  split at hok
  ·rename_i x' y' t t2 e1 e2
   simp only[Bool.and_eq_true]at hok
   obtain⟨⟨⟨g1,g2⟩,g3⟩,g4⟩:=hok
   obtain⟨v,h1,k1,k2⟩:=QaS hm
   cases k2
   obtain⟨e,ie,z,hu,hi,hsz,hby,hz,hk⟩:=Qdt g4
   simp only[Bool.and_eq_true,beq_iff_eq]at hk
   split at g3
   ·rename_i k2 hu2
    have hs:=QjU (P:=P) (ty:=ty) H (Qat ht g1) (Qat ht g2) hu hu2 hi hz hsz hby hk.1 hk.2 k1
    have : (do let d <- resolve a.eval { callee := .builtin .append, args := args, argTypes := argTypes } ty; invoke d.target d.args : Sem Next) = (do pure (.value (<- Builtin.append_ #[t, t2] ty #[a.eval x', a.eval y']))) := by
     have ea:args= #[x',y']:=by grind
     have eb:argTypes= #[t,t2]:=by grind
     simp_all [resolve,invoke,builtin]
    rw[this]
    exact .ofSound hs
   ·cases g3
  ·cases hok
 ·rename_i sz bytes zero x
  split at hok
  ·rename_i x' t e1 e2
   simp only[Bool.and_eq_true]at hok
   obtain⟨g1,g4⟩:=hok
   obtain⟨v,h1,k1,k2⟩:=QaS hm
   cases k2
   obtain⟨e,ie,z,hu,hi,hsz,hby,hz,hk⟩:=Qdt g4
   simp only[Bool.and_eq_true,beq_iff_eq]at hk
   have hs:=QlV (P:=P) (ty:=ty) H (Qat ht g1) hu hi hz hk.1 hk.2 k1
   have : (do let d <- resolve a.eval { callee := .builtin .clear, args := args, argTypes := argTypes } ty; invoke d.target d.args : Sem Next) = (do pure (.value (<- Builtin.clear_ #[t] ty #[a.eval x']))) := by
    have ea:args= #[x']:=by grind
    have eb:argTypes= #[t]:=by grind
    simp_all [resolve,invoke,builtin]
   rw[this]
   exact .ofSound hs
  ·cases hok
 ·rename_i x
  split at hok
  ·rename_i y e1
   obtain⟨v,k1,k2⟩:=QaV hm
   cases k2
   have : (do let d <- resolve a.eval { callee := .builtin .unsafeSliceData, args := args, argTypes := argTypes } ty; invoke d.target d.args : Sem Next) = (do pure (.value (<- Builtin.unsafeSliceData_ argTypes ty #[a.eval y]))) := by
    have ea:args= #[y]:=by grind
    simp_all [resolve,invoke,builtin]
   rw[this]
   exact .ofPure H (QnV (P:=P) (Qat ht hok) k1)
  ·cases hok
 ·rename_i t x n
  split at hok
  ·rename_i x' n' pt it e1 e2
   simp only[Bool.and_eq_true]at hok
   obtain⟨⟨g1,g2⟩,g3⟩:=hok
   obtain⟨v,h1,k1,k2⟩:=QaS hm
   cases k2
   have hs:=Qng (P:=P) (ty:=ty) (it:=it) H (Qat ht g1) (Qat ht g2) g3 k1
   have : (do let d <- resolve a.eval { callee := .builtin .unsafeString, args := args, argTypes := argTypes } ty; invoke d.target d.args : Sem Next) = (do pure (.value (<- Builtin.unsafeString_ #[pt, it] ty #[a.eval x', a.eval n']))) := by
    have ea:args= #[x',n']:=by grind
    have eb:argTypes= #[pt,it]:=by grind
    simp_all [resolve,invoke,builtin]
   rw[this]
   exact .ofSound hs
  ·cases hok
 ·rename_i sz x y
  split at hok
  ·rename_i x' y' t t2 e1 e2
   simp only[Bool.and_eq_true]at hok
   obtain⟨⟨g1,g2⟩,g3⟩:=hok
   obtain⟨v,h1,k1,k2⟩:=QaS hm
   cases k2
   split at g3
   ·rename_i e hu
    split at g3
    ·rename_i ie hi
     have hs:=Qnb (P:=P) (ty:=ty) (t2:=t2) H (Qat ht g1) (Qat ht g2) hu hi (by simpa using g3) k1
     have : (do let d <- resolve a.eval { callee := .builtin .copy, args := args, argTypes := argTypes } ty; invoke d.target d.args : Sem Next) = (do pure (.value (<- Builtin.copy_ #[t, t2] ty #[a.eval x', a.eval y']))) := by
      have ea:args= #[x',y']:=by grind
      have eb:argTypes= #[t,t2]:=by grind
      simp_all [resolve,invoke,builtin]
     rw[this]
     exact .ofSound hs
    ·cases g3
   ·cases g3
  ·cases hok
 ·rename_i xs
  obtain⟨v,k1,k2⟩:=QaV hm
  cases k2
  have hargs:VRels c w (evs T xs) (args.map a.eval).toList:=by simp_all [Qcc]
  exact .ofPure H (QiH (P:=P) (mn:=false) (ats:=argTypes) (ty:=ty) hargs k1)
 ·rename_i xs
  obtain⟨v,k1,k2⟩:=QaV hm
  cases k2
  have hargs:VRels c w (evs T xs) (args.map a.eval).toList:=by simp_all [Qcc]
  exact .ofPure H (QiH (P:=P) (mn:=true) (ats:=argTypes) (ty:=ty) hargs k1)
 ·rename_i g k f xs
  simp only[Bool.and_eq_true,beq_iff_eq]at hok
  obtain⟨⟨rfl,g2⟩,g3⟩:=hok
  obtain⟨v,k1,k2⟩:=QaV hm
  cases k2
  have hargs:VRels c w (evs T xs) (args.map a.eval).toList:=by simp_all [Qcc]
  obtain⟨cv,hr,hv⟩:=QnT g2 hargs k1
  refine⟨.value cv,cv,c,w,?_,.inl rfl,.refl c w,H,hv⟩
  simp[resolve,Deferred.ofValue,invoke,Act.eval,hr]
 ·cases hok
theorem Qj9 {row:Bool} {ks:List LK} {x k v r:AV} {h':Heap} (hm:(aMapUpd row ks x k v).run h=some (r,h')):r= .any:=by
 unfold aMapUpd at hm
 grind [Qcm,HM.run]
theorem Qpx {o:Oper} {s:SOp} {i:Nat} {T:Tmps} {a:Act} {out:AOut} {h':Heap} (H:HRel c h w) (ht:TRel c w T a) (hok:okOp P o.op s=true) (hm:(aop i T s).run h=some (out,h')):
  Done P c h w (execOp a.eval o) out h':=by
 obtain⟨dst,op,ty,pos,after,guard⟩:=o
 simp only at hok
 have keep:∀{v:AV} {cv:Value},VRel c w v cv->Done P c h w (pure (.value cv)) (.val v) h:=fun{v cv} hv=>⟨.value cv,cv,c,w,rfl,.inl rfl,.refl c w,H,hv⟩
 unfold okOp at hok
 split at hok
 ·-- move
  simp only[aop,HM.run,Option.some.injEq,Prod.mk.injEq]at hm
  obtain⟨rfl,rfl⟩:=hm
  exact keep (Qat ht hok)
 ·simp only [aop, HM.run, Option.some.injEq, Prod.mk.injEq] at hm
  obtain⟨rfl,rfl⟩:=hm
  exact keep (Qat ht hok)
 ·-- pick
  rename_i x y z x' y' z'
  simp only[Bool.and_eq_true]at hok
  obtain⟨v,k1,k2⟩:=QaV hm
  cases k2
  have h1:=Qat ht hok.1.1
  unfold aPick at k1
  split at k1
  ·rename_i t e
   rw[e]at h1
   simp only[VRel]at h1
   cases k1
   have e1:execOp a.eval {dst,op:= .pick x y z,type:=ty,pos,after,guard}=(do pure (.value (if<-asBool (a.eval x)then a.eval y else a.eval z))):=rfl
   rw[e1,h1]
   refine⟨.value (if t then a.eval y else a.eval z),_,c,w,by simp[asBool],.inl rfl,.refl c w,H,?_⟩
   grind [Qat]
  ·cases k1
 ·-- alloc
  rename_i t st z
  split at hok
  ·rename_i zv hz
   obtain⟨ti,hi,hz'⟩:=Qdo hz
   obtain⟨v,h1,k1,k2⟩:=QaS hm
   cases k2
   exact .ofSound (QlK (P:=P) H hi hz' hok k1)
  ·cases hok
 ·-- alloc, its type remembered
  rename_i t t' st z
  simp only[Bool.and_eq_true,beq_iff_eq]at hok
  obtain⟨rfl,hok⟩:=hok
  split at hok
  ·rename_i zv hz
   obtain⟨ti,hi,hz'⟩:=Qdo hz
   obtain⟨v,h1,k1,k2⟩:=QaS hm
   cases k2
   exact .ofSound (Qj6 (P:=P) H hi hz' hok k1)
  ·cases hok
 ·-- box
  obtain⟨v,h1,k1,k2⟩:=QaS hm
  cases k2
  exact .ofSound (QiF (P:=P) H (Qat ht hok) k1)
 ·-- build
  rename_i t parts zero ps
  simp only[Bool.and_eq_true]at hok
  obtain⟨⟨g1,g2⟩,g3⟩:=hok
  obtain⟨v,k1,k2⟩:=QaV hm
  cases k2
  split at g1
  ·rename_i zv hz
   have hb:(∃n e ie,P.underlying t=some (.array n e)/\P.info? e=some ie)\/(∃fields places,P.underlying t=some (.struct fields)/\fields.toList.mapM (fun f=>(P.info? f.type).map fun i=>(f.offset,i.size))=some places):=by
    grind [buildTB,Option.isSome_iff_exists]
   have e1:execOp a.eval {dst,op:= .build t parts,type:=ty,pos,after,guard}=(do pure (.value (<-Instr.build t (parts.map fun(i,x)=>(i,a.eval x))))):=rfl
   have hps:PartsRel c w (placeOf P t) (evParts T ps) (parts.map fun(i,x)=>(i,a.eval x)).toList:=by
    simp_all [Qer]
   have hs:=QlL (P:=P) H hz g1 hb hps k1
   rw[e1]
   exact .ofSound hs
  ·cases g1
 ·-- buildSlice
  rename_i t len parts fz st sz len' zero ps
  simp only[Bool.and_eq_true,beq_iff_eq,decide_eq_true_eq]at hok
  obtain⟨⟨⟨rfl,g2⟩,g3⟩,g4⟩:=hok
  obtain⟨v,h1,k1,k2⟩:=QaS hm
  cases k2
  split at g3
  ·rename_i e hu
   split at g3
   ·rename_i ie hi
    simp only[Bool.and_eq_true,beq_iff_eq]at g3
    obtain⟨g5,g6⟩:=g3
    split at g6
    ·rename_i z hz
     have e1:execOp a.eval {dst,op:= .buildSlice t len parts,type:=ty,pos,after,guard}=(do pure (.value (<-Instr.buildSlice t len (parts.map fun(i,x)=>(i,a.eval x))))):=rfl
     have hps:PartsRel c w (fun i=>some (i*sz,sz)) (evParts T ps) (parts.map fun(i,x)=>(i,a.eval x)).toList:=by
      simp_all [Qer]
     have hs:=Qg2 (P:=P) H hu hi g5 hz g2 g6 hps k1
     rw[e1]
     exact .ofSound hs
    ·cases g6
   ·cases g3
  ·cases g3
 ·-- load
  simp only[Bool.and_eq_true]at hok
  obtain⟨v,h1,k1,k2⟩:=QaS hm
  cases k2
  exact .ofSound (Qm9 (P:=P) H (Qat ht hok.2) hok.1 k1)
 ·-- store
  rename_i t x v n x' v'
  simp only[Bool.and_eq_true]at hok
  obtain⟨⟨g1,g2⟩,g3⟩:=hok
  obtain⟨r,h1,k1,k2⟩:=QaS hm
  cases k2
  split at g1
  ·rename_i ti hi
   have hsz:∀w,(sizeOf t).run P w= .ok n w:=fun w=>by
    simp_all [QaJ]
   have hany:r= .any:=by
    unfold aStore at k1
    grind [Qbg,HM.run]
   exact .ofU (QlJ (P:=P) H (Qat ht g2) (Qat ht g3) hsz k1) hany
  ·cases g1
 ·-- nilCheck
  rename_i x y
  obtain⟨v,k1,k2⟩:=QaV hm
  cases k2
  have hx:=Qat ht hok
  obtain⟨e1,rfl⟩:=QnX hx k1
  grind [execOp]
 ·-- binOp
  rename_i op t x y yt op' x' y'
  simp only[Bool.and_eq_true,beq_iff_eq]at hok
  obtain⟨⟨rfl,g2⟩,g3⟩:=hok
  obtain⟨v,k1,k2⟩:=QaV hm
  cases k2
  have hx:=Qat ht g2
  have hy:=Qat ht g3
  have hp:=QnO (P:=P) (t:=t) hx hy k1
  have hg:(eqGuard op t x y (a.eval x) (a.eval y))=pure ():=by
   unfold aBin at k1
   split at k1
   ·rename_i e1 e2
    rw[e1]at hx
    simp only[VRel]at hx
    rw[hx];cases op<;>rfl
   ·rename_i e1 e2
    rw[e1]at hx
    simp only[VRel]at hx
    rw[hx];cases op<;>rfl
   ·cases k1
  have:execOp a.eval {dst,op:= .binOp op t x y yt,type:=ty,pos,after,guard}=(do pure (.value (<-(do eqGuard op t x y (a.eval x) (a.eval y);binOp op t (a.eval x) (a.eval y))))):=rfl
  rw[this,hg]
  exact .ofPure H hp
 ·-- eq
  rename_i op t x y yt k neg x' y'
  simp only[Bool.and_eq_true,beq_iff_eq]at hok
  obtain⟨⟨⟨⟨g1,g2⟩,g3⟩,g4⟩,g5⟩:=hok
  obtain⟨v,k1,k2⟩:=QaV hm
  cases k2
  refine .ofPure H (Qj0 (P:=P) (ox:=x) (oy:=y) g1 (Qat ht g3) (Qat ht g4) g2 ?_ k1)
  intro kind e
  subst e
  cases y<;>simp[isConstO]at g5
  simp_all
 ·-- a slice and nil
  rename_i op t x y yt neg x'
  simp only[Bool.and_eq_true,beq_iff_eq]at hok
  obtain⟨⟨⟨⟨g1,g2⟩,g3⟩,g5⟩,g4⟩:=hok
  obtain⟨v,h1,k1,k2⟩:=QaS hm
  cases k2
  obtain⟨x2,hx2,hm2⟩:=Qnd H (Qat ht g3) k1
  cases hv:aEq (.nil 2) neg x2 .nilsl with
  |none=>rw[hv]at hm2;simp[HM.opt,HM.run]at hm2
  |some u=>
   rw[hv]at hm2
   simp only[HM.opt,HM.run,Option.some.injEq,Prod.mk.injEq]at hm2
   obtain⟨rfl,rfl⟩:=hm2
   refine .ofPure H (Qj0 (P:=P) (ox:=x) (oy:=y) g1 hx2 (Qat ht g4) g2 ?_ hv)
   intro kind e
   cases e
   cases y<;>simp[isConstO]at g5
   exact⟨_,rfl⟩
 ·-- two pointers
  rename_i op t x y yt neg x' y'
  simp only[Bool.and_eq_true,beq_iff_eq]at hok
  obtain⟨⟨⟨g1,g2⟩,g3⟩,g4⟩:=hok
  obtain⟨v,k1,k2⟩:=QaV hm
  cases k2
  exact .ofPure H (QnU (P:=P) (ox:=x) (oy:=y) g1 (Qat ht g3) (Qat ht g4) g2 k1)
 ·-- unOp
  simp only[Bool.and_eq_true,beq_iff_eq]at hok
  obtain⟨rfl,g2⟩:=hok
  obtain⟨v,k1,k2⟩:=QaV hm
  cases k2
  exact .ofPure H (Qpw (P:=P) (Qat ht g2) k1)
 ·-- conv
  simp only[Bool.and_eq_true]at hok
  obtain⟨v,k1,k2⟩:=QaV hm
  cases k2
  exact .ofPure H (Qna (P:=P) (Qat ht hok.2) hok.1 k1)
 ·simp only [Bool.and_eq_true] at hok
  obtain⟨v,k1,k2⟩:=QaV hm
  cases k2
  exact .ofPure H (QlR (P:=P) (Qat ht hok.2) hok.1 k1)
 ·simp only [Bool.and_eq_true] at hok
  obtain⟨v,h1,k1,k2⟩:=QaS hm
  cases k2
  exact .ofSound (QlS (P:=P) H (Qat ht hok.2) hok.1 k1)
 ·simp only [Bool.and_eq_true] at hok
  obtain⟨v,k1,k2⟩:=QaV hm
  cases k2
  exact .ofPure H (QlT (P:=P) (Qat ht hok.2) hok.1 k1)
 ·-- makeFunc
  rename_i f first captured f' xs ys
  simp only[Bool.and_eq_true,beq_iff_eq]at hok
  obtain⟨⟨rfl,g2⟩,g3⟩:=hok
  simp only[aop,HM.run,Option.some.injEq,Prod.mk.injEq]at hm
  obtain⟨rfl,rfl⟩:=hm
  have:execOp a.eval {dst,op:= .makeFunc (.func f) first captured,type:=ty,pos,after,guard}=pure (.value (.func (.func f) (first.map a.eval) (captured.map a.eval))):=rfl
  rw[this]
  refine keep ?_
  simp only[VRel]
  exact⟨_,_,rfl,by simp_all [Qcc],by simp_all [Qcc]⟩
 ·-- makeMap
  obtain⟨v,h1,k1,k2⟩:=QaS hm
  cases k2
  exact .ofSound (QjR (P:=P) (reserve:=none) (by simp) H k1)
 ·-- makeSlice
  rename_i t l cc st sz bytes zero l' c'
  simp only[Bool.and_eq_true]at hok
  obtain⟨⟨g1,g2⟩,g3⟩:=hok
  obtain⟨v,h1,k1,k2⟩:=QaS hm
  cases k2
  obtain⟨e,ie,z,hu,hi,hsz,hby,hz,hk⟩:=Qdt g3
  simp only[Bool.and_eq_true,beq_iff_eq]at hk
  exact .ofSound (Qhv (P:=P) H (Qat ht g1) (Qat ht g2) hu hi hsz hby hz hk.1 hk.2 k1)
 ·-- slice
  rename_i t x l hi mx sz x' l' h' m'
  simp only[Bool.and_eq_true]at hok
  obtain⟨⟨⟨⟨g1,g2⟩,g3⟩,g4⟩,g5⟩:=hok
  obtain⟨v,k1,k2⟩:=QaV hm
  cases k2
  have hx:=Qat ht g2
  have hl:=Qc2 ht g3
  have hh:=Qc2 ht g4
  have hmx:=Qc2 ht g5
  refine .ofPure H ?_
  unfold aSliceC at k1
  split at k1
  ·grind [QcF]
  ·grind [QcF]
  ·grind [QcF]
  ·grind [QcF]
  ·rename_i s e
   rw[e]at hx k1
   exact QcF (P:=P) hx hl hh hmx g1 (fun _ _ _ _ _ e=>by cases e) (fun _ _ _ e=>by cases e) (fun _=>rfl) (.inl ⟨_,rfl⟩) k1
  ·cases k1
 ·-- slice, with room
  simp only[Bool.and_eq_true]at hok
  obtain⟨⟨⟨g1,g2⟩,g3⟩,g4⟩:=hok
  obtain⟨v,k1,k2⟩:=QaV hm
  cases k2
  exact .ofPure H (Qj1 (P:=P) (Qat ht g2) (Qc2 ht g3) (Qc2 ht g4) g1 k1)
 ·-- fieldAddr
  simp only[Bool.and_eq_true]at hok
  obtain⟨v,k1,k2⟩:=QaV hm
  cases k2
  exact .ofPure H (QlO (P:=P) (Qat ht hok.2) hok.1 k1)
 ·simp only [Bool.and_eq_true] at hok
  obtain⟨v,k1,k2⟩:=QaV hm
  cases k2
  exact .ofPure H (QlN (P:=P) (Qat ht hok.2) hok.1 k1)
 ·simp only [Bool.and_eq_true] at hok
  obtain⟨v,k1,k2⟩:=QaV hm
  cases k2
  exact .ofPure H (QlP (P:=P) (Qat ht hok.1.2) (Qat ht hok.2) hok.1.1 k1)
 ·simp only [Bool.and_eq_true] at hok
  obtain⟨v,k1,k2⟩:=QaV hm
  cases k2
  exact .ofPure H (QlQ (P:=P) (Qat ht hok.1.2) (Qat ht hok.2) hok.1.1 k1)
 ·-- lookup
  rename_i t x k ok row ks zero ok' x' k'
  simp only[Bool.and_eq_true,beq_iff_eq]at hok
  obtain⟨⟨⟨⟨g1,g2⟩,rfl⟩,g4⟩,g5⟩:=hok
  obtain⟨v,h1,k1,k2⟩:=QaS hm
  cases k2
  obtain⟨kt,et,M⟩:=QeO g1
  unfold mapElemZero at g2
  rw[M.hu]at g2
  simp only at g2
  split at g2
  ·rename_i zv hz
   obtain⟨ti,hi,hz'⟩:=Qdo hz
   exact .ofSound (Qj4 (P:=P) H M (Qat ht g4) (Qat ht g5) hi hz' g2 k1)
  ·cases g2
 ·-- mapEntry
  rename_i t m k row ks zero m' k'
  simp only[Bool.and_eq_true]at hok
  obtain⟨⟨⟨g1,g2⟩,g4⟩,g5⟩:=hok
  obtain⟨v,h1,k1,k2⟩:=QaS hm
  cases k2
  obtain⟨kt,et,M⟩:=QeO g1
  unfold mapElemZero at g2
  rw[M.hu]at g2
  simp only at g2
  split at g2
  ·rename_i zv hz
   obtain⟨ti,hi,hz'⟩:=Qdo hz
   exact .ofSound (Qj7 (P:=P) H M (Qat ht g4) (Qat ht g5) hi hz' g2 k1)
  ·cases g2
 ·simp only [Bool.and_eq_true] at hok
  obtain⟨⟨g2,g3⟩,g4⟩:=hok
  obtain⟨r,h1,k1,k2⟩:=QaS hm
  cases k2
  exact .ofU (QlU (P:=P) H (Qat ht g2) (Qat ht g3) (Qat ht g4) k1) (QnW k1)
 ·-- mapUpdate
  simp only[Bool.and_eq_true]at hok
  obtain⟨⟨⟨g1,g2⟩,g3⟩,g4⟩:=hok
  obtain⟨r,h1,k1,k2⟩:=QaS hm
  cases k2
  obtain⟨kt,et,M⟩:=QeO g1
  exact .ofU (Qfs (P:=P) H M (Qat ht g2) (Qat ht g3) (Qat ht g4) k1) (Qj9 k1)
 ·simp only [Bool.and_eq_true] at hok
  obtain⟨⟨⟨g1,g2⟩,g3⟩,g4⟩:=hok
  obtain⟨r,h1,k1,k2⟩:=QaS hm
  cases k2
  obtain⟨kt,et,M⟩:=QeO g1
  exact .ofU (Qfs (P:=P) H M (Qat ht g2) (Qat ht g3) (Qat ht g4) k1) (Qj9 k1)
 ·-- extract
  simp only[Bool.and_eq_true,beq_iff_eq]at hok
  obtain⟨rfl,g2⟩:=hok
  obtain⟨v,k1,k2⟩:=QaV hm
  cases k2
  exact .ofPure H (QjP (P:=P) (Qat ht g2) k1)
 ·simp_all [aop,HM.run]
 ·-- call
  exact Qnh (P:=P) (ty:=ty) H ht hok hm
 ·cases hok
end Go.AM
namespace Go.AM
def Opd.slots:Opd->List Nat
 | .t i=>[i]
 |_=>[]
def slotsOf (xs:List Opd):List Nat:=xs.flatMap Opd.slots
def SOp.opds:SOp->List Opd
 | .mov x| .box _ x| .load _ x| .nilchk x| .un _ x| .conv _ x| .convS x| .convB x| .eqn _ x| .cap x| .clear _ _ _ x| .convP _ _ x| .usd x| .faddr _ x| .field _ _ x| .extract _ x| .len _ x=>[x]
 | .pick c a b=>[c,a,b]
 | .alloc _ _| .allocT .. | .mkmap _| .bad=>[]
 | .build _ ps| .bslice _ _ _ _ _ ps=>ps.map fun p=>p.2.2
 | .store _ x v| .ment _ _ _ x v| .appendZ _ _ _ _ x v| .bin _ x v| .eq _ _ x v| .eqp _ x v| .appendT _ _ _ _ x v| .ustr _ x v| .iaddr _ _ x v| .index _ x v| .append _ _ _ x v| .copy _ x v| .lookup _ _ _ _ x v| .mkslice _ _ _ _ x v=>[x,v]
 | .mkfn _ xs ys=>xs++ys
 | .slice _ x l h m=>[x]++l.toList++h.toList++m.toList
 | .sliceK _ x l h=>[x]++l.toList++h.toList
 | .mupd _ _ x k v| .estore x k v=>[x,k,v]
 | .maxmin _ xs=>xs
 | .ext _ _ xs=>xs
 | .call _ x args=>x::args
def SOper.reads (s:SOper):List Nat:=slotsOf s.op.opds++(match s.guard with|some (g,_)=>[g]|none=>[])
def optIn (d:Option Nat) (xs:List Nat):Bool:=
 match d with
 |some d=>xs.contains d
 |none=>false
def SOper.apart (a b:SOper):Bool:= !optIn a.dst b.reads&& !optIn b.dst a.reads&& !(match a.dst,b.dst with|some x,some y=>x==y|_,_=>false)
def okGuard (N:Nat) (ops:Array Oper):Option (Nat×Bool)->Option (Nat×Bool)->Bool
 |none,none=>true
 |some (j,want),some (slot,want')=>want==want'&&((ops[j]?).bind (·.dst))==some slot&&decide (slot<N)
 |_,_=>false
def okAfter (es:List Edge) (l:List Nat):Bool:=((es.filter fun e=>Region.binds .any e).map (·.on))==l
def okOper (P:Program) (N:Nat) (ops:Array Oper) (o:Oper) (s:SOper):Bool:=
 o.dst==s.dst&&(match s.dst with|some d=>decide (d<N)|none=>true)&&okOp P o.op s.op&&okGuard N ops o.guard s.guard&&okAfter o.after.toList s.after
def SOp.cls:SOp->Nat
 | .mov _| .pick .. | .build .. | .nilchk _| .bin .. | .eq .. | .un .. | .conv .. | .convS _| .mkfn .. | .slice .. | .sliceK .. | .faddr .. | .field .. | .iaddr .. | .index .. | .extract .. | .maxmin .. | .ext .. | .cap _| .eqp .. | .convP .. | .usd _| .bad=>0
 | .load .. | .len .. | .lookup .. | .convB _| .eqn .. =>1
 | .call m _ _=>(match m with| .heap=>2|_=>1)
 | .alloc .. | .allocT .. | .ment .. | .estore .. | .appendZ .. | .clear .. | .appendT .. | .ustr .. | .box .. | .bslice .. | .store .. | .mkmap .. | .mkslice .. | .mupd .. | .append .. | .copy .. =>2
def maskOf (acc:List Nat) (s:SOper):Nat:=s.after.foldl (fun m e=>m|||2^e|||acc.getD e 0) 0
def masksFrom (acc:List Nat):List SOper->List Nat
 |[]=>acc
 |s::r=>masksFrom (acc++[maskOf acc s]) r
def SOp.still:SOp->Bool
 | .call .heap _ _=>false
 |_=>true
def SOp.fresh:SOp->Bool
 | .alloc .dyn _=>true
 | .box .dyn _=>true
 | .bslice false .dyn _ _ _ _=>true
 | .mkslice .dyn _ _ _ _ _=>true
 | .mkmap .dyn=>true
 |_=>false
def SOp.sees:SOp->Bool
 | .load _ _=>true
 | .len _ _=>true
 |_=>false
def pairOK (sops:List SOper) (pairs:List (Nat×Nat)) (k j:Nat):Bool:=
 match sops[k]?,sops[j]? with
 |some s,some t=>s.apart t&&(Nat.beq s.op.cls 0||Nat.beq t.op.cls 0||(Nat.ble s.op.cls 1&&Nat.ble t.op.cls 1)||pairs.contains (k,j)||((s.op.sees||s.op.fresh)&&t.op.fresh&&sops.all fun s=>s.op.still))
 |_,_=>false
def freeB (sops:List SOper) (pairs:List (Nat×Nat)):Bool:=
 let ms:=masksFrom [] sops
 (List.range sops.length).all fun j =>
  (match sops[j]? with|some s=>s.after.all fun k=>Nat.blt k j|none=>false)&&
  (List.range j).all fun k=>(ms.getD j 0).testBit k||pairOK sops pairs k j
def okOpers (P:Program) (N:Nat) (ops:Array Oper):List Oper->List SOper->Bool
 |[],[]=>true
 |o::os,s::ss=>okOper P N ops o s&&okOpers P N ops os ss
 |_,_=>false
def okRegion (P:Program) (N:Nat) (ops:Array Oper) (draw:Bool) (sops:List SOper) (pairs:List (Nat×Nat)):Bool:=
 okOpers P N ops ops.toList sops&&(!draw||(P.follows .mixedOrders&&freeB sops pairs))
structure MLParts where
 ops6:Array Oper
 b:Nat
 ops7:Array Oper
 c:Nat
 b':Nat
 b3:Nat
 ops8:Array Oper
 body:Code
def mlParts:Code->Option MLParts
 | .seq (.region _ ops6 false) (.block b (.loop (.seq (.region _ ops7 false) (.seq (.cond (.tmp c) .skip (.exit b')) (.block b3 (.seq (.region _ ops8 false) body))))))=>some ⟨ops6,b,ops7,c,b',b3,ops8,body⟩
 |_=>none
def isMapT (P:Program) (t:TypeId):Bool:=match P.underlying t with|some (.map _ _)=>true|_=>false
def okRange (P:Program) (N:Nat) (ops:Array Oper) (pre:List SOper) (x:Opd) (it:Nat):Bool:=
 match ops[pre.length]? with
 |some o=>o.dst==some it&&decide (it<N)&&o.guard.isNone&&(match o.op with| .range t y=>isMapT P t&&okOpd y x|_=>false)&&ops.size==pre.length+1&&okOpers P N ops (ops.toList.take pre.length) pre
 |none=>false
def okNext (N:Nat) (ops:Array Oper) (it nx ok:Nat):Bool:=
 match ops.toList with
 |[a,b]=>a.dst==some nx&&decide (nx<N)&&a.guard.isNone&&(match a.op with| .next (.tmp i) false=>i==it|_=>false)&&
  b.dst==some ok&&decide (ok<N)&&b.guard.isNone&&(match b.op with| .extract (.tmp j) 0=>j==nx|_=>false)&& !(nx==it)&& !(ok==it)
 |_=>false
def okEntry (P:Program) (N:Nat) (ops:Array Oper) (rest:List SOper) (it en:Nat):Bool:=
 match ops.toList with
 |a::l=>a.dst==some en&&decide (en<N)&&a.guard.isNone&&(match a.op with| .entry (.tmp i)=>i==it|_=>false)&&okOpers P N ops l rest
 |_=>false
def SCode.rf:SCode->Bool
 | .seq a b=>a.rf||b.rf
 | .cond _ a b=>a.rf||b.rf
 | .block _ b=>b.rf
 | .loop b=>b.rf
 | .mloop .. =>true
 | .rfunc .. =>true
 |_=>false
def okCode (P:Program) (N:Nat):Code->SCode->Bool
 | .skip,.skip=>true
 | .region _ ops draw,.region sops pairs _=>okRegion P N ops draw sops pairs
 | .seq a b,.seq a' b'=>okCode P N a a'&&okCode P N b b'
 | .cond c a b,.cond x a' b'=>okOpd c x&&okCode P N a a'&&okCode P N b b'
 | .block i b,.block i' b'=>i==i'&&okCode P N b b'
 | .loop b,.loop b'=>okCode P N b b'
 | .exit i,.exit i'=>i==i'
 | .ret,.ret=>true
 |c,.mloop pre x it nx ok en b1 b2 rest body=>(match mlParts c with
  |some p=>okRange P N p.ops6 pre x it&&p.b==b1&&okNext N p.ops7 it nx ok&&p.c==ok&&p.b'==b1&&p.b3==b2&&okEntry P N p.ops8 rest it en&&okCode P N p.body body
  |none=>false)
 | .rangeFunc g ps a b,.rfunc g' ps' N' a' b'=>okOpd g g'&&ps.toList==ps'&&N'==N&&ps'.all (fun p=>Nat.blt p N)&& !a'.rf&& !b'.rf&&okCode P N a a'&&okCode P N b b'
 |_,.bad=>true
 |_,_=>false
termination_by structural _ sc=>sc
def okc (P:Program):Okc:=fun N code sc=>okCode P N code sc=true/\sc.rf=false
end Go.AM
