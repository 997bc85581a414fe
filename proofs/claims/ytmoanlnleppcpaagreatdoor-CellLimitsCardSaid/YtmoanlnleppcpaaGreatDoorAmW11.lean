/- A part of the proof of CellLimitsCardSaid: lemmas on the way (AmTq, AmBl, AmBo, AmCa, AmCb, AmBFb, AmBw, AmBFd, AmBy, AmBFe, AmCc, AmCza, AmCf, AmCg, AmCm, AmCp, AmCt, AmCu, AmCw, AmCyc, AmCyd, AmCyb, AmCye, AmCyf, AmCyh, AmCyg, AmCyi, AmCyj, AmGb, AmGc, AmGd, AmGk, AmGl, AmCq, AmGe, AmGf, AmGn, AmGp, AmGq, AmGo, AmTo, AmTm, AmCzc, AmCzg, AmOk, AmTv, AmOl, AmOm, AmRz, AmRa, AmRb, AmRc, AmRe, AmRf, AmRg). Conditions: none of ours. -/
import Derived.Shelf.SlSortCmp.NoneTotal
import Derived.KernelRfl
import Derived.Test.YtmoanlnleppcpaaGreatDoorProg
import Derived.Test.YtmoanlnleppcpaaGreatDoorAmW10
set_option linter.unusedSectionVars false
set_option maxHeartbeats 32000000
set_option maxRecDepth 100000
set_option linter.unusedVariables false
set_option linter.unusedSimpArgs false
set_option linter.unusedSectionVars false
namespace Go.AM
open Go.Proofs Go.Shelf Go.Sort
variable {P:Program} {ρ:Ren} {α:Type} [Inhabited α]
abbrev encI (ci:α->List Int) (x:α):List Value:=(ci x).map (Value.int .i64)
abbrev avI (ci:α->List Int) (x:α):List AV:=(ci x).map (AV.int .i64)
theorem Qiy {ok:Okc} {c:Ctx ok} {w:World}:∀{ns:List Int} {vs:List Value},VPre c w (ns.map (AV.int .i64)) vs->∃r,vs=ns.map (Value.int .i64)++r
 |[],vs,_=>⟨vs,rfl⟩
 |n::ns,vs,h=>by
  simp only[List.map_cons,VPre]at h
  obtain⟨v,vs',rfl,hv,hr⟩:=h
  obtain⟨r,rfl⟩:=Qiy hr
  simp only[VRel]at hv
  simp_all
theorem Qgb {ok:Okc} {c:Ctx ok} {w:World}:∀{ns:List Int} {r:List Value},VPre c w (ns.map (AV.int .i64)) (ns.map (Value.int .i64)++r)
 |[],r=>by simp[VPre]
 |n::ns,r=>by
  simp only[List.map_cons,VPre,List.cons_append]
  exact⟨_,_,rfl,by simp[VRel],Qgb⟩
theorem Qlt (ci:α->List Int) (l:List α):l.flatMap (avI ci)=(l.flatMap ci).map (AV.int .i64):=by rw[List.map_flatMap]
theorem QjY (ci:α->List Int) (l:List α):l.flatMap (encI ci)=(l.flatMap ci).map (Value.int .i64):=by rw[List.map_flatMap]
theorem Qgc {β γ:Type} {f:β->List γ} {k:Nat} (hk:∀x,(f x).length=k) (h0:0<k):∀{l:List β} {t:Nat},(l.flatMap f)[t]?=(l[t/k]?).bind fun x=>(f x)[t % k]?
  |[],t=>by simp
  | x :: l, t => by
    rw[List.flatMap_cons]
    by_cases h:t<k
    · simp_all [List.getElem?_append_left,Nat.div_eq_of_lt,Nat.mod_eq_of_lt]
    · rw [List.getElem?_append_right (by rw [hk]; omega), hk, Qgc hk h0 (l := l)]
      simp_all [Nat.div_eq_sub_div,Nat.mod_eq_sub_mod]
theorem Qhf {enc:α->List Value} {k:Nat} (hk:∀x,(enc x).length=k) (h0:0<k) (l:List α):Go.Sort.flatK enc k l.toArray=(l.flatMap enc).toArray:=by
 refine ext_get! ?_ fun t ht=>?_
 ·simp_all [List.map_const']
 ·have ht' : t < l.length * k := by simpa using ht
  have hd:t/k<l.length:=by simp_all [Nat.div_lt_iff_lt_mul]
  grind [get_flatK,Qgc]
theorem QiW {F:List Value} {C:Array Value} {o:Nat} (h:o+F.length<=C.size):(putCells id o F.toArray C).toList.drop o=F++C.toList.drop (o+F.length):=by
 apply List.ext_getElem?
 grind [putCells]
theorem HSpec.sortK {f g b γ : Nat} (L : SlLaysF0.n6 P ρ) (hf : ρ.f 6 = f) (hcall : Callable P f) (k : Nat) (h0 : 0 < k) (aE : ∀ w, (isAgg (ρ.t 24)).run P w = .ok true w) (zE : ∀ w, (Go.sizeOf (ρ.t 24)).run P w = .ok k w)
    (ci:α->List Int) (hk:∀x,(ci x).length=k) (cf:α->α->Int) (hO:SWO (ltOf cf)) (eg:∀args w,(callFunc g args).run P w= .ok (.enter g args) w)
    (hcmp:∀x y w,Calls P g #[.agg (encI ci x).toArray,.agg (encI ci y).toArray] w fun e w'=>e= .returned (.int .i64 (cf x y))/\∃q os',w'=grow (w.drewN q) os')
    (l:List α) (hl:l.length<4611686018427387904) {h:Heap} (hb:h.get b=some (.cells γ (l.flatMap (avI ci)))) (hlim:b<1099511627775):
    ∃l':List α,l'.Perm l/\l'.Pairwise (fun x y=>ltOf cf y x=false)/\HSpec P f [.sl b γ 0 l.length k,.fn g [] []] h (.tup []) (h.set b (.cells γ (l'.flatMap (avI ci)))):=by
  obtain⟨d',hd'⟩:∃d',d'=pdq (ltOf cf) l.toArray 0 l.length (Lib.bitLen l.length) true true:=⟨_,rfl⟩
  have hs:=pdq_sorts (ltOf cf) hO l.toArray 0 l.length (Lib.bitLen l.length) true true (Nat.zero_le _) (by simp) (Or.inl rfl)
  rw[<-hd']at hs
  obtain⟨⟨hsz,_,hperm⟩,hsort⟩:=hs
  have hsz':d'.size=l.length:=by simpa using hsz
  have hext:(d'.extract 0 l.length).toList=d'.toList:=by rw[<-hsz'];simp
  have hext2:(l.toArray.extract 0 l.length).toList=l:=by simp
  rw[hext,hext2]at hperm
  have henc:∀x,(encI ci x).length=k:=fun x=>by simp[hk]
  have hone:∀x,∀v∈encI ci x,v.oneCell'=true:=fun x v hv=>by
    obtain⟨n,_,rfl⟩:=List.mem_map.1 hv;rfl
  refine⟨d'.toList,hperm,?_,hcall,?_⟩
  · rw [List.pairwise_iff_getElem]
    intro i j hi hj hij
    have:=hsort i j (Nat.zero_le _) hij (by simp_all)
    grind
  intro c w cargs H ha
  have hget:∀x j,(h.set b x).get j=if j=b then some x else h.get j:=fun x j=>Tr.QaS h (by simp_all [lim]) j x
  obtain⟨v1,v2,hca,hv1,hv2⟩:∃v1 v2,cargs.toList=[v1,v2]/\VRel c w (.sl b γ 0 l.length k) v1/\v2= .func (.func g) #[] #[]:=by
    simp_all [VRels,VRel]
  have hca':cargs= #[v1,v2]:=Array.toList_inj.1 (by rw[hca])
  subst hca' hv2
  have none:l=[]->∀p cap,v1= .slice p 0 cap->Calls P f #[v1,.func (.func g) #[] #[]] w fun e w'=>∃cv c',e= .returned cv/\Evo c w c' w'/\HRel c' (h.set b (.cells γ (d'.toList.flatMap (avI ci)))) w'/\VRel c' w' (.tup []) cv:=by
    rintro e p cap rfl
    have hn:=AnyF.slices_SortFunc_none {L with} p cap (.func (.func g) #[] #[]) w
    rw[hf]at hn
    refine hn.mono ?_
    rintro e1 w' ⟨rfl,rfl⟩
    refine⟨_,c,rfl,Evo.refl c _,QbW (fun j=>?_) H,by simp[VRel,VRels]⟩
    simp_all
  simp only[VRel]at hv1
  rcases hv1 with⟨_,h1,_,rfl⟩|⟨cb,base,o,cap,C,e,fr,hp,rfl,hlc,hC,hcap⟩
  · simp_all
  by_cases hl0:l.length=0
  · simp_all
  obtain⟨ho,hbd⟩:=hcap.resolve_left (by omega)
  have ho':base=o:=ho.symm
  subst ho'
  obtain⟨C',e',fr',hcO,hC',hfr,hbs,hpre⟩:=H.here hb hp
  rw[hC]at hC';cases hC'
  have hlen:(l.flatMap ci).length=l.length*k:=by simp[List.length_flatMap,hk,List.map_const',List.sum_replicate_nat]
  have hlen':(d'.toList.flatMap ci).length=l.length*k:=by grind
  have hlk:l.length*k<=cap*k:=Nat.mul_le_mul_right k hlc
  rw[Qlt]at hpre
  obtain⟨r,hr⟩:=Qiy hpre
  have hfl:Go.Sort.flatK (encI ci) k l.toArray=((l.flatMap ci).map (Value.int .i64)).toArray:=by rw[Qhf henc h0,QjY]
  have hfl':Go.Sort.flatK (encI ci) k d'=((d'.toList.flatMap ci).map (Value.int .i64)).toArray:=by
    have:=Qhf henc h0 d'.toList
    rw[QjY]at this
    exact this
  have hblk:=Qa0 hC
  have hH:HoldsK (encI ci) k w cb base l.toArray:=by
    unfold HoldsK
    rw[hfl]
    intro j hj
    have hj':j<l.length*k:=by grind
    have hjC:base+j<C.size:=by omega
    refine⟨?_,?_⟩
    · simp only [World.cell?, hC]
      have h2:C.toList[base+j]?=some (((l.flatMap ci).map (Value.int .i64))[j]'(by omega)):=by
        rw[<-List.getElem?_drop,hr,List.getElem?_append_left (by omega),List.getElem?_eq_getElem]
      grind
    · simp only [World.frozen?, hC]
      have:=hfr (base+j) hjC
      grind
  have hcon:=AnyQ.slices_SortFunc_eq L k aE zE (encI ci) henc hone cf hO g #[] cb base cap l.toArray w eg (fun m os dk _ x y=>hcmp x y _) hH hblk (by simpa using hl)
  rw[hf]at hcon
  have e0:(base+0:Nat)=base:=rfl
  have esz:(l.toArray).size=l.length:=by simp
  rw[esz,<-hd']at hcon
  refine hcon.mono ?_
  rintro e1 w' ⟨rfl,n,os,rfl⟩
  have hheap:∀j,j<w.heap.size->(sortWorldK (encI ci) k w cb base n d' os).heap[j]?=if j=cb then some (.cells (putCells id base ((d'.toList.flatMap ci).map (Value.int .i64)).toArray C) e fr)else w.heap[j]?:=fun j hj=>by
    unfold sortWorldK putRowK
    rw[heap_grow_old _ _ (by grind [putRow,mapBlock,Sort.ahead]),hfl']
    show(w.heap.modify cb _)[j]?=_
    rw[Array.getElem?_modify]
    by_cases e2:cb=j
    · subst e2;rw[if_pos rfl,if_pos rfl,hC];rfl
    grind
  have hszw:w.heap.size<=(sortWorldK (encI ci) k w cb base n d' os).heap.size:=by
    grind
  have hcb:=hheap cb hblk
  rw[if_pos rfl]at hcb
  obtain⟨E,H2⟩:=H.put (w':=sortWorldK (encI ci) k w cb base n d' os) (b:=b) (cb:=cb) (base:=base) (x:= .cells γ (d'.toList.flatMap (avI ci))) (by grind [lim]) (fun y hy=>H.later b _ hb y hy) (.inr hp) (.inr ⟨γ,base,⟨_,hb,rfl,fun k=>by simp⟩,hp⟩) rfl rfl rfl hszw (by omega)
    (fun j hj hne=>by grind) (fun C2 e2 fr2 h2=>by
      grind [putCells]) (fun E=> .inr ⟨cb,base,_,_,_,by show(if b=b/\γ=γ then _ else _)=_;grind,.inr rfl,hcb,by grind [putCells],by grind [putCells],by
        grind [QiW,Qlt,Qgb]⟩)
  exact⟨_,_,rfl,E,H2,by simp[VRel,VRels]⟩
end Go.AM
namespace Go.AM.SE
open Go.Proofs Go.AM.SD
def mach:Aut:=⟨[0,1,2,3],3,[0],[(0,0,1),(1,1,0),(1,2,2),(2,3,0)]⟩
def mach3:Aut:=⟨[0,1,2,3],3,[0],[(0,0,1),(1,1,0),(1,2,2)]⟩
theorem q1:QOk mach [2] [1,2]:=⟨by decide,by decide,by decide,by decide⟩
theorem q2:QOk mach3 [] [1,2]:=⟨by decide,by decide,by decide,by decide⟩
end Go.AM.SE
namespace Go.AM.SE
open Go.Proofs Go.AM.SD
def u8s (l:List Nat):List AV:=l.map fun x:Nat=> .int .u8 (x:Int)
theorem QaZ (l:List Nat):noRefs (u8s l)=true:=Qc4 (fun _=>rfl) l
end Go.AM.SE
namespace Go.AM.SO
open Go.Proofs Go.AM.SD Go.AM.SE
def mrg (k:Bool->Bool->Bool):List Nat->List Nat->List Nat
 |[],[]=>[]
 |a::A,[]=>(if k true false=true then[a]else[])++mrg k A []
 |[],b::B=>(if k false true=true then[b]else[])++mrg k [] B
 |a::A,b::B=>if a<b then(if k true false=true then[a]else[])++mrg k A (b::B)
  else if b<a then(if k false true=true then[b]else[])++mrg k (a::A) B
  else(if k true true=true then[a]else[])++mrg k A B
termination_by A B=>A.length+B.length
theorem QbG {k : Bool -> Bool -> Bool} {x : Nat} : ∀ {A B : List Nat}, A.Pairwise (· < ·) -> B.Pairwise (· < ·) -> (x ∈ mrg k A B ↔ k (decide (x ∈ A)) (decide (x ∈ B)) = true /\ (x ∈ A \/ x ∈ B))
  |[],[],_,_=>by simp[mrg]
  | a :: A, [], hA, hB => by
    have ih:=QbG (k:=k) (x:=x) (List.pairwise_cons.1 hA).2 hB
    grind [mrg]
  | [], b :: B, hA, hB => by
    have ih:=QbG (k:=k) (x:=x) hA (List.pairwise_cons.1 hB).2
    grind [mrg]
  | a :: A, b :: B, hA, hB => by
    have hA1:=(List.pairwise_cons.1 hA).1
    have hB1:=(List.pairwise_cons.1 hB).1
    rw[mrg]
    by_cases h1:a<b
    · have ih := QbG (k := k) (x := x) (List.pairwise_cons.1 hA).2 hB
      grind
    · rw [if_neg h1]
      by_cases h2:b<a
      · have ih := QbG (k := k) (x := x) hA (List.pairwise_cons.1 hB).2
        grind
      · have e1 : a = b := by omega
        subst e1
        have ih:=QbG (k:=k) (x:=x) (List.pairwise_cons.1 hA).2 (List.pairwise_cons.1 hB).2
        grind
termination_by A B=>A.length+B.length
theorem QbX {k:Bool->Bool->Bool}:∀{A B:List Nat},A.Pairwise (· < ·)->B.Pairwise (· < ·)->(mrg k A B).Pairwise (· < ·)
 |[],[],_,_=>by simp[mrg]
 |a::A,[],hA,hB=>by
  have ih:=QbX (k:=k) (List.pairwise_cons.1 hA).2 hB
  grind [List.pairwise_cons,mrg,QbG]
 |[],b::B,hA,hB=>by
  have ih:=QbX (k:=k) hA (List.pairwise_cons.1 hB).2
  grind [List.pairwise_cons,mrg,QbG]
 | a :: A, b :: B, hA, hB => by
  have hA1:=(List.pairwise_cons.1 hA).1
  have hB1:=(List.pairwise_cons.1 hB).1
  rw[mrg]
  split
  ·rename_i h1
   rw[List.pairwise_append]
   refine⟨by split<;>simp,QbX (List.pairwise_cons.1 hA).2 hB,fun x hx y hy=>?_⟩
   have hx:x=a:=by simp_all
   have:=(QbG (List.pairwise_cons.1 hA).2 hB).1 hy
   grind
  ·rename_i h1
   split
   ·rename_i h2
    rw[List.pairwise_append]
    refine⟨by split<;>simp,QbX hA (List.pairwise_cons.1 hB).2,fun x hx y hy=>?_⟩
    have hx:x=b:=by simp_all
    have:=(QbG hA (List.pairwise_cons.1 hB).2).1 hy
    grind
   ·rename_i h2
    have e1:a=b:=by omega
    subst e1
    rw[List.pairwise_append]
    refine⟨by split<;>simp,QbX (List.pairwise_cons.1 hA).2 (List.pairwise_cons.1 hB).2,fun x hx y hy=>?_⟩
    grind [QbG]
termination_by A B=>A.length+B.length
end Go.AM.SO
namespace Go.AM.SO
open Go.Proofs Go.AM.SD Go.AM.SE
theorem iaddr0 {a:Nat} {A:List Nat}:aIAddr none 1 (sliN (a::A)) (.int .i64 0)=some (.fptr (ints (nz (a::A)))):=by
 simp[aIAddr]
theorem head0 {a:Nat} {A:List Nat}:(ints (nz (a::A))).head?=some (.int .i64 (a:Int)):=rfl
theorem tk1 {b:Nat} {B1:List Nat}:List.take (B1.length+1-1) (List.drop 1 (ints (nz (b::B1))))=ints (nz B1):=by
 simp only[ints,nz,List.map_cons,List.drop_succ_cons,List.drop_zero]
 exact List.take_of_length_le (by simp)
theorem tk2 {b:Nat} {B1:List Nat}:List.take B1.length (List.drop 1 (ints (nz (b::B1))))=ints (nz B1):=by
 simp only[ints,nz,List.map_cons,List.drop_succ_cons,List.drop_zero]
 exact List.take_of_length_le (by simp)
theorem union169 (a b:Bool):PSpec Tryz.prog 169 [.bool a,.bool b] (.bool (a||b)):=by
  refine PSpec.Qau 64 ok169 rfl rfl rfl ?_
  cases a
  · simp (disch := first | omega | (simp only [lenW] <;> omega)) only [s169, wV, simprocAttr]
    exact⟨.inr trivial,_,rfl,by simp[resOf,QaD]⟩
  · simp (disch := first | omega | (simp only [lenW] <;> omega)) only [s169, wV, simprocAttr]
    exact⟨.inr trivial,_,rfl,by simp[resOf,QaD]⟩
theorem minus242 (a b:Bool):PSpec Tryz.prog 242 [.bool a,.bool b] (.bool (a&& !b)):=by
  refine PSpec.Qau 64 ok242 rfl rfl rfl ?_
  cases a
  · simp (disch := first | omega | (simp only [lenW] <;> omega)) only [s242, wV, simprocAttr]
    exact⟨.inr trivial,_,rfl,by simp[resOf,QaD]⟩
  · simp (disch := first | omega | (simp only [lenW] <;> omega)) only [s242, wV, simprocAttr]
    exact⟨.inr trivial,_,rfl,by simp[resOf,QaD]⟩
theorem merge168 (K : Nat) (k : Bool -> Bool -> Bool) (hk : ∀ a b, PSpec Tryz.prog K [.bool a, .bool b] (.bool (k a b))) (A B : List Nat) (hA : A.length <= 1000000) (hB : B.length <= 1000000) :
    PSpec Tryz.prog 168 [sliN A,sliN B,.fn K [] []] (sliN (mrg k A B)):=by
  refine PSpec.of_rn 64 ok168 rfl (by(try simp only[noRefs,Qac,Qat,Qaf,QaA,Qas,noRef,Bool.and_self,Bool.and_true])<;>rfl) (Qab _) ?_
  simp(disch:=first|omega|(simp only[lenW]<;>omega)) only[s168,wV,simprocAttr]
  refine Qba 120 (fun t:List Nat×List Nat×List Nat=>[(0,sliN t.1),(1,sliN t.2.1),(2,.fn K [] []),(7,.sl 50 0 0 t.2.2.length 1)]) (fun t=>[(50,.cells 0 (ints (nz t.2.2)))]) (fun t=>mrg k A B=t.2.2++mrg k t.1 t.2.1/\t.1.length+t.2.1.length+t.2.2.length<=2000000) (fun t=>t.1.length+t.2.1.length) (A,B,[]) ⟨[(50,.nil)],rfl,au0,au1,au2⟩ ⟨by simp,by simp;omega⟩ ?_
  rintro⟨A',B',out⟩ ⟨hm,hl⟩
  dsimp only at hm hl
  rcases A' with _|⟨a,A1⟩<;>rcases B' with _|⟨b,B1⟩
  · simp (disch := first | omega | (simp only [lenW] <;> omega)) only [List.length_nil, List.map_nil, wV, simprocAttr]
    refine⟨.inr trivial,_,rfl,?_⟩
    rw[hm,mrg,List.append_nil]
    exact Rn.fz0 rfl (by simp[ints]) (RnL.same (Qac _))
  · have h1 : (0 : Int) < (B1.length : Int) + 1 := by omega
    have h2:¬(B1.length:Int)+1=0:=by omega
    simp only[List.length_nil,List.length_cons]at hl
    simp(disch:=first|omega|(simp only[lenW]<;>omega)) only[List.length_nil,List.length_cons,h1,h2,iaddr0,tk1,tk2,head0,Nat.add_sub_cancel,wV,simprocAttr]
    refine cp (hk false true) ?_
    rw[mrg]at hm
    cases hkb:k false true
    · simp (disch := first | omega | (simp only [lenW] <;> omega)) only [wV, simprocAttr]
      rw[if_neg (by simp[hkb]),List.nil_append]at hm
      exact⟨(([]:List Nat),(B1:List Nat),out),by simp<;>omega,⟨hm,by simp;omega⟩,⟨[(50,.blk 50 0)],rfl,au0,au1,au2⟩⟩
    · simp (disch := first | omega | (simp only [lenW] <;> omega)) only [wV, simprocAttr]
      rw[if_pos hkb,<-List.append_assoc]at hm
      refine⟨(([]:List Nat),(B1:List Nat),out++[b]),by simp<;>omega,⟨hm,by simp;omega⟩,?_⟩
      rw[Qbn,Qa3,List.length_append]
      exact⟨[(50,.blk 50 1)],rfl,au0,au1,au2⟩
  · have h1 : (0 : Int) < (A1.length : Int) + 1 := by omega
    have h2:¬(A1.length:Int)+1=0:=by omega
    simp only[List.length_nil,List.length_cons]at hl
    simp(disch:=first|omega|(simp only[lenW]<;>omega)) only[List.length_nil,List.length_cons,h1,h2,iaddr0,tk1,tk2,head0,Nat.add_sub_cancel,wV,simprocAttr]
    refine cp (hk true false) ?_
    rw[mrg]at hm
    cases hkb:k true false
    · simp (disch := first | omega | (simp only [lenW] <;> omega)) only [wV, simprocAttr]
      rw[if_neg (by simp[hkb]),List.nil_append]at hm
      exact⟨((A1:List Nat),([]:List Nat),out),by simp<;>omega,⟨hm,by simp;omega⟩,⟨[(50,.blk 50 0)],rfl,au0,au1,au2⟩⟩
    · simp (disch := first | omega | (simp only [lenW] <;> omega)) only [wV, simprocAttr]
      rw[if_pos hkb,<-List.append_assoc]at hm
      refine⟨((A1:List Nat),([]:List Nat),out++[a]),by simp<;>omega,⟨hm,by simp;omega⟩,?_⟩
      rw[Qbn,Qa3,List.length_append]
      exact⟨[(50,.blk 50 1)],rfl,au0,au1,au2⟩
  · have h1 : (0 : Int) < (A1.length : Int) + 1 := by omega
    have h2:¬(A1.length:Int)+1=0:=by omega
    have h3:(0:Int)<(B1.length:Int)+1:=by omega
    have h4:¬(B1.length:Int)+1=0:=by omega
    by_cases hab:a<b
    · have h5 : (a : Int) <= (b : Int) := by omega
      have h6:¬(b:Int)<=(a:Int):=by omega
      simp only[List.length_nil,List.length_cons]at hl
      simp(disch:=first|omega|(simp only[lenW]<;>omega)) only[List.length_nil,List.length_cons,h1,h2,h3,h4,h5,h6,iaddr0,tk1,tk2,head0,Nat.add_sub_cancel,wV,simprocAttr]
      refine cp (hk true false) ?_
      rw[mrg,if_pos hab]at hm
      cases hkb:k true false
      · simp (disch := first | omega | (simp only [lenW] <;> omega)) only [wV, simprocAttr]
        rw[if_neg (by simp[hkb]),List.nil_append]at hm
        exact⟨((A1:List Nat),(b::B1:List Nat),out),by simp<;>omega,⟨hm,by simp;omega⟩,⟨[(50,.blk 50 0)],rfl,au0,au1,au2⟩⟩
      · simp (disch := first | omega | (simp only [lenW] <;> omega)) only [wV, simprocAttr]
        rw[if_pos hkb,<-List.append_assoc]at hm
        refine⟨((A1:List Nat),(b::B1:List Nat),out++[a]),by simp<;>omega,⟨hm,by simp;omega⟩,?_⟩
        rw[Qbn,Qa3,List.length_append]
        exact⟨[(50,.blk 50 1)],rfl,au0,au1,au2⟩
    · by_cases hba : b < a
      · have h5 : ¬ (a : Int) <= (b : Int) := by omega
        have h6:(b:Int)<=(a:Int):=by omega
        simp only[List.length_nil,List.length_cons]at hl
        simp(disch:=first|omega|(simp only[lenW]<;>omega)) only[List.length_nil,List.length_cons,h1,h2,h3,h4,h5,h6,iaddr0,tk1,tk2,head0,Nat.add_sub_cancel,wV,simprocAttr]
        refine cp (hk false true) ?_
        rw[mrg,if_neg hab,if_pos hba]at hm
        cases hkb:k false true
        · simp (disch := first | omega | (simp only [lenW] <;> omega)) only [wV, simprocAttr]
          rw[if_neg (by simp[hkb]),List.nil_append]at hm
          exact⟨((a::A1:List Nat),(B1:List Nat),out),by simp<;>omega,⟨hm,by simp;omega⟩,⟨[(50,.blk 50 0)],rfl,au0,au1,au2⟩⟩
        · simp (disch := first | omega | (simp only [lenW] <;> omega)) only [wV, simprocAttr]
          rw[if_pos hkb,<-List.append_assoc]at hm
          refine⟨((a::A1:List Nat),(B1:List Nat),out++[b]),by simp<;>omega,⟨hm,by simp;omega⟩,?_⟩
          rw[Qbn,Qa3,List.length_append]
          exact⟨[(50,.blk 50 1)],rfl,au0,au1,au2⟩
      · have e1 : a = b := by omega
        subst e1
        have h5:(a:Int)<=(a:Int):=by omega
        simp only[List.length_nil,List.length_cons]at hl
        simp(disch:=first|omega|(simp only[lenW]<;>omega)) only[List.length_nil,List.length_cons,h1,h2,h3,h4,h5,iaddr0,tk1,tk2,head0,Nat.add_sub_cancel,wV,simprocAttr]
        refine cp (hk true true) ?_
        rw[mrg,if_neg hab,if_neg hba]at hm
        cases hkb:k true true
        · simp (disch := first | omega | (simp only [lenW] <;> omega)) only [wV, simprocAttr]
          rw[if_neg (by simp[hkb]),List.nil_append]at hm
          exact⟨((A1:List Nat),(B1:List Nat),out),by simp<;>omega,⟨hm,by simp;omega⟩,⟨[(50,.blk 50 0)],rfl,au0,au1,au2⟩⟩
        · simp (disch := first | omega | (simp only [lenW] <;> omega)) only [wV, simprocAttr]
          rw[if_pos hkb,<-List.append_assoc]at hm
          refine⟨((A1:List Nat),(B1:List Nat),out++[a]),by simp<;>omega,⟨hm,by simp;omega⟩,?_⟩
          rw[Qbn,Qa3,List.length_append]
          exact⟨[(50,.blk 50 1)],rfl,au0,au1,au2⟩
theorem union84 (A B:List Nat) (hA:A.length<=1000000) (hB:B.length<=1000000):PSpec Tryz.prog 84 [sliN A,sliN B] (sliN (mrg (fun a b=>a||b) A B)):=by
 refine PSpec.of_rn 64 ok84 rfl (by(try simp only[noRefs,Qac,Qat,Qaf,QaA,Qas,noRef,Bool.and_self,Bool.and_true])<;>rfl) (Qab _) ?_
 simp(disch:=first|omega|(simp only[lenW]<;>omega)) only[s84,wV,simprocAttr]
 refine cp (merge168 169 _ union169 A B hA hB) ?_
 simp(disch:=first|omega|(simp only[lenW]<;>omega)) only[wV,simprocAttr]
 exact⟨.inr trivial,_,rfl,Rn.same (Qab _)⟩
theorem minus219 (A B:List Nat) (hA:A.length<=1000000) (hB:B.length<=1000000):PSpec Tryz.prog 219 [sliN A,sliN B] (sliN (mrg (fun a b=>a&& !b) A B)):=by
 refine PSpec.of_rn 64 ok219 rfl (by(try simp only[noRefs,Qac,Qat,Qaf,QaA,Qas,noRef,Bool.and_self,Bool.and_true])<;>rfl) (Qab _) ?_
 simp(disch:=first|omega|(simp only[lenW]<;>omega)) only[s219,wV,simprocAttr]
 refine cp (merge168 242 _ minus242 A B hA hB) ?_
 simp(disch:=first|omega|(simp only[lenW]<;>omega)) only[wV,simprocAttr]
 exact⟨.inr trivial,_,rfl,Rn.same (Qab _)⟩
theorem subset167 (A B:List Nat) (hA:A.length<=1000000) (hB:B.length<=1000000):PSpec Tryz.prog 167 [sliN A,sliN B] (.bool (decide ((mrg (fun a b=>a&& !b) A B).length=0))):=by
  refine PSpec.Qau 64 ok167 rfl (by(try simp only[noRefs,Qac,Qat,Qaf,QaA,Qas,noRef,Bool.and_self,Bool.and_true])<;>rfl) rfl ?_
  simp(disch:=first|omega|(simp only[lenW]<;>omega)) only[s167,wV,simprocAttr]
  refine cp (minus219 A B hA hB) ?_
  by_cases h:(mrg (fun a b=>a&& !b) A B).length=0
  · have h' : (((mrg (fun a b => a && !b) A B).length : Nat) : Int) = 0 := by omega
    simp(disch:=first|omega|(simp only[lenW]<;>omega)) only[h',wV,simprocAttr]
    exact⟨.inr trivial,_,rfl,by simp[resOf,QaD,h]⟩
  · have h' : ¬ (((mrg (fun a b => a && !b) A B).length : Nat) : Int) = 0 := by omega
    simp(disch:=first|omega|(simp only[lenW]<;>omega)) only[h',wV,simprocAttr]
    exact⟨.inr trivial,_,rfl,by simp[resOf,QaD,h]⟩
end Go.AM.SO
namespace Go.AM.SE
open Go.Proofs Go.AM.SD
theorem shr1 {i j:Nat}:aBin .shr (.int .u64 ((i:Int)+(j:Int))) (.int .u64 1)=some (.int .u64 (((i+j)/2:Nat):Int)):=by
 have h:(((i:Int)+(j:Int)).fdiv (2^(min (1:Int).toNat 64)))=(((i+j)/2:Nat):Int):=by
  rw[show min (1:Int).toNat 64=1 from rfl,Int.fdiv_eq_ediv_of_nonneg _ (by decide)];omega
 show(if(1:Int)<0 then none else some (AV.int .u64 (((i:Int)+(j:Int)).fdiv (2^(min (1:Int).toNat 64)))))=_
 rw[if_neg (by decide),h]
def lbN (l:List Nat) (t:Nat):Nat:=l.countP fun x=>decide (x<t)
theorem lb_eq:∀{l:List Nat} {t i:Nat},i<=l.length->(∀j,j<i->l.getD j 0<t)->(∀j,i<=j->j<l.length->¬l.getD j 0<t)->lbN l t=i
 |[],t,i,hi,_,_=>by simp at hi;subst hi;rfl
 |x::l,t,0,_,_,h2=>by
  unfold lbN
  rw[List.countP_eq_zero]
  intro y hy
  obtain⟨q,hq,hql⟩:=Qhe hy
  have:=h2 q (Nat.zero_le _) hql
  rw[List.getD_eq_getElem?_getD,hq]at this
  simpa using this
 |x::l,t,i+1,hi,h1,h2=>by
  have hx:x<t:=by have:=h1 0 (by omega);simpa using this
  have:=lb_eq (l:=l) (t:=t) (i:=i) (by simpa using hi) (fun j hj=>by have:=h1 (j+1) (by omega);simpa using this) (fun j hj hl=>by have:=h2 (j+1) (by omega) (by simpa using hl);simpa using this)
  unfold lbN at this⊢
  rw[List.countP_cons,this,if_pos (by simpa using hx)]
theorem lb_le {l:List Nat} {t:Nat}:lbN l t<=l.length:=List.countP_le_length
theorem QcW {l:List Nat} (h:l.Pairwise (· <= ·)) {p q:Nat} (hpq:p<=q) (hq:q<l.length):l.getD p 0<=l.getD q 0:=by
 rw[List.getD_eq_getElem?_getD,List.getD_eq_getElem?_getD,List.getElem?_eq_getElem (by omega),List.getElem?_eq_getElem hq]
 rcases Nat.lt_or_eq_of_le hpq with h1|h1
 ·exact List.pairwise_iff_getElem.1 h p q (by omega) hq h1
 ·subst h1;exact Nat.le_refl _
theorem QjZ {l:List Nat} (h:l.Pairwise (· <= ·)) {t i:Nat} (h1:∀j,j<i->l.getD j 0<t) (h2:∀j,i<=j->j<l.length->¬l.getD j 0<t):l.contains t=decide (i<l.length/\l.getD i 0=t):=by
 rw[Bool.eq_iff_iff,decide_eq_true_iff,List.contains_iff_mem]
 constructor
 ·intro hm
  obtain⟨q,hq,hql⟩:=Qhe hm
  have hqd:l.getD q 0=t:=by rw[List.getD_eq_getElem?_getD,hq];rfl
  have hiq:i<=q:=by
   refine Nat.le_of_not_lt fun h3=>?_
   have:=h1 q h3;omega
  have h4:=QcW h hiq hql
  have h5:=h2 i (Nat.le_refl _) (by omega)
  exact⟨by omega,by omega⟩
 ·rintro ⟨hi, e⟩
  rw[<-e,List.getD_eq_getElem?_getD,List.getElem?_eq_getElem hi]
  exact List.getElem_mem hi
theorem nan81 (x:Int):PSpec Tryz.prog 227 [.int .i64 x] (.bool false):=by
 refine PSpec.Qau 64 ok227 rfl (by(try simp only[noRefs,QaZ,QaM,QaO,Qac,Qat,Qaf,QaA,QaW,Qas,noRef,Bool.and_self,Bool.and_true])<;>rfl) rfl ?_
 simp(disch:=first|omega|(simp only[lenW]<;>omega)) only[s227,wW,wV,simprocAttr]
 exact⟨.inr trivial,_,rfl,rfl⟩
theorem nan66 (x:Int):PSpec Tryz.prog 198 [.int .i64 x] (.bool false):=by
 refine PSpec.Qau 64 ok198 rfl (by(try simp only[noRefs,QaZ,QaM,QaO,Qac,Qat,Qaf,QaA,QaW,Qas,noRef,Bool.and_self,Bool.and_true])<;>rfl) rfl ?_
 simp(disch:=first|omega|(simp only[lenW]<;>omega)) only[s198,wW,wV,simprocAttr]
 exact⟨.inr trivial,_,rfl,rfl⟩
theorem less65 (x y:Int):PSpec Tryz.prog 197 [.int .i64 x,.int .i64 y] (.bool (decide (x<y))):=by
 refine PSpec.Qau 64 ok197 rfl (by(try simp only[noRefs,QaZ,QaM,QaO,Qac,Qat,Qaf,QaA,QaW,Qas,noRef,Bool.and_self,Bool.and_true])<;>rfl) rfl ?_
 simp(disch:=first|omega|(simp only[lenW]<;>omega)) only[s197,wW,wV,simprocAttr]
 refine cp (nan81 x) ?_
 simp(disch:=first|omega|(simp only[lenW]<;>omega)) only[wW,wV,simprocAttr]
 exact⟨.inr trivial,_,rfl,rfl⟩
theorem _root_.Go.AM.au5 {p:Prop} (h:p:=by repeat' (first|exact RB.nil|(refine RnL.same ?_;first|rfl|(simp only[noRef,noRefs,Qak,Bool.and_self,Bool.and_true,Bool.true_and,Qac,QaZ,Qat,Qaf,QaA,QaW,Qcx,Qas,Qaq,Qab,Qbr,Qao,QaM,QaO,Qd7];done))|exact RnM.keyM rfl|exact RnL.nil|exact(True.intro:RnM _ _ _ [] [])|refine RnL.cons ?_ ?_|(refine Rn.same ?_;first|rfl|(simp only[noRef,noRefs,Qak,Bool.and_self,Bool.and_true,Bool.true_and,Qac,QaZ,Qat,Qaf,QaA,QaW,Qcx,Qas,Qaq,Qab,Qbr,Qao,QaM,QaO,Qd7];done))|exact Rn.x1 rfl rfl|exact Rn.x2 rfl rfl|exact Rn.x3 rfl rfl|exact Rn.x4 rfl rfl|exact Rn.x5 rfl|exact Rn.x6 rfl|exact Rn.x7 rfl|refine RB.newnil rfl rfl ?_|refine RB.cells rfl rfl rfl ?_ ?_|refine RB.map rfl rfl rfl ?_ ?_|refine RB.cellsB rfl rfl ?_ ?_|refine RB.mapB rfl rfl ?_ ?_)):p:=h
theorem _root_.Go.AM.au6 {p:Prop} (h:p:=by repeat (first|exact RT.nil|(refine RT.cons ?_ ?_; · (first|exact Rn.any|exact Rn.x1 rfl rfl|exact Rn.x2 rfl rfl|exact Rn.x3 rfl rfl|exact Rn.x4 rfl rfl|exact Rn.x5 rfl|exact Rn.x6 rfl|exact Rn.x7 rfl|(refine Rn.slot ?_ ?_;(first|rfl|(rw[Int.natCast_add];rfl));(first|rfl|(simp only[noRef,noRefs,Qak,Bool.and_self,Bool.and_true,Bool.true_and,Qac,QaZ,Qat,Qaf,QaA,QaW,Qcx,Qas,Qaq,Qab,Qbr,Qao,QaM,QaO,Qd7];done)))|(refine Rn.fn ?_ ?_<;>(repeat' (first|exact RnL.nil|refine RnL.cons ?_ ?_|exact Rn.same rfl|exact Rn.x6 rfl|exact Rn.x2 rfl rfl|exact Rn.x5 rfl|exact Rn.x1 rfl rfl))))))):p:=h
theorem find57 (l : List Nat) (t : Nat) (hs : l.Pairwise (· <= ·)) (hl : l.length <= 1000000) : PSpec Tryz.prog 144 [sliN l, .int .i64 (t : Int)] (.tup [.int .i64 (lbN l t : Int), .bool (l.contains t)]) := by
  refine PSpec.Qau 64 ok144 rfl (by(try simp only[noRefs,QaZ,QaM,QaO,Qac,Qat,Qaf,QaA,QaW,Qas,noRef,Bool.and_self,Bool.and_true])<;>rfl) rfl ?_
  simp(disch:=first|omega|(simp only[lenW]<;>omega)) only[s144,wW,wV,simprocAttr]
  refine QaB 100 (fun p:Nat×Nat=>[(0,sliN l),(1,.int .i64 (t:Int)),(6,.int .i64 l.length),(7,.int .i64 p.1),(8,.int .i64 p.2)]) (fun _=>[])
    (fun p=>p.1<=p.2/\p.2<=l.length/\(∀q,q<p.1->l.getD q 0<t)/\∀q,p.2<=q->q<l.length->¬l.getD q 0<t) (fun p=>p.2-p.1) (0,l.length) 0 140
    (fun i:Nat=>[(0,sliN l),(1,.int .i64 (t:Int)),(6,.int .i64 l.length),(7,.int .i64 i)]) (fun _=>[])
    (fun i=>i<=l.length/\(∀q,q<i->l.getD q 0<t)/\∀q,i<=q->q<l.length->¬l.getD q 0<t) ?_ ⟨Nat.zero_le _,Nat.le_refl _,fun q hq=>absurd hq (Nat.not_lt_zero _),fun q h1 h2=>by omega⟩ ?_ ?_
  · exact⟨[],rfl,au0,au5,au6⟩
  · rintro ⟨i, j⟩ ⟨hij, hj, h1, h2⟩
    dsimp only at hij hj h1 h2⊢
    by_cases hlt:i<j
    · obtain ⟨k, hk, hk1, hk2⟩ : ∃ k : Nat, aBin .shr (.int .u64 ((i : Int) + (j : Int))) (.int .u64 1) = some (.int .u64 (k : Int)) /\ i <= k /\ k < j := ⟨(i + j) / 2, shr1, by omega, by omega⟩
      have hkl:k<l.length:=by omega
      have hkx:l[k]?=some (l.getD k 0):=by rw[List.getElem?_eq_getElem hkl];simp[hkl]
      simp(disch:=first|omega|(simp only[lenW]<;>omega)) only[hlt,hk,hkl,Qa5 hkx,wW,wV,simprocAttr]
      refine cp (less65 _ _) ?_
      by_cases hc:l.getD k 0<t
      · rw [decide_eq_true (by omega)]
        simp(disch:=first|omega|(simp only[lenW]<;>omega)) only[wW,wV,simprocAttr]
        refine⟨(k+1,j),by dsimp only;omega,⟨by dsimp only;omega,hj,fun q hq=>?_,h2⟩,⟨[],rfl,au0,au5,au6⟩⟩
        have:=QcW hs (p:=q) (q:=k) (by dsimp only at hq;omega) hkl
        omega
      · rw [decide_eq_false (by omega)]
        simp(disch:=first|omega|(simp only[lenW]<;>omega)) only[wW,wV,simprocAttr]
        refine⟨(i,k),by dsimp only;omega,⟨hk1,by dsimp only;omega,h1,fun q hq hql=>?_⟩,⟨[],rfl,au0,au5,au6⟩⟩
        have:=QcW hs (p:=k) (q:=q) hq hql
        omega
    · have e : i = j := by omega
      subst e
      simp(disch:=first|omega|(simp only[lenW]<;>omega)) only[hlt,wW,wV,simprocAttr]
      exact⟨i,⟨hj,h1,h2⟩,⟨[],rfl,au0,au5,au6⟩⟩
  rintro i ⟨hi,h1,h2⟩
  rw[lb_eq hi h1 h2,QjZ hs h1 h2]
  by_cases hlt:i<l.length
  · have hx : l[i]? = some (l.getD i 0) := by rw [List.getElem?_eq_getElem hlt]; simp [hlt]
    by_cases he:l.getD i 0=t
    · rw [decide_eq_true ⟨hlt, he⟩]
      rw[he]at hx
      simp(disch:=first|omega|(simp only[lenW]<;>omega)) only[hlt,Qa5 hx,wW,wV,simprocAttr]
      exact⟨.inr trivial,_,rfl,rfl⟩
    · rw [decide_eq_false fun h => he h.2]
      generalize l.getD i 0=y at*
      have he':¬(y:Int)=(t:Int):=by omega
      simp(disch:=first|omega|(simp only[lenW]<;>omega)) only[hlt,Qa5 hx,he',wW,wV,simprocAttr]
      refine cp (nan66 _) ?_
      simp(disch:=first|omega|(simp only[lenW]<;>omega)) only[wW,wV,simprocAttr]
      exact⟨.inr trivial,_,rfl,rfl⟩
  · rw [decide_eq_false fun h => hlt h.1]
    simp(disch:=first|omega|(simp only[lenW]<;>omega)) only[hlt,wW,wV,simprocAttr]
    exact⟨.inr trivial,_,rfl,rfl⟩
end Go.AM.SE
namespace Go.AM.SE
open Go.Proofs Go.AM.SD
abbrev edV (e:Ed):AV:= .agg [.int .i64 (e.1:Int),.int .i64 (e.2.1:Int),.int .i64 (e.2.2:Int)]
theorem Qne (x y:Ed):aEq (.flat true [.i,.i,.i]) true (edV x) (edV y)=some (.bool (!decide (x=y))):=by
 have:∀n m:Nat,decide ((n:Int)=(m:Int))=decide (n=m):=fun n m=>decide_eq_decide.2 (by omega)
 obtain⟨a,b,c⟩:=x
 obtain⟨a',b',c'⟩:=y
 simp only[aEq,eqCells,eqCell,if_true]
 simp only[Prod.mk.injEq,Bool.decide_and,this]
 cases decide (a=a')<;>cases decide (b=b')<;>cases decide (c=c')<;>rfl
theorem eq41 (a b : List Int) (hl : b.length <= 1000000) : PSpec Tryz.prog 31 [sli a, sli b] (.bool (decide (a = b))) := by
  refine PSpec.Qau 64 ok31 rfl (by(try simp only[noRefs,QaZ,QaM,QaO,Qac,Qat,Qaf,QaA,QaW,Qas,noRef,Bool.and_self,Bool.and_true])<;>rfl) rfl ?_
  by_cases hab:a.length=b.length
  · simp (disch := first | omega | (simp only [lenW] <;> omega)) only [s31, hab, wW, wV, simprocAttr]
    refine Qba 100 (fun i:Nat=>[(0,sli a),(1,sli b),(12,.int .i64 b.length),(13,.int .i64 i)]) (fun _=>[]) (fun i=>i<=b.length/\∀j,j<i->a[j]?=b[j]?) (fun i=>b.length-i) 0 ⟨[],rfl,au0,au5,au6⟩ ⟨Nat.zero_le _,fun j hj=>absurd hj (Nat.not_lt_zero _)⟩ ?_
    rintro i ⟨hi,hb⟩
    by_cases hlt:i<b.length
    · obtain ⟨x, hx⟩ := Qal (l := a) (i := i) (by omega)
      obtain⟨y,hy⟩:=Qal (l:=b) (i:=i) (by omega)
      have hlt2:i<a.length:=by omega
      by_cases h0:x=y
      · have hq : True := by trivial
        simp(disch:=first|omega|(simp only[lenW]<;>omega)) only[hlt,hlt2,QaP hx,QaP hy,h0,hq,wW,wV,simprocAttr]
        refine⟨i+1,by omega,⟨by omega,fun j hj=>?_⟩,⟨[],rfl,au0,au5,au6⟩⟩
        by_cases e:j=i
        · subst e;rw[hx,hy,h0]
        · exact hb j (by omega)
      · have hq : True := by trivial
        simp(disch:=first|omega|(simp only[lenW]<;>omega)) only[hlt,hlt2,QaP hx,QaP hy,h0,hq,wW,wV,simprocAttr]
        refine⟨.inr trivial,_,rfl,?_⟩
        have:a≠b:=fun e=>by subst e;rw[hx]at hy;cases hy;exact h0 rfl
        simp[resOf,QaD,this]
    · have : a = b := List.ext_getElem? fun j => by
        by_cases hj:j<i
        · exact hb j hj
        · rw[List.getElem?_eq_none (by omega),List.getElem?_eq_none (by omega)]
      simp(disch:=first|omega|(simp only[lenW]<;>omega)) only[hlt,wW,wV,simprocAttr]
      exact⟨.inr trivial,_,rfl,by simp[resOf,QaD,this]⟩
  · simp (disch := first | omega | (simp only [lenW] <;> omega)) only [s31, hab, wW, wV, simprocAttr]
    have:a≠b:=fun e=>hab (by rw[e])
    exact⟨.inr trivial,_,rfl,by simp[resOf,QaD,this]⟩
theorem eq55 (a b : List Ed) (hl : b.length <= 10000000) : PSpec Tryz.prog 106 [egsN a, egsN b] (.bool (decide (a = b))) := by
  refine PSpec.Qau 64 ok106 rfl (by(try simp only[noRefs,QaZ,QaM,QaO,Qac,Qat,Qaf,QaA,QaW,Qas,noRef,Bool.and_self,Bool.and_true])<;>rfl) rfl ?_
  by_cases hab:a.length=b.length
  · simp (disch := first | omega | (simp only [lenW] <;> omega)) only [s106, hab, wW, wV, simprocAttr]
    refine Qba 100 (fun i:Nat=>[(0,egsN a),(1,egsN b),(12,.int .i64 b.length),(13,.int .i64 i)]) (fun _=>[]) (fun i=>i<=b.length/\∀j,j<i->a[j]?=b[j]?) (fun i=>b.length-i) 0 ⟨[],rfl,au0,au5,au6⟩ ⟨Nat.zero_le _,fun j hj=>absurd hj (Nat.not_lt_zero _)⟩ ?_
    rintro i ⟨hi,hb⟩
    by_cases hlt:i<b.length
    · obtain ⟨x, hx⟩ := Qal (l := a) (i := i) (by omega)
      obtain⟨y,hy⟩:=Qal (l:=b) (i:=i) (by omega)
      have hlt2:i<a.length:=by omega
      by_cases h0:x=y
      · have hq : aEq (.flat true [.i, .i, .i]) true (edV y) (edV y) = some (.bool false) := by rw [Qne]; simp
        simp(disch:=first|omega|(simp only[lenW]<;>omega)) only[hlt,hlt2,Qbb hx,Qbb hy,h0,hq,wW,wV,simprocAttr]
        refine⟨i+1,by omega,⟨by omega,fun j hj=>?_⟩,⟨[],rfl,au0,au5,au6⟩⟩
        by_cases e:j=i
        · subst e;rw[hx,hy,h0]
        · exact hb j (by omega)
      · have hq : aEq (.flat true [.i, .i, .i]) true (edV x) (edV y) = some (.bool true) := by rw [Qne]; simp [h0]
        simp(disch:=first|omega|(simp only[lenW]<;>omega)) only[hlt,hlt2,Qbb hx,Qbb hy,h0,hq,wW,wV,simprocAttr]
        refine⟨.inr trivial,_,rfl,?_⟩
        have:a≠b:=fun e=>by subst e;rw[hx]at hy;cases hy;exact h0 rfl
        simp[resOf,QaD,this]
    · have : a = b := List.ext_getElem? fun j => by
        by_cases hj:j<i
        · exact hb j hj
        · rw[List.getElem?_eq_none (by omega),List.getElem?_eq_none (by omega)]
      simp(disch:=first|omega|(simp only[lenW]<;>omega)) only[hlt,wW,wV,simprocAttr]
      exact⟨.inr trivial,_,rfl,by simp[resOf,QaD,this]⟩
  · simp (disch := first | omega | (simp only [lenW] <;> omega)) only [s106, hab, wW, wV, simprocAttr]
    have:a≠b:=fun e=>hab (by rw[e])
    exact⟨.inr trivial,_,rfl,by simp[resOf,QaD,this]⟩
theorem Qph {a b : List Nat} : decide (nz a = nz b) = decide (a = b) := by
  refine decide_eq_decide.2 ⟨fun h=>?_,fun h=>by rw[h]⟩
  have:∀a b:List Nat,nz a=nz b->a=b:=by
    intro a
    induction a with
    | nil => intro b h; cases b with
      |nil=>rfl
      |cons=>simp at h
    | cons x a ih => intro b h; cases b with
      |nil=>simp at h
      | cons y b =>
        simp only[nz,List.map_cons,List.cons.injEq]at h
        rw[ih b h.2,show x=y by omega]
  exact this a b h
theorem eq41N (a b:List Nat) (hl:b.length<=1000000):PSpec Tryz.prog 31 [sliN a,sliN b] (.bool (decide (a=b))):=by
 have:=eq41 (nz a) (nz b) (by simpa using hl)
 rw[Qdc,Qdc,Qph]at this;exact this
def autB (x y:Aut):Bool:=decide (x.n=y.n)&&(decide (x.al=y.al)&&(decide (x.ms=y.ms)&&decide (x.es=y.es)))
structure AOk (r:Aut):Prop where
 al:r.al.length<=1000000
 ms:r.ms.length<=1000000
 es:r.es.length<=10000000
theorem eq43 (x y:Aut) (hx:AOk x) (hy:AOk y):PSpec Tryz.prog 33 [aV x,aV y] (.bool (autB x y)):=by
 refine PSpec.Qau 64 ok33 rfl (by(try simp only[noRefs,QaZ,QaM,QaO,Qac,Qat,Qaf,QaA,QaW,Qas,noRef,Bool.and_self,Bool.and_true])<;>rfl) rfl ?_
 have c1:=eq41N x.al y.al hy.al
 have c2:=eq41N x.ms y.ms hy.ms
 have c3:=eq55 x.es y.es hy.es
 unfold autB
 by_cases h1:x.n=y.n
 ·rw [decide_eq_true h1, Bool.true_and]
  generalize decide (x.al=y.al)=b1 at*
  generalize decide (x.ms=y.ms)=b2 at*
  generalize decide (x.es=y.es)=b3 at*
  simp(disch:=first|omega|(simp only[lenW]<;>omega)) only[s33,h1,wW,wV,simprocAttr]
  refine cp c1 ?_
  cases b1 with
  |false=>
   simp(disch:=first|omega|(simp only[lenW]<;>omega)) only[wW,wV,simprocAttr]
   exact⟨.inr trivial,_,rfl,rfl⟩
  | true =>
   simp(disch:=first|omega|(simp only[lenW]<;>omega)) only[wW,wV,simprocAttr]
   refine cp c2 ?_
   cases b2 with
   |false=>
    simp(disch:=first|omega|(simp only[lenW]<;>omega)) only[wW,wV,simprocAttr]
    exact⟨.inr trivial,_,rfl,rfl⟩
   |true=>
    simp(disch:=first|omega|(simp only[lenW]<;>omega)) only[wW,wV,simprocAttr]
    refine cp c3 ?_
    simp(disch:=first|omega|(simp only[lenW]<;>omega)) only[wW,wV,simprocAttr]
    exact⟨.inr trivial,_,rfl,rfl⟩
 ·rw [decide_eq_false h1, Bool.false_and]
  simp(disch:=first|omega|(simp only[lenW]<;>omega)) only[s33,h1,wW,wV,simprocAttr]
  exact⟨.inr trivial,_,rfl,rfl⟩
end Go.AM.SE
namespace Go.AM.SE
open Go.Proofs Go.AM.SD
abbrev froms (es:List Ed):List Nat:=es.map (·.1)
theorem Qiz:∀(l:List Ed) (i:Nat),(l.flatMap edC).drop (i*3)=(l.drop i).flatMap edC
 |l,0=>by simp
 |[],i+1=>by simp
 |e::l,i+1=>by
  rw[List.flatMap_cons,Nat.succ_mul,List.drop_succ_cons]
  show List.drop (i*3+3) (_::_::_::l.flatMap edC)=_
  rw[List.drop_succ_cons,List.drop_succ_cons,List.drop_succ_cons]
  exact Qiz l i
theorem QiA:∀(l:List Ed) (i:Nat),(l.flatMap edC).take (i*3)=(l.take i).flatMap edC
 |l,0=>by simp
 |[],i+1=>by simp
 |e::l,i+1=>by
  rw[List.flatMap_cons,Nat.succ_mul,List.take_succ_cons,List.flatMap_cons]
  show List.take (i*3+3) (_::_::_::l.flatMap edC)=_
  rw[List.take_succ_cons,List.take_succ_cons,List.take_succ_cons,QiA l i];rfl
theorem Qlu {x t:Nat} {l:List Nat}:lbN (x::l) t=lbN l t+if x<t then 1 else 0:=by
 unfold lbN;rw[List.countP_cons];simp
theorem QhG {l:List Nat} {t:Nat} (h:∀x∈l,t<=x):lbN l t=0:=by
 unfold lbN
 rw[List.countP_eq_zero]
 intro x hx;have:=h x hx;simp;omega
theorem Qnf:∀{es:List Ed},es.Pairwise (fun a b=>a.1<=b.1)->∀v:Nat,(es.drop (lbN (froms es) v)).take (lbN (froms es) (v+1)-lbN (froms es) v)=sOut es (fun _=>true) v
 |[],_,_=>by simp[sOut]
 | e :: es, h, v => by
  rw[List.pairwise_cons]at h
  have ih:=Qnf h.2 v
  have ef:froms (e::es)=e.1::froms es:=rfl
  have so:sOut (e::es) (fun _=>true) v=if e.1=v then e::sOut es (fun _=>true) v else sOut es (fun _=>true) v:=by
   unfold sOut;rw[List.filter_cons];simp
  rw[ef,Qlu,Qlu,so]
  rcases Nat.lt_trichotomy e.1 v with h1|h1|h1
  ·rw[if_pos h1,if_pos (by omega),if_neg (by omega),List.drop_succ_cons,Nat.add_sub_add_right,ih]
  ·have hz : lbN (froms es) v = 0 := QhG fun x hx => by
    obtain⟨y,hy,rfl⟩:=List.mem_map.1 hx
    have:=h.1 y hy;omega
   rw[hz]at ih⊢
   have i1:¬e.1<v:=by omega
   have i2:e.1<v+1:=by omega
   simp only[if_neg i1,if_pos i2,if_pos h1,Nat.add_zero,List.drop_zero,Nat.sub_zero,List.take_succ_cons]
   rw[List.drop_zero,Nat.sub_zero]at ih
   rw[ih]
  ·have hz : lbN (froms es) v = 0 := QhG fun x hx => by
    obtain⟨y,hy,rfl⟩:=List.mem_map.1 hx
    have:=h.1 y hy;omega
   have hz2:lbN (froms es) (v+1)=0:=QhG fun x hx=>by
    obtain⟨y,hy,rfl⟩:=List.mem_map.1 hx
    have:=h.1 y hy;omega
   rw[hz,hz2]at ih⊢
   rw[if_neg (by omega),if_neg (by omega),if_neg (by omega)]
   simpa using ih
theorem sub229 (e:Ed) (t:Nat) (he:e.1<=1000000) (ht:t<=1000000):PSpec Tryz.prog 229 [edV e,.int .i64 (t:Int)] (.int .i64 ((e.1:Int)-(t:Int))):=by
 refine PSpec.Qau 64 ok229 rfl (by(try simp only[noRefs,QaZ,QaM,QaO,Qac,Qat,Qaf,QaA,QaW,Qas,noRef,Bool.and_self,Bool.and_true])<;>rfl) rfl ?_
 simp(disch:=first|omega|(simp only[lenW]<;>omega)) only[s229,wW,wV,simprocAttr]
 exact⟨.inr trivial,_,rfl,rfl⟩
theorem sub230 (e:Ed) (t:Nat) (he:e.1<=1000000) (ht:t<=1000000):PSpec Tryz.prog 230 [edV e,.int .i64 (t:Int)] (.int .i64 ((e.1:Int)-(t:Int))):=by
 refine PSpec.Qau 64 ok230 rfl (by(try simp only[noRefs,QaZ,QaM,QaO,Qac,Qat,Qaf,QaA,QaW,Qas,noRef,Bool.and_self,Bool.and_true])<;>rfl) rfl ?_
 simp(disch:=first|omega|(simp only[lenW]<;>omega)) only[s230,wW,wV,simprocAttr]
 exact⟨.inr trivial,_,rfl,rfl⟩
theorem find67 (es : List Ed) (t : Nat) (hs : (froms es).Pairwise (· <= ·)) (hb : ∀ e ∈ es, e.1 <= 1000000) (ht : t <= 1000000) (hl : es.length <= 1000000) : PSpec Tryz.prog 228 [egsN es, .int .i64 (t : Int), .fn 229 [] []] (.tup [.int .i64 (lbN (froms es) t : Int), .bool ((froms es).contains t)]) := by
  refine PSpec.Qau 64 ok228 rfl (by(try simp only[noRefs,QaZ,QaM,QaO,Qac,Qat,Qaf,QaA,QaW,Qas,noRef,Bool.and_self,Bool.and_true])<;>rfl) rfl ?_
  have hfl:(froms es).length=es.length:=by simp
  simp(disch:=first|omega|(simp only[lenW]<;>omega)) only[s228,wW,wV,simprocAttr]
  refine QaB 100 (fun p:Nat×Nat=>[(0,egsN es),(1,.int .i64 (t:Int)),(2,.fn 229 [] []),(8,.int .i64 es.length),(9,.int .i64 p.1),(10,.int .i64 p.2)]) (fun _=>[])
    (fun p=>p.1<=p.2/\p.2<=es.length/\(∀q,q<p.1->(froms es).getD q 0<t)/\∀q,p.2<=q->q<es.length->¬(froms es).getD q 0<t) (fun p=>p.2-p.1) (0,es.length) 0 140
    (fun i:Nat=>[(0,egsN es),(1,.int .i64 (t:Int)),(2,.fn 229 [] []),(8,.int .i64 es.length),(9,.int .i64 i)]) (fun _=>[])
    (fun i=>i<=es.length/\(∀q,q<i->(froms es).getD q 0<t)/\∀q,i<=q->q<es.length->¬(froms es).getD q 0<t) ?_ ⟨Nat.zero_le _,Nat.le_refl _,fun q hq=>absurd hq (Nat.not_lt_zero _),fun q h1 h2=>by omega⟩ ?_ ?_
  · exact⟨[],rfl,au0,au5,au6⟩
  · rintro ⟨i, j⟩ ⟨hij, hj, h1, h2⟩
    dsimp only at hij hj h1 h2⊢
    by_cases hlt:i<j
    · obtain ⟨k, hk, hk1, hk2⟩ : ∃ k : Nat, aBin .shr (.int .u64 ((i : Int) + (j : Int))) (.int .u64 1) = some (.int .u64 (k : Int)) /\ i <= k /\ k < j := ⟨(i + j) / 2, shr1, by omega, by omega⟩
      have hkl:k<es.length:=by omega
      obtain⟨e,he⟩:=Qal hkl
      have hke:(froms es).getD k 0=e.1:=by rw[List.getD_eq_getElem?_getD,List.getElem?_map,he];rfl
      have heb:=hb e (List.mem_of_getElem? he)
      simp(disch:=first|omega|(simp only[lenW]<;>omega)) only[hlt,hk,hkl,Qbb he,wW,wV,simprocAttr]
      refine cp (sub229 e t heb ht) ?_
      by_cases hc:e.1<t
      · have hc' : (e.1 : Int) - (t : Int) < 0 := by omega
        simp(disch:=first|omega|(simp only[lenW]<;>omega)) only[hc',wW,wV,simprocAttr]
        refine⟨(k+1,j),by dsimp only;omega,⟨by dsimp only;omega,hj,fun q hq=>?_,h2⟩,⟨[],rfl,au0,au5,au6⟩⟩
        have:=QcW hs (p:=q) (q:=k) (by dsimp only at hq;omega) (by omega)
        omega
      · have hc' : ¬ (e.1 : Int) - (t : Int) < 0 := by omega
        simp(disch:=first|omega|(simp only[lenW]<;>omega)) only[hc',wW,wV,simprocAttr]
        refine⟨(i,k),by dsimp only;omega,⟨hk1,by dsimp only;omega,h1,fun q hq hql=>?_⟩,⟨[],rfl,au0,au5,au6⟩⟩
        have:=QcW hs (p:=k) (q:=q) hq (by omega)
        omega
    · have e : i = j := by omega
      subst e
      simp(disch:=first|omega|(simp only[lenW]<;>omega)) only[hlt,wW,wV,simprocAttr]
      exact⟨i,⟨hj,h1,h2⟩,⟨[],rfl,au0,au5,au6⟩⟩
  rintro i ⟨hi,h1,h2⟩
  rw[lb_eq (by omega) h1 fun q a b=>h2 q a (by omega),QjZ hs h1 fun q a b=>h2 q a (by omega)]
  by_cases hlt:i<es.length
  · obtain ⟨e, he⟩ := Qal hlt
    have hke:(froms es).getD i 0=e.1:=by rw[List.getD_eq_getElem?_getD,List.getElem?_map,he];rfl
    have heb:=hb e (List.mem_of_getElem? he)
    rw[hke]
    by_cases hc:e.1=t
    · rw [decide_eq_true ⟨by omega, hc⟩]
      have hc':(e.1:Int)-(t:Int)=0:=by omega
      simp(disch:=first|omega|(simp only[lenW]<;>omega)) only[hlt,Qbb he,wW,wV,simprocAttr]
      refine cp (sub229 e t heb ht) ?_
      simp(disch:=first|omega|(simp only[lenW]<;>omega)) only[hc',wW,wV,simprocAttr]
      exact⟨.inr trivial,_,rfl,rfl⟩
    · rw [decide_eq_false fun h => hc h.2]
      have hc':¬(e.1:Int)-(t:Int)=0:=by omega
      simp(disch:=first|omega|(simp only[lenW]<;>omega)) only[hlt,Qbb he,wW,wV,simprocAttr]
      refine cp (sub229 e t heb ht) ?_
      simp(disch:=first|omega|(simp only[lenW]<;>omega)) only[hc',wW,wV,simprocAttr]
      exact⟨.inr trivial,_,rfl,rfl⟩
  · rw [decide_eq_false fun h => hlt (by omega)]
    simp(disch:=first|omega|(simp only[lenW]<;>omega)) only[hlt,wW,wV,simprocAttr]
    exact⟨.inr trivial,_,rfl,rfl⟩
theorem find67b (es : List Ed) (t : Nat) (hs : (froms es).Pairwise (· <= ·)) (hb : ∀ e ∈ es, e.1 <= 1000000) (ht : t <= 1000000) (hl : es.length <= 1000000) : PSpec Tryz.prog 228 [egsN es, .int .i64 (t : Int), .fn 230 [] []] (.tup [.int .i64 (lbN (froms es) t : Int), .bool ((froms es).contains t)]) := by
  refine PSpec.Qau 64 ok228 rfl (by(try simp only[noRefs,QaZ,QaM,QaO,Qac,Qat,Qaf,QaA,QaW,Qas,noRef,Bool.and_self,Bool.and_true])<;>rfl) rfl ?_
  have hfl:(froms es).length=es.length:=by simp
  simp(disch:=first|omega|(simp only[lenW]<;>omega)) only[s228,wW,wV,simprocAttr]
  refine QaB 100 (fun p:Nat×Nat=>[(0,egsN es),(1,.int .i64 (t:Int)),(2,.fn 230 [] []),(8,.int .i64 es.length),(9,.int .i64 p.1),(10,.int .i64 p.2)]) (fun _=>[])
    (fun p=>p.1<=p.2/\p.2<=es.length/\(∀q,q<p.1->(froms es).getD q 0<t)/\∀q,p.2<=q->q<es.length->¬(froms es).getD q 0<t) (fun p=>p.2-p.1) (0,es.length) 0 140
    (fun i:Nat=>[(0,egsN es),(1,.int .i64 (t:Int)),(2,.fn 230 [] []),(8,.int .i64 es.length),(9,.int .i64 i)]) (fun _=>[])
    (fun i=>i<=es.length/\(∀q,q<i->(froms es).getD q 0<t)/\∀q,i<=q->q<es.length->¬(froms es).getD q 0<t) ?_ ⟨Nat.zero_le _,Nat.le_refl _,fun q hq=>absurd hq (Nat.not_lt_zero _),fun q h1 h2=>by omega⟩ ?_ ?_
  · exact⟨[],rfl,au0,au5,au6⟩
  · rintro ⟨i, j⟩ ⟨hij, hj, h1, h2⟩
    dsimp only at hij hj h1 h2⊢
    by_cases hlt:i<j
    · obtain ⟨k, hk, hk1, hk2⟩ : ∃ k : Nat, aBin .shr (.int .u64 ((i : Int) + (j : Int))) (.int .u64 1) = some (.int .u64 (k : Int)) /\ i <= k /\ k < j := ⟨(i + j) / 2, shr1, by omega, by omega⟩
      have hkl:k<es.length:=by omega
      obtain⟨e,he⟩:=Qal hkl
      have hke:(froms es).getD k 0=e.1:=by rw[List.getD_eq_getElem?_getD,List.getElem?_map,he];rfl
      have heb:=hb e (List.mem_of_getElem? he)
      simp(disch:=first|omega|(simp only[lenW]<;>omega)) only[hlt,hk,hkl,Qbb he,wW,wV,simprocAttr]
      refine cp (sub230 e t heb ht) ?_
      by_cases hc:e.1<t
      · have hc' : (e.1 : Int) - (t : Int) < 0 := by omega
        simp(disch:=first|omega|(simp only[lenW]<;>omega)) only[hc',wW,wV,simprocAttr]
        refine⟨(k+1,j),by dsimp only;omega,⟨by dsimp only;omega,hj,fun q hq=>?_,h2⟩,⟨[],rfl,au0,au5,au6⟩⟩
        have:=QcW hs (p:=q) (q:=k) (by dsimp only at hq;omega) (by omega)
        omega
      · have hc' : ¬ (e.1 : Int) - (t : Int) < 0 := by omega
        simp(disch:=first|omega|(simp only[lenW]<;>omega)) only[hc',wW,wV,simprocAttr]
        refine⟨(i,k),by dsimp only;omega,⟨hk1,by dsimp only;omega,h1,fun q hq hql=>?_⟩,⟨[],rfl,au0,au5,au6⟩⟩
        have:=QcW hs (p:=k) (q:=q) hq (by omega)
        omega
    · have e : i = j := by omega
      subst e
      simp(disch:=first|omega|(simp only[lenW]<;>omega)) only[hlt,wW,wV,simprocAttr]
      exact⟨i,⟨hj,h1,h2⟩,⟨[],rfl,au0,au5,au6⟩⟩
  rintro i ⟨hi,h1,h2⟩
  rw[lb_eq (by omega) h1 fun q a b=>h2 q a (by omega),QjZ hs h1 fun q a b=>h2 q a (by omega)]
  by_cases hlt:i<es.length
  · obtain ⟨e, he⟩ := Qal hlt
    have hke:(froms es).getD i 0=e.1:=by rw[List.getD_eq_getElem?_getD,List.getElem?_map,he];rfl
    have heb:=hb e (List.mem_of_getElem? he)
    rw[hke]
    by_cases hc:e.1=t
    · rw [decide_eq_true ⟨by omega, hc⟩]
      have hc':(e.1:Int)-(t:Int)=0:=by omega
      simp(disch:=first|omega|(simp only[lenW]<;>omega)) only[hlt,Qbb he,wW,wV,simprocAttr]
      refine cp (sub230 e t heb ht) ?_
      simp(disch:=first|omega|(simp only[lenW]<;>omega)) only[hc',wW,wV,simprocAttr]
      exact⟨.inr trivial,_,rfl,rfl⟩
    · rw [decide_eq_false fun h => hc h.2]
      have hc':¬(e.1:Int)-(t:Int)=0:=by omega
      simp(disch:=first|omega|(simp only[lenW]<;>omega)) only[hlt,Qbb he,wW,wV,simprocAttr]
      refine cp (sub230 e t heb ht) ?_
      simp(disch:=first|omega|(simp only[lenW]<;>omega)) only[hc',wW,wV,simprocAttr]
      exact⟨.inr trivial,_,rfl,rfl⟩
  · rw [decide_eq_false fun h => hlt (by omega)]
    simp(disch:=first|omega|(simp only[lenW]<;>omega)) only[hlt,wW,wV,simprocAttr]
    exact⟨.inr trivial,_,rfl,rfl⟩
theorem out58 (a:Aut) (v:Nat) (h:WfA a) (hel:a.es.length<=1000000) (hv:v<=100000):PSpec Tryz.prog 199 [aV a,.int .i64 (v:Int)] (egsN (sOut a.es (fun _=>true) v)):=by
 have hs:(froms a.es).Pairwise (· <= ·):=by rw[List.pairwise_map];exact h.srt
 have hb:∀e∈a.es,e.1<=1000000:=fun e he=>by have:=(h.esn e he).1;have:=h.n5;omega
 have f1:=find67 a.es v hs hb (by omega) hel
 have f2:=find67b a.es (v+1) hs hb (by omega) hel
 have e1:((v+1:Nat):Int)=(v:Int)+1:=by omega
 rw[e1]at f2
 have ho:=Qnf h.srt v
 have l1:=lb_le (l:=froms a.es) (t:=v+1)
 rw[List.length_map]at l1
 have hm:lbN (froms a.es) v<=lbN (froms a.es) (v+1):=List.countP_mono_left fun x _ hx=>by simp at hx⊢;omega
 generalize (froms a.es).contains v=b1 at*
 generalize (froms a.es).contains (v+1)=b2 at*
 generalize lbN (froms a.es) v=p at*
 generalize lbN (froms a.es) (v+1)=q at*
 have hlen:q-p=(sOut a.es (fun _=>true) v).length:=by rw[<-ho,List.length_take,List.length_drop];omega
 have hpq:(p:Int)<=(q:Int):=by omega
 have hql:(q:Int)<=(a.es.length:Int):=by omega
 refine PSpec.of_rn 64 ok199 rfl (by(try simp only[noRefs,QaZ,QaM,QaO,Qac,Qat,Qaf,QaA,QaW,Qas,noRef,Bool.and_self,Bool.and_true])<;>rfl) (Qao _) ?_
 simp(disch:=first|omega|(simp only[lenW]<;>omega)) only[s199,wW,wV,simprocAttr]
 refine cp f1 ?_
 simp(disch:=first|omega|(simp only[lenW]<;>omega)) only[wW,wV,simprocAttr]
 refine cp f2 ?_
 simp(disch:=first|omega|(simp only[lenW]<;>omega)) only[hpq,hql,wW,wV,simprocAttr]
 refine⟨.inr trivial,_,rfl,?_⟩
 rw[Qiz,QiA,ho,hlen]
 exact Rn.same (Qao _)
end Go.AM.SE
namespace Go.AM.SE
open Go.Proofs Go.AM.SD
abbrev rsA (a:Aut):List AV:=[sliN a.al,.int .i64 (a.n:Int),sliN a.ms,egsN a.es]
abbrev rsN:List AV:=[.nilsl,.int .i64 0,.nilsl,.nilsl]
end Go.AM.SE
namespace Go.AM.SE
open Go.Proofs Go.AM.SD
def pl (n:Nat) (o:List Nat):List Int:=(List.range n).map fun x=>if o.contains x then((SD.idx o x:Nat):Int)else-1
theorem Qhg {n:Nat} {o:List Nat}:(pl n o).length=n:=by simp[pl]
theorem Qhh {n:Nat} {o:List Nat} {x:Nat} (hx:x<n):(pl n o).getD x 0=if o.contains x then((SD.idx o x:Nat):Int)else-1:=by
 unfold pl;rw[List.getD_eq_getElem?_getD,List.getElem?_map,List.getElem?_range hx];rfl
theorem Qng {n:Nat} {o:List Nat} {x:Nat} (hx:x∉o):(pl n o).set x (o.length:Int)=pl n (o++[x]):=by
 refine List.ext_getElem (by simp[pl]) fun j h1 h2=>?_
 have hj:j<n:=by simpa[pl]using h2
 rw[List.getElem_set]
 simp only[pl,List.getElem_map,List.getElem_range]
 by_cases e:x=j
 ·subst e
  rw[if_pos rfl,if_pos (by simp),SD.Qfx hx]
 ·rw [if_neg e]
  by_cases hm:j∈o
  ·rw[if_pos (by simpa using hm),if_pos (by simp[hm]),SD.Qfw hm]
  ·have e2 : ¬ j = x := fun h => e h.symm
   rw[if_neg (by simpa using hm),if_neg (by simp[hm,e2])]
theorem Qn5 {n:Nat} (h0:0<n):(List.replicate n (-1:Int)).set 0 0=pl n [0]:=by
 refine List.ext_getElem (by simp[pl]) fun j h1 h2=>?_
 have hj:j<n:=by simpa[pl]using h2
 rw[List.getElem_set]
 simp only[pl,List.getElem_map,List.getElem_range,List.getElem_replicate]
 by_cases e:0=j
 ·subst e;rw[if_pos rfl,if_pos (by simp)];rfl
 ·have e2 : ¬ j = 0 := fun h => e h.symm
  rw[if_neg e,if_neg (by simp[e2])]
abbrev cnB (a:Aut) (m e:Nat):List AV:=[.sl 83 0 0 a.al.length 1,.int .i64 0,.sl 77 0 0 m 1,.sl 76 0 0 e 3]
abbrev tru:Nat->Bool:=fun _=>true
theorem canonical44 (a : Aut) (h : WfA a) (hel : a.es.length <= 1000000) : PSpec Tryz.prog 150 [aV a] (aV (restr a tru)) := by
  have hn5:=h.n5
  have hal:a.al.length<=32:=Qbk 32 a.al (by rw[List.nodup_iff_pairwise_ne];exact h.al.imp fun h=>by omega) h.al5
  have hml:a.ms.length<=a.n:=Qbk a.n a.ms h.nd h.msn
  have hmsP:a.ms.Pairwise (· <= ·):=h.ms.imp fun h=>by omega
  have hn':(a.n:Int)<=140737488355328:=by omega
  have hn8:(8:Int)*(a.n:Int)<=140737488355328:=by omega
  refine PSpec.of_rn 40 ok150 rfl (by(try simp only[noRefs,QaZ,QaM,QaO,Qac,Qat,Qaf,QaA,QaW,Qas,noRef,Bool.and_self,Bool.and_true])<;>rfl) (Qn2 _) ?_
  simp(disch:=first|omega|(simp only[lenW]<;>omega)) only[s150,wW,wV,simprocAttr]
  refine ch (HSpec.of_O (b:=83) (by(try simp only[noRefs,QaZ,QaM,QaO,Qac,Qat,Qaf,QaA,QaW,Qas,noRef,Bool.and_self,Bool.and_true])<;>rfl) (clone56 a.al (by omega)) (by repeat (first|exact Fresh.e|exact Fresh.le (by assumption) (by omega)|refine Fresh.set ?_ (by omega) (by omega))) rfl) ?_
  by_cases h0:a.n=0
  · have h0' : (a.n : Int) = 0 := by omega
    have e:sAll a tru=([],[]):=by unfold sAll;rw[h0];rfl
    have hr:restr a tru=⟨a.al,0,[],[]⟩:=by unfold restr;rw[e];rfl
    simp(disch:=first|omega|(simp only[lenW]<;>omega)) only[h0',wW,wV,simprocAttr]
    refine⟨.inr trivial,_,rfl,?_⟩
    rw[hr]
    exact Rn.agg (RnL.cons (Rn.fz0 (g:=0) rfl (by simp[ints]) (RnL.same (Qac _))) (RnL.cons (Rn.same rfl) (RnL.cons Rn.nilK (RnL.cons Rn.nilK RnL.nil))))
  have h0':¬(a.n:Int)=0:=by omega
  have h0p:0<a.n:=by omega
  have h0n:(0:Int)<(a.n:Int):=by omega
  simp(disch:=first|omega|(simp only[lenW]<;>omega)) only[h0',hn',hn8,Qn3,wW,wV,simprocAttr]
  refine QaB 100 (fun i:Nat=>[(1,.ptr 50 0 0),(2,.ptr 60 0 0),(3,.ptr 69 0 0),(4,.sl 78 0 0 a.n 1),(24,.int .i64 a.n),(25,.int .i64 i)])
    (fun i=>[(50,.cells 0 (rsA a)),(60,.cells 0 rsN),(69,.cells 0 [.sl 83 0 0 a.al.length 1,.int .i64 0,.nilsl,.nilsl]),(83,.cells 0 (ints (nz a.al))),(78,.cells 0 (ints (List.replicate i (-1)++List.replicate (a.n-i) 0)))])
    (fun i=>i<=a.n) (fun i=>a.n-i) 0 0 120
    (fun _:Unit=>[(1,.ptr 50 0 0),(2,.ptr 60 0 0),(3,.ptr 69 0 0),(4,.sl 78 0 0 a.n 1)])
    (fun _=>[(50,.cells 0 (rsA a)),(60,.cells 0 rsN),(69,.cells 0 [.sl 83 0 0 a.al.length 1,.int .i64 0,.nilsl,.nilsl]),(83,.cells 0 (ints (nz a.al))),(78,.cells 0 (ints (List.replicate a.n (-1))))]) (fun _=>True) ?_ (Nat.zero_le _) ?_ ?_
  · exact⟨[(50,.blk 40 0),(60,.blk 41 0),(69,.blk 46 0),(83,.blk 83 0),(78,.blk 53 0)],rfl,au0,au5,au6⟩
  · rintro i hi
    by_cases hlt:i<a.n
    · have h1 : i + 1 <= i + (a.n - i) := by omega
      simp(disch:=first|omega|(simp only[lenW]<;>omega)) only[hlt,h1,QeD,Qna hlt,wW,wV,simprocAttr]
      exact⟨i+1,by omega,by omega,⟨[(50,.blk 50 0),(60,.blk 60 0),(69,.blk 69 0),(83,.blk 83 0),(78,.blk 78 0)],rfl,au0,au5,au6⟩⟩
    · have e : i = a.n := by omega
      subst e
      have e2:List.replicate a.n (-1:Int)++List.replicate (a.n-a.n) 0=List.replicate a.n (-1):=by simp
      simp(disch:=first|omega|(simp only[lenW]<;>omega)) only[hlt,wW,wV,simprocAttr]
      refine⟨(),?_⟩
      rw[e2]
      exact⟨[(50,.blk 50 0),(60,.blk 60 0),(69,.blk 69 0),(83,.blk 83 0),(78,.blk 78 0)],rfl,au0,au5,au6⟩
  rintro _ _
  have hp1:1<=a.n:=h0p
  have hps:=Qn5 h0p
  simp(disch:=first|omega|(simp only[lenW]<;>omega)) only[h0n,hp1,QeD,hps,wW,wV,simprocAttr]
  have hsi:SI a.n a.es tru 0 (([0],[]):OE):=⟨⟨by simp,fun x hx=>by simp at hx;omega⟩,fun _ _=>rfl,Nat.zero_le _,fun j v hj=>by omega,by simp⟩
  have hq0:sQ a.es tru (a.n+1) 0 ([0],[])=sAll a tru:=by
    unfold sAll;rw[if_pos (by simp[h0p])]
  refine QaB 180 (fun t:Nat×OE=>[(1,.ptr 50 0 0),(2,.ptr 60 0 0),(3,.ptr 69 0 0),(4,.sl 78 0 0 a.n 1),(6,.sl 75 0 0 t.2.1.length 1),(7,.int .i64 t.1)])
    (fun t=>[(50,.cells 0 (rsA a)),(60,.cells 0 rsN),(69,.cells 0 (cnB a (mks a t.1 t.2.1).length t.2.2.length)),(83,.cells 0 (ints (nz a.al))),(78,.cells 0 (ints (pl a.n t.2.1))),(75,.cells 0 (ints (nz t.2.1))),(76,.cells 0 (t.2.2.flatMap edC)),(77,.cells 0 (ints (nz (mks a t.1 t.2.1))))])
    (fun t=>t.1<=a.n/\SI a.n a.es tru t.1 t.2/\t.2.2.length<=t.1*1000000/\sQ a.es tru (a.n+1-t.1) t.1 t.2=sAll a tru) (fun t=>a.n+1-t.1) (0,([0],[])) 2 260
    (fun _:Unit=>[(2,.ptr 60 0 0),(3,.ptr 69 0 0),(6,.sl 75 0 0 (sAll a tru).1.length 1)])
    (fun _=>[(60,.cells 0 rsN),(69,.cells 0 (cnB a (restr a tru).ms.length (restr a tru).es.length)),(83,.cells 0 (ints (nz a.al))),(75,.cells 0 (ints (nz (sAll a tru).1))),(76,.cells 0 ((restr a tru).es.flatMap edC)),(77,.cells 0 (ints (nz (restr a tru).ms)))]) (fun _=>True) ?_ ⟨Nat.zero_le _,hsi,Nat.zero_le _,hq0⟩ ?_ ?_
  · dsimp only
    have hms0:mks a 0 [0]=[]:=rfl
    rw[hms0]
    exact⟨[(50,.blk 50 0),(60,.blk 60 0),(69,.blk 69 0),(83,.blk 83 0),(78,.blk 78 0),(75,.blk 123 0),(76,.nil),(77,.nil)],rfl,au0,au5,au6⟩
  · rintro ⟨i, s⟩ ⟨hi, hsi, hsl, hq⟩
    dsimp only at hi hsi hsl hq⊢
    have hfl:=hsi.fi.len
    have hile:=hsi.le
    by_cases hlt:i<s.1.length
    · obtain ⟨v, hv⟩ := Qal hlt
      have hvn:=hsi.fi.lt v (List.mem_of_getElem? hv)
      have hin':i<a.n:=by omega
      have hsi':=hsi.step h.esn hv
      have hq':sQ a.es tru (a.n+1-(i+1)) (i+1) (sRow a.es tru i v s)=sAll a tru:=by
        rw[<-hq,show a.n+1-i=(a.n+1-(i+1))+1 by omega]
        simp only[sQ,hv]
      have hrow:=fun j=>QeB (n:=a.n) (left:=tru) i ((sOut a.es tru v).take j) s (fun e he=>⟨(h.esn e (Qby.1 (List.mem_of_mem_take he)).1).2,rfl⟩) hsi.fi hsi.lft
      have hol:=QgA a.es tru v
      have hmn:=Qn4 (a:=a) hv
      have hmsl:=@QoE a i s.1
      have hmapp:mks a (i+1) (sRow a.es tru i v s).1=mks a (i+1) s.1:=by
        obtain⟨_,_,⟨t,ht⟩,_⟩:=QeB (n:=a.n) (left:=tru) i (sOut a.es tru v) s (fun e he=>⟨(h.esn e (Qby.1 he).1).2,rfl⟩) hsi.fi hsi.lft
        have ht:(sRow a.es tru i v s).1=s.1++t:=ht
        rw[ht,QoF (by omega)]
      have hc:=find57 a.ms v hmsP (by omega)
      have ho:=out58 a v h hel (by omega)
      generalize hM0:mks a i s.1=M0 at*
      generalize hM:mks a (i+1) s.1=M at*
      simp(disch:=first|omega|(simp only[lenW]<;>omega)) only[hlt,Qgz (nz_at hv),wW,wV,simprocAttr]
      refine cp hc ?_
      by_cases hmv:a.ms.contains v=true
      · rw [if_pos hmv] at hmn
        rw[hmv]
        simp(disch:=first|omega|(simp only[lenW]<;>omega)) only[hlt,Qgz (nz_at hv),wW,wV,simprocAttr]
        refine cp ho ?_
        simp(disch:=first|omega|(simp only[lenW]<;>omega)) only[wW,wV,simprocAttr]
        refine QaB 300 (fun j:Nat=>[(1,.ptr 50 0 0),(2,.ptr 60 0 0),(3,.ptr 69 0 0),(4,.sl 78 0 0 a.n 1),(6,.sl 75 0 0 (((sOut a.es tru v).take j).foldl (sEd i) s).1.length 1),(7,.int .i64 i),(63,egsN (sOut a.es tru v)),(64,.int .i64 (sOut a.es tru v).length),(65,.int .i64 j)])
          (fun j=>[(50,.cells 0 (rsA a)),(60,.cells 0 rsN),(69,.cells 0 (cnB a M.length (((sOut a.es tru v).take j).foldl (sEd i) s).2.length)),(83,.cells 0 (ints (nz a.al))),(78,.cells 0 (ints (pl a.n (((sOut a.es tru v).take j).foldl (sEd i) s).1))),(75,.cells 0 (ints (nz (((sOut a.es tru v).take j).foldl (sEd i) s).1))),(76,.cells 0 ((((sOut a.es tru v).take j).foldl (sEd i) s).2.flatMap edC)),(77,.cells 0 (ints (nz M)))])
          (fun j=>j<=(sOut a.es tru v).length) (fun j=>(sOut a.es tru v).length-j) 0 4 400
          (fun _:Unit=>[(1,.ptr 50 0 0),(2,.ptr 60 0 0),(3,.ptr 69 0 0),(4,.sl 78 0 0 a.n 1),(6,.sl 75 0 0 (sRow a.es tru i v s).1.length 1),(7,.int .i64 i)])
          (fun _=>[(50,.cells 0 (rsA a)),(60,.cells 0 rsN),(69,.cells 0 (cnB a M.length (sRow a.es tru i v s).2.length)),(83,.cells 0 (ints (nz a.al))),(78,.cells 0 (ints (pl a.n (sRow a.es tru i v s).1))),(75,.cells 0 (ints (nz (sRow a.es tru i v s).1))),(76,.cells 0 ((sRow a.es tru i v s).2.flatMap edC)),(77,.cells 0 (ints (nz M)))]) (fun _=>True) ?_ (Nat.zero_le _) ?_ ?_
        · rw [hmn, List.length_append, Qbn, Qa3]
          exact⟨[(50,.blk 50 0),(60,.blk 60 0),(69,.blk 69 0),(83,.blk 83 0),(78,.blk 78 0),(75,.blk 75 0),(76,.blk 76 0),(77,.blk 77 1)],rfl,au0,au5,au6⟩
        · rintro j hj
          by_cases hjl:j<(sOut a.es tru v).length
          · obtain ⟨e, he⟩ := Qal hjl
            have hem:=Qby.1 (List.mem_of_getElem? he)
            have hto:=(h.esn e hem.1).2
            obtain⟨k1,_,_,_,_⟩:=hrow j
            have hfi:=k1.len
            have hstep:=Qix (i:=i) (s:=s) he
            have hsl2:=QdP (i:=i) ((sOut a.es tru v).take j) s
            rw[List.length_take]at hsl2
            generalize (((sOut a.es tru v).take j).foldl (sEd i) s)=t at*
            have hel2:=Qfm t.2
            have hpl:=Qhg (n:=a.n) (o:=t.1)
            have hpg:=Qhh (o:=t.1) hto
            have hpt:e.2.2<(pl a.n t.1).length:=by omega
            have hp1:e.2.2+1<=(pl a.n t.1).length:=by omega
            by_cases hc:e.2.2∈t.1
            · have h2 : sEd i t e = (t.1, t.2 ++ [(i, e.2.1, SD.idx t.1 e.2.2)]) := if_pos (by simpa using hc)
              rw[h2]at hstep
              rw[if_pos (by simpa using hc)]at hpg
              have h3:¬((SD.idx t.1 e.2.2:Nat):Int)<0:=by omega
              generalize SD.idx t.1 e.2.2=q at*
              simp(disch:=first|omega|(simp only[lenW]<;>omega)) only[hjl,Qbb he,hto,Qcw hpt,hpg,h3,hel2,wW,wV,simprocAttr]
              refine⟨j+1,by omega,by omega,?_⟩
              rw[hstep,List.flatMap_append,List.length_append]
              exact⟨[(50,.blk 50 0),(60,.blk 60 0),(69,.blk 69 0),(83,.blk 83 0),(78,.blk 78 0),(75,.blk 75 0),(76,.blk 76 1),(77,.blk 77 0)],rfl,au0,au5,au6⟩
            · have h2 : sEd i t e = (t.1 ++ [e.2.2], t.2 ++ [(i, e.2.1, t.1.length)]) := if_neg (by simpa using hc)
              rw[h2]at hstep
              rw[if_neg (by simpa using hc)]at hpg
              have hps:=Qng (n:=a.n) hc
              have h3:(-1:Int)<0:=by decide
              have hpl2:e.2.2<(pl a.n (t.1++[e.2.2])).length:=by rw[Qhg];exact hto
              have hpg2:(pl a.n (t.1++[e.2.2])).getD e.2.2 0=(t.1.length:Int):=by
                rw[Qhh hto,if_pos (by simp),SD.Qfx hc]
              simp(disch:=first|omega|(simp only[lenW]<;>omega)) only[hjl,Qbb he,hto,Qcw hpt,hpg,h3,hel2,hp1,QeD,hps,Qcw hpl2,hpg2,wW,wV,simprocAttr]
              refine⟨j+1,by omega,by omega,?_⟩
              rw[hstep,List.flatMap_append,List.length_append]
              dsimp only
              rw[List.length_append,Qbn,Qa3]
              exact⟨[(50,.blk 50 0),(60,.blk 60 0),(69,.blk 69 0),(83,.blk 83 0),(78,.blk 78 0),(75,.blk 75 1),(76,.blk 76 1),(77,.blk 77 0)],rfl,au0,au5,au6⟩
          · have e : j = (sOut a.es tru v).length := by omega
            subst e
            simp(disch:=first|omega|(simp only[lenW]<;>omega)) only[hjl,wW,wV,simprocAttr]
            refine⟨(),?_⟩
            exact⟨[(50,.blk 50 0),(60,.blk 60 0),(69,.blk 69 0),(83,.blk 83 0),(78,.blk 78 0),(75,.blk 75 0),(76,.blk 76 0),(77,.blk 77 0)],rfl,au0,au5,au6⟩
        rintro _ _
        have hsl3:(sRow a.es tru i v s).2.length=s.2.length+(sOut a.es tru v).length:=QdP _ _
        have hol3:=QgA a.es tru v
        simp(disch:=first|omega|(simp only[lenW]<;>omega)) only[wW,wV,simprocAttr]
        refine⟨(i+1,sRow a.es tru i v s),by dsimp only;omega,⟨hin',hsi',by dsimp only;omega,hq'⟩,?_⟩
        dsimp only
        rw[hmapp]
        exact⟨[(50,.blk 50 0),(60,.blk 60 0),(69,.blk 69 0),(83,.blk 83 0),(78,.blk 78 0),(75,.blk 75 0),(76,.blk 76 0),(77,.blk 77 0)],rfl,au0,au5,au6⟩
      · rw [if_neg hmv, List.append_nil] at hmn
        rw[Bool.not_eq_true]at hmv
        rw[hmv]
        simp(disch:=first|omega|(simp only[lenW]<;>omega)) only[hlt,Qgz (nz_at hv),wW,wV,simprocAttr]
        refine cp ho ?_
        simp(disch:=first|omega|(simp only[lenW]<;>omega)) only[wW,wV,simprocAttr]
        refine QaB 300 (fun j:Nat=>[(1,.ptr 50 0 0),(2,.ptr 60 0 0),(3,.ptr 69 0 0),(4,.sl 78 0 0 a.n 1),(6,.sl 75 0 0 (((sOut a.es tru v).take j).foldl (sEd i) s).1.length 1),(7,.int .i64 i),(63,egsN (sOut a.es tru v)),(64,.int .i64 (sOut a.es tru v).length),(65,.int .i64 j)])
          (fun j=>[(50,.cells 0 (rsA a)),(60,.cells 0 rsN),(69,.cells 0 (cnB a M.length (((sOut a.es tru v).take j).foldl (sEd i) s).2.length)),(83,.cells 0 (ints (nz a.al))),(78,.cells 0 (ints (pl a.n (((sOut a.es tru v).take j).foldl (sEd i) s).1))),(75,.cells 0 (ints (nz (((sOut a.es tru v).take j).foldl (sEd i) s).1))),(76,.cells 0 ((((sOut a.es tru v).take j).foldl (sEd i) s).2.flatMap edC)),(77,.cells 0 (ints (nz M)))])
          (fun j=>j<=(sOut a.es tru v).length) (fun j=>(sOut a.es tru v).length-j) 0 4 400
          (fun _:Unit=>[(1,.ptr 50 0 0),(2,.ptr 60 0 0),(3,.ptr 69 0 0),(4,.sl 78 0 0 a.n 1),(6,.sl 75 0 0 (sRow a.es tru i v s).1.length 1),(7,.int .i64 i)])
          (fun _=>[(50,.cells 0 (rsA a)),(60,.cells 0 rsN),(69,.cells 0 (cnB a M.length (sRow a.es tru i v s).2.length)),(83,.cells 0 (ints (nz a.al))),(78,.cells 0 (ints (pl a.n (sRow a.es tru i v s).1))),(75,.cells 0 (ints (nz (sRow a.es tru i v s).1))),(76,.cells 0 ((sRow a.es tru i v s).2.flatMap edC)),(77,.cells 0 (ints (nz M)))]) (fun _=>True) ?_ (Nat.zero_le _) ?_ ?_
        · rw [hmn]
          exact⟨[(50,.blk 50 0),(60,.blk 60 0),(69,.blk 69 0),(83,.blk 83 0),(78,.blk 78 0),(75,.blk 75 0),(76,.blk 76 0),(77,.blk 77 0)],rfl,au0,au5,au6⟩
        · rintro j hj
          by_cases hjl:j<(sOut a.es tru v).length
          · obtain ⟨e, he⟩ := Qal hjl
            have hem:=Qby.1 (List.mem_of_getElem? he)
            have hto:=(h.esn e hem.1).2
            obtain⟨k1,_,_,_,_⟩:=hrow j
            have hfi:=k1.len
            have hstep:=Qix (i:=i) (s:=s) he
            have hsl2:=QdP (i:=i) ((sOut a.es tru v).take j) s
            rw[List.length_take]at hsl2
            generalize (((sOut a.es tru v).take j).foldl (sEd i) s)=t at*
            have hel2:=Qfm t.2
            have hpl:=Qhg (n:=a.n) (o:=t.1)
            have hpg:=Qhh (o:=t.1) hto
            have hpt:e.2.2<(pl a.n t.1).length:=by omega
            have hp1:e.2.2+1<=(pl a.n t.1).length:=by omega
            by_cases hc:e.2.2∈t.1
            · have h2 : sEd i t e = (t.1, t.2 ++ [(i, e.2.1, SD.idx t.1 e.2.2)]) := if_pos (by simpa using hc)
              rw[h2]at hstep
              rw[if_pos (by simpa using hc)]at hpg
              have h3:¬((SD.idx t.1 e.2.2:Nat):Int)<0:=by omega
              generalize SD.idx t.1 e.2.2=q at*
              simp(disch:=first|omega|(simp only[lenW]<;>omega)) only[hjl,Qbb he,hto,Qcw hpt,hpg,h3,hel2,wW,wV,simprocAttr]
              refine⟨j+1,by omega,by omega,?_⟩
              rw[hstep,List.flatMap_append,List.length_append]
              exact⟨[(50,.blk 50 0),(60,.blk 60 0),(69,.blk 69 0),(83,.blk 83 0),(78,.blk 78 0),(75,.blk 75 0),(76,.blk 76 1),(77,.blk 77 0)],rfl,au0,au5,au6⟩
            · have h2 : sEd i t e = (t.1 ++ [e.2.2], t.2 ++ [(i, e.2.1, t.1.length)]) := if_neg (by simpa using hc)
              rw[h2]at hstep
              rw[if_neg (by simpa using hc)]at hpg
              have hps:=Qng (n:=a.n) hc
              have h3:(-1:Int)<0:=by decide
              have hpl2:e.2.2<(pl a.n (t.1++[e.2.2])).length:=by rw[Qhg];exact hto
              have hpg2:(pl a.n (t.1++[e.2.2])).getD e.2.2 0=(t.1.length:Int):=by
                rw[Qhh hto,if_pos (by simp),SD.Qfx hc]
              simp(disch:=first|omega|(simp only[lenW]<;>omega)) only[hjl,Qbb he,hto,Qcw hpt,hpg,h3,hel2,hp1,QeD,hps,Qcw hpl2,hpg2,wW,wV,simprocAttr]
              refine⟨j+1,by omega,by omega,?_⟩
              rw[hstep,List.flatMap_append,List.length_append]
              dsimp only
              rw[List.length_append,Qbn,Qa3]
              exact⟨[(50,.blk 50 0),(60,.blk 60 0),(69,.blk 69 0),(83,.blk 83 0),(78,.blk 78 0),(75,.blk 75 1),(76,.blk 76 1),(77,.blk 77 0)],rfl,au0,au5,au6⟩
          · have e : j = (sOut a.es tru v).length := by omega
            subst e
            simp(disch:=first|omega|(simp only[lenW]<;>omega)) only[hjl,wW,wV,simprocAttr]
            refine⟨(),?_⟩
            exact⟨[(50,.blk 50 0),(60,.blk 60 0),(69,.blk 69 0),(83,.blk 83 0),(78,.blk 78 0),(75,.blk 75 0),(76,.blk 76 0),(77,.blk 77 0)],rfl,au0,au5,au6⟩
        rintro _ _
        have hsl3:(sRow a.es tru i v s).2.length=s.2.length+(sOut a.es tru v).length:=QdP _ _
        have hol3:=QgA a.es tru v
        simp(disch:=first|omega|(simp only[lenW]<;>omega)) only[wW,wV,simprocAttr]
        refine⟨(i+1,sRow a.es tru i v s),by dsimp only;omega,⟨hin',hsi',by dsimp only;omega,hq'⟩,?_⟩
        dsimp only
        rw[hmapp]
        exact⟨[(50,.blk 50 0),(60,.blk 60 0),(69,.blk 69 0),(83,.blk 83 0),(78,.blk 78 0),(75,.blk 75 0),(76,.blk 76 0),(77,.blk 77 0)],rfl,au0,au5,au6⟩
    · have hv : s.1[i]? = none := List.getElem?_eq_none (by omega)
      have hqf:s=sAll a tru:=by
        rw[<-hq,show a.n+1-i=(a.n-i)+1 by omega]
        simp only[sQ,hv]
      have hil:i=s.1.length:=by omega
      have hmf:mks a i s.1=(restr a tru).ms:=by rw[hil,hqf];rfl
      have hef:s.2=(restr a tru).es:=by rw[hqf];rfl
      simp(disch:=first|omega|(simp only[lenW]<;>omega)) only[hlt,wW,wV,simprocAttr]
      refine⟨(),?_⟩
      rw[hmf,hef,<-hqf]
      exact⟨[(60,.blk 60 0),(69,.blk 69 0),(83,.blk 83 0),(75,.blk 75 0),(76,.blk 76 0),(77,.blk 77 0)],rfl,au0,au5,au6⟩
  rintro _ _
  have hra:(restr a tru).al=a.al:=rfl
  have hrn2:(restr a tru).n=(sAll a tru).1.length:=rfl
  simp(disch:=first|omega|(simp only[lenW]<;>omega)) only[wW,wV,simprocAttr]
  refine⟨.inr trivial,_,rfl,?_⟩
  exact Rn.agg (RnL.cons (Rn.fz0 (g:=0) rfl (by simp[ints,hra]) (RnL.same (Qac _))) (RnL.cons (Rn.same rfl) (RnL.cons (Rn.fz0 (g:=0) rfl (by simp[ints]) (RnL.same (Qac _))) (RnL.cons (Rn.fz0 (g:=0) rfl (Qfm _) (RnL.same (Qaf _))) RnL.nil))))
end Go.AM.SE
namespace Go.AM.SO
open Go.Proofs Go.AM.SD Go.AM.SE
theorem check112 (a:Aut) (h:WfA a) (hel:a.es.length<=1000000):PSpec Tryz.prog 112 [aV a] (.int .i64 0):=by
 have:=check37 (au a) (WfA.auOk h hel)
 rwa [Qm7]at this
end Go.AM.SO
namespace Go.AM.SK
open Go.Proofs
set_option maxHeartbeats 4000000
noncomputable section
def cf:YA.Cf:={}
noncomputable def ft:FT2:=YA.tre Tryz.prog cf 20 [15,16,17,18,19,21,28,31,32,33,36,38,41,45,48,60,68,69,70,71,72,73,74,75,76,77,82,83,84,85,90,95,96,97,98,99,100,101,102,103,104,105,106,110,111,112,115,135,144,148,149,150,154,155,156,157,158,159,160,161,162,163,164,166,167,168,169,183,184,187,188,189,190,192,193,195,197,198,199,200,201,202,203,204,205,206,207,208,209,218,219,223,226,227,228,229,230,232,233,234,235,236,242,251,263]
theorem ft_ok:ft.OK Tryz.prog:=YA.Qfc _ _ (YA.Qew (by kernel_rfl))
end
end Go.AM.SK
namespace Go.AM.SO
open Go.Proofs Go.AM.SD Go.AM.SE
structure Evt where
 c:Bool
 o:Bool
 f:Bool
 flt:Nat
end Go.AM.SO
namespace Go.AM.SO
open Go.Proofs Go.AM.SD Go.AM.SE
abbrev yes:List UInt8->AV:=fun _=> .bool true
theorem QgB {x:List UInt8}:updS yes x (.bool true)=yes:=by
 funext y;simp[updS]
end Go.AM.SO
namespace Go.AM.SO
open Go.Proofs Go.AM.SD Go.AM.SE
def itC (ch:UInt8) (x:Nat×Aut):List AV:=[.str [ch,UInt8.ofNat (48+x.1)],sliN x.2.al,.int .i64 (x.2.n:Int),sliN x.2.ms,egsN x.2.es]
def loC (x:Nat×Nat):List AV:=[.int .i64 (x.1:Int),.int .i64 (x.2:Int)]
abbrev los (l:List (Nat×Nat)):AV:= .fsl (l.flatMap loC) l.length 2
def exC (x:Nat×List (Nat×Nat)):List AV:=[.str [101,UInt8.ofNat (48+x.1)],los x.2]
def teC (x:Nat×Int):List AV:=[.int .i64 (x.1:Int),.int .i64 x.2]
abbrev tes (l:List (Nat×Int)):AV:= .fsl (l.flatMap teC) l.length 2
def coC (x:List (Nat×Int)×Int):List AV:=[.str [107],tes x.1,.int .i64 x.2]
abbrev exs (l:List (Nat×List (Nat×Nat))):AV:= .fsl (l.flatMap exC) l.length 2
abbrev cos (l:List (List (Nat×Int)×Int)):AV:= .fsl (l.flatMap coC) l.length 3
structure WfJ (a:Aut):Prop where
 wf:WfA a
 pos:0<a.n
 n10:a.n<=10
structure Pln where
 L:List Nat
 X:List Nat
 xn:Nat
 f0:Int
 f1:Int
 f2:Int
 bd:Int
variable (p:Pln)
variable {p}
end Go.AM.SO
namespace Go.AM.SO
open Go.Proofs Go.AM.SD Go.AM.SE
def stp (l:List Aut) (t:List Nat) (e:Nat):Nat->Option (List Nat)
 |0=>some t
 | k + 1 => match stp l t e k with
  |none=>none
  |some n=>match l[k]? with
   |none=>some n
   |some a=>if e∈a.al then(match stepA a.es (t.getD k 0) e with|some to=>some (n.set k to)|none=>none)else some n
def stepT (l:List Aut) (t:List Nat) (e:Nat):Option (List Nat):=stp l t e l.length
def Stp (l:List Aut) (t:List Nat) (e:Nat) (n:List Nat) (k:Nat):Prop:=
 n.length=t.length/\(∀i,k<=i->n[i]?=t[i]?)/\∀i a,i<k->l[i]?=some a->if e∈a.al then stepA a.es (t.getD i 0) e=n[i]? else n[i]?=t[i]?
theorem QeE {l : List Aut} {t n : List Nat} {e : Nat} : ∀ {k : Nat}, k <= l.length -> l.length <= t.length -> (stp l t e k = some n ↔ Stp l t e n k)
  | 0, _, _ => by
    unfold stp Stp
    constructor
    · simp_all
    · rintro ⟨_, h, _⟩
      have:t=n:=List.ext_getElem? fun i=>(h i (Nat.zero_le _)).symm
      rw[this]
  | k + 1, hk, hl => by
    obtain⟨a,ha⟩:=Qal (l:=l) (i:=k) (by omega)
    have hkt:k<t.length:=by omega
    unfold stp
    rw[ha]
    constructor
    · intro h
      cases hm:stp l t e k with
      |none=>rw[hm]at h;cases h
      | some m =>
        rw[hm]at h
        dsimp only at h
        obtain⟨h1,h2,h3⟩:=(QeE (n:=m) (by omega) hl).1 hm
        by_cases he:e∈a.al
        · rw [if_pos he] at h
          cases hs:stepA a.es (t.getD k 0) e with
          |none=>rw[hs]at h;cases h
          | some to =>
            rw[hs]at h;cases h
            refine⟨by simp_all,fun i hi=>by grind,fun i b hi hb=>?_⟩
            by_cases hik:i=k
            · simp_all
            · rw [List.getElem?_set_ne (by omega)]
              exact h3 i b (by omega) hb
        · rw [if_neg he] at h; cases h
          refine⟨h1,fun i hi=>h2 i (by omega),fun i b hi hb=>?_⟩
          by_cases hik:i=k
          · grind
          · exact h3 i b (by omega) hb
    · rintro ⟨h1, h2, h3⟩
      have hka:=h3 k a (Nat.lt_succ_self _) ha
      by_cases he:e∈a.al
      · rw [if_pos he] at hka
        have hS:Stp l t e (n.set k (t.getD k 0)) k:=by
          refine⟨by simp_all,fun i hi=>?_,fun i b hi hb=>?_⟩
          · grind
          · rw[List.getElem?_set_ne (by omega)];exact h3 i b (by omega) hb
        rw[(QeE (n:=n.set k (t.getD k 0)) (by omega) hl).2 hS]
        simp_all
      · rw [if_neg he] at hka
        have hS:Stp l t e n k:=⟨h1,fun i hi=>by
          grind,fun i b hi hb=>h3 i b (by omega) hb⟩
        rw[(QeE (n:=n) (by omega) hl).2 hS]
        simp_all
theorem Qhi {l:List Aut} {t n:List Nat} {e:Nat} (hl:l.length<=t.length):stepT l t e=some n↔Stp l t e n l.length:=QeE (Nat.le_refl _) hl
def pEv (l:List Aut) (i:Nat) (t:List Nat) (s:List (List Nat)×List Ed) (e:Nat):List (List Nat)×List Ed:=
 match stepT l t e with
 |none=>s
 |some n=>(if n∈s.1 then s.1 else s.1++[n],s.2++[(i,e,s.1.findIdx (· ==n))])
def pRow (l:List Aut) (ev:List Nat) (i:Nat) (t:List Nat) (s:List (List Nat)×List Ed):List (List Nat)×List Ed:=ev.foldl (pEv l i t) s
def pQ (l:List Aut) (ev:List Nat):Nat->Nat->List (List Nat)×List Ed->List (List Nat)×List Ed
 |0,_,s=>s
 |k+1,i,s=>match s.1[i]? with
  |some t=>pQ l ev k (i+1) (pRow l ev i t s)
  |none=>s
def orE (a b:Bool):Bool:=a||b
def evA (l:List Aut):List Nat:=l.foldl (fun out a=>mrg orE out a.al) []
def mkdT:List Aut->List Nat->Bool
 |[],_=>true
 |a::l,t=>a.ms.contains (t.headD 0)&&mkdT l t.tail
def box:List Aut->Nat
 |[]=>1
 |a::l=>a.n*box l
def sync0 (l:List Aut):List (List Nat)×List Ed:=pQ l (evA l) (box l+1) 0 ([List.replicate l.length 0],[])
def syncA (l:List Aut):Aut:=⟨evA l,(sync0 l).1.length,(List.range (sync0 l).1.length).filter fun i=>mkdT l ((sync0 l).1.getD i []),(sync0 l).2⟩
def InT (l:List Aut) (t:List Nat):Prop:=t.length=l.length/\∀i a,l[i]?=some a->t.getD i 0<a.n
def allT:List Aut->List (List Nat)
 |[]=>[[]]
 |a::l=>(List.range a.n).flatMap fun x=>(allT l).map (x:: ·)
theorem Qj0:∀{l:List Aut} {t:List Nat},InT l t->t∈allT l
 |[],t,⟨h,_⟩=>by simp_all [allT]
 |a::l,[],⟨h,_⟩=>by simp at h
 |a::l,x::t,⟨h,h2⟩=>by
  unfold allT
  refine List.mem_flatMap.2 ⟨x,List.mem_range.2 (by simpa using h2 0 a rfl),List.mem_map.2 ⟨t,Qj0 ⟨by simpa using h,fun i b hb=>?_⟩,rfl⟩⟩
  simpa using h2 (i+1) b (by simpa using hb)
theorem QgC:∀(l:List Aut),(allT l).length=box l
 |[]=>rfl
 |a::l=>by
  unfold allT box
  rw[List.length_flatMap]
  simp only[List.length_map,QgC l]
  simp_all [List.map_const']
theorem Qfn {α:Type} [DecidableEq α]:∀{l m:List α},l.Nodup->(∀x∈l,x∈m)->l.length<=m.length
 |[],m,_,_=>Nat.zero_le _
 |x::l,m,h,hm=>by
  rw[List.nodup_cons]at h
  have h1:=hm x (by simp)
  have h2:=Qfn (l:=l) (m:=m.erase x) h.2 fun y hy=>(List.mem_erase_of_ne (fun(e:y=x)=>h.1 (e▸hy))).2 (hm y (by simp[hy]))
  grind
theorem QcJ {l:List Aut} {T:List (List Nat)} (hn:T.Nodup) (hi:∀t∈T,InT l t):T.length<=box l:=by
 rw[<-QgC]
 exact Qfn hn fun t ht=>Qj0 (hi t ht)
theorem QgD {l:List Aut} (hw:∀a∈l,∀e∈a.es,e.1<a.n/\e.2.2<a.n) {t n:List Nat} {e:Nat} (ht:InT l t) (h:stepT l t e=some n):InT l n:=by
 obtain⟨h1,h2,h3⟩:=(Qhi (Nat.le_of_eq ht.1.symm)).1 h
 refine⟨by rw[h1,ht.1],fun i a ha=>?_⟩
 have hi:i<l.length:=by
  grind
 have h4:=h3 i a hi ha
 by_cases he:e∈a.al
 ·rw [if_pos he] at h4
  obtain⟨x,hx⟩:=Qal (l:=n) (i:=i) (by rw[h1,ht.1];exact hi)
  rw[hx]at h4
  rw[List.getD_eq_getElem?_getD,hx]
  exact Qn0 (hw a (List.mem_of_getElem? ha)) h4
 ·rw [if_neg he] at h4
  rw[List.getD_eq_getElem?_getD,h4,<-List.getD_eq_getElem?_getD]
  exact ht.2 i a ha
structure PI (l:List Aut) (s:List (List Nat)×List Ed):Prop where
 nd:s.1.Nodup
 inT:∀t∈s.1,InT l t
theorem Qpi {l:List Aut} (hw:∀a∈l,∀e∈a.es,e.1<a.n/\e.2.2<a.n) {i e:Nat} {t:List Nat} {s:List (List Nat)×List Ed} (ht:InT l t) (h:PI l s):PI l (pEv l i t s e):=by
 unfold pEv
 cases hs:stepT l t e with
 |none=>exact h
 | some n =>
  have hn:=QgD hw ht hs
  dsimp only
  by_cases hm:n∈s.1
  ·simp only[if_pos hm];exact⟨h.nd,h.inT⟩
  ·simp only [if_neg hm]
   refine⟨List.nodup_append.2 ⟨h.nd,by simp,fun x hx y hy=>by grind⟩,fun x hx=>?_⟩
   rcases List.mem_append.1 hx with hx|hx
   ·exact h.inT x hx
   simp_all
theorem Qdt {l:List Aut} (hw:∀a∈l,∀e∈a.es,e.1<a.n/\e.2.2<a.n) {i:Nat} {t:List Nat} (ht:InT l t):∀{ev:List Nat} {s:List (List Nat)×List Ed},PI l s->PI l (pRow l ev i t s)
 |[],s,h=>h
 |e::ev,s,h=>Qdt hw ht (ev:=ev) (Qpi hw ht h)
theorem QoG {l:List Aut} {i e:Nat} {t:List Nat} {s:List (List Nat)×List Ed}:s.1<+:(pEv l i t s e).1:=by
 grind [pEv]
theorem Qcb {l:List Aut} {i:Nat} {t:List Nat}:∀{ev:List Nat} {s:List (List Nat)×List Ed},s.1<+:(pRow l ev i t s).1
 |[],s=>List.prefix_refl _
 |e::ev,s=>List.IsPrefix.trans QoG (Qcb (ev:=ev))
theorem pQ_ok {l:List Aut} {ev:List Nat} (hw:∀a∈l,∀e∈a.es,e.1<a.n/\e.2.2<a.n):∀{k i:Nat} {s:List (List Nat)×List Ed},PI l s->PI l (pQ l ev k i s)
 |0,_,_,h=>h
 |k+1,i,s,h=>by
  unfold pQ
  cases hs:s.1[i]? with
  |none=>exact h
  |some t=>exact pQ_ok hw (Qdt hw (h.inT t (List.mem_of_getElem? hs)) h)
theorem Qhj {l:List Aut} {ev:List Nat}:∀{k i:Nat} {s:List (List Nat)×List Ed},s.1<+:(pQ l ev k i s).1
 |0,_,_=>List.prefix_refl _
 |k+1,i,s=>by
  unfold pQ
  cases hs:s.1[i]? with
  |none=>exact List.prefix_refl _
  |some t=>exact List.IsPrefix.trans Qcb Qhj
theorem QgE {l:List Aut} (h0:∀a∈l,0<a.n):PI l ([List.replicate l.length 0],[]):=by
 refine⟨by simp,fun t ht=>?_⟩
 simp at ht;subst ht
 refine⟨by simp,fun i a ha=>?_⟩
 grind
theorem Qeg {l:List Aut} (h0:∀a∈l,0<a.n) (hw:∀a∈l,∀e∈a.es,e.1<a.n/\e.2.2<a.n):PI l (sync0 l):=pQ_ok hw (QgE h0)
theorem Qn6 {l:List Aut} (h0:∀a∈l,0<a.n) (hw:∀a∈l,∀e∈a.es,e.1<a.n/\e.2.2<a.n):(sync0 l).1.length<=box l:=QcJ (Qeg h0 hw).nd (Qeg h0 hw).inT
end Go.AM.SO
namespace Go.AM.SU
open Go.Proofs Go.AM.SD Go.AM.SE
theorem chc {P:Program} {N:NM} {r:List SOper} {dead:List Nat} {fs:List Fr} {n:Nat} {T:Tmps} {h h1:Heap} {Q:QC} {d:Option Nat} {f:Nat} {args a c:List AV} {v:AV} (hp:HSpec P f (a++args++c) h v h1) (k:wR P N r dead fs (n+1) (putD T d v) h1 Q):wCall P N .heap (.fn f a c) args d r dead fs n T h Q:=⟨v,h1,hp,k⟩
end Go.AM.SU
namespace Go.AM.SU
open Go.Proofs Go.AM.SD Go.AM.SE Go.AM.SO
theorem QbK (l:List (Nat×Int)):noRefs (l.flatMap teC)=true:=QaR (fun _=>rfl) l
theorem Qpj (l:List (Nat×Int)):(l.flatMap teC).length=l.length*2:=Qbg (k:=2) (fun _=>rfl) l
theorem QoH {l:List (Nat×Int)} {i:Nat} {x:Nat×Int} (h:l[i]?=some x):(l.flatMap teC).drop (i*2)= .int .i64 (x.1:Int):: .int .i64 x.2::(l.drop (i+1)).flatMap teC:=Qbe (f:=teC) (k:=2) (fun _=>rfl) h
end Go.AM.SU
namespace Go.AM.SU
open Go.Proofs Go.AM.SD Go.AM.SE Go.AM.SO
section
variable {p:Pln}
theorem Qdd {ch:UInt8} (l:List (Nat×Aut)):noRefs (l.flatMap (itC ch))=true:=QaR (fun x=>by simp only[itC,noRefs,noRef,Qac,Qaf];rfl) l
theorem QbR (l:List (Nat×Nat)):noRefs (l.flatMap loC)=true:=QaR (fun _=>rfl) l
theorem QdY (l:List (Nat×Nat)):noRef (los l)=true:=by simp only[noRef];exact QbR l
theorem Qpk (l:List (Nat×Nat)):(l.flatMap loC).length=l.length*2:=Qbg (k:=2) (fun _=>rfl) l
theorem QdZ (l:List (Nat×List (Nat×Nat))):noRefs (l.flatMap exC)=true:=QaR (fun x=>by simp only[exC,noRefs,noRef,QbR];rfl) l
theorem Qni (l:List (Nat×List (Nat×Nat))):noRef (exs l)=true:=by simp only[noRef];exact QdZ l
theorem Qpl (l:List (Nat×List (Nat×Nat))):(l.flatMap exC).length=l.length*2:=Qbg (k:=2) (fun _=>rfl) l
theorem QiB (l:List (Nat×Int)):noRef (tes l)=true:=by simp only[noRef];exact QbK l
theorem Qd0 (l:List (List (Nat×Int)×Int)):noRefs (l.flatMap coC)=true:=QaR (fun x=>by simp only[coC,noRefs,noRef,QbK];rfl) l
theorem Qnj (l:List (List (Nat×Int)×Int)):noRef (cos l)=true:=by simp only[noRef];exact Qd0 l
theorem QaF {x y:List AV} (hx:noRefs x=true) (hy:noRefs y=true):noRefs (x++y)=true:=by rw[Qak,hx,hy];rfl
end
end Go.AM.SU
namespace Go.AM.SN
open Go.Proofs Go.AM.SD Go.AM.SE Go.AM.SO
noncomputable section
def Wk (x y:AV):Prop:=∀(ok:Okc) (c:Ctx ok) (w:World) (v:Value),VRel c w x v->VRel c w y v
def WkL:List AV->List AV->Prop
 |[],[]=>True
 |x::xs,y::ys=>Wk x y/\WkL xs ys
 |_,_=>False
theorem Wk.refl (x:AV):Wk x x:=fun _ _ _ _ h=>h
theorem Wk.any {x:AV}:Wk x .any:=fun _ _ _ _ _=>by simp[VRel]
theorem WkL.rels {ok:Okc} {c:Ctx ok} {w:World}:∀{xs ys:List AV} {vs:List Value},WkL xs ys->VRels c w xs vs->VRels c w ys vs
 |[],[],_,_,hv=>hv
 |[],_::_,_,h,_=>h.elim
 |_::_,[],_,h,_=>h.elim
 |x::xs,y::ys,vs,h,hv=>by
  simp only[VRels]at hv⊢
  obtain⟨v,vs',rfl,h1,h2⟩:=hv
  exact⟨v,vs',rfl,h.1 _ c w v h1,WkL.rels h.2 h2⟩
theorem PSpec.wk {f:Nat} {args bs:List AV} {v:AV} (hL:WkL args bs) (hn:noRefs args=true) (hp:PSpec Tryz.prog f bs v):PSpec Tryz.prog f args v:=SE.PSpec.weak (fun _ c w vs _ h=>hL.rels h) hn hp
end
end Go.AM.SN
namespace Go.AM.SO
open Go.Proofs Go.AM.SD Go.AM.SE
abbrev cdC (S:List Nat) (xs:List (Nat×List (Nat×Nat))) (ks:List (List (Nat×Int)×Int)):List AV:=[sliN S,exs xs,cos ks]
abbrev cdV (S:List Nat) (xs:List (Nat×List (Nat×Nat))) (ks:List (List (Nat×Int)×Int)):AV:= .agg (cdC S xs ks)
theorem QiC {S:List Nat} {xs:List (Nat×List (Nat×Nat))} {ks:List (List (Nat×Int)×Int)}:noRefs (cdC S xs ks)=true:=by
 rw[cdC,noRefs,noRefs,noRefs,Qab,SU.Qni,SU.Qnj];rfl
theorem QoI {l:List (Nat×Nat)} {i:Nat} {x:Nat×Nat} (h:l[i]?=some x):(l.flatMap loC).drop (i*2)= .int .i64 (x.1:Int):: .int .i64 (x.2:Int)::(l.drop (i+1)).flatMap loC:=Qbe (f:=loC) (k:=2) (fun _=>rfl) h
end Go.AM.SO
namespace Go.AM.SQ
open Go.Proofs
set_option maxHeartbeats 4000000
noncomputable section
def cf:YA.Cf:={most:= .pure,always:=[102].map fun k=>(k,.heap)}
def s32:SFn:=by
 refine(?f:YA.Yt Tryz.prog cf 32 [[0,2],[15,16,17],[1,18],[2,18,19],[],[23,24,25],[4,26,27,28],[1,20,21,22,30,29,41,40,39,38,31],[2,31,32],[20,21,22,30,29,41,40,39,38,33,34,35,36,37],[1,42],[2,42,43],[],[47,48,49,50],[5,51],[7,52,53,54,55],[56],[1,44,45,46,6,8,57,58],[2,6,8,57,59,60,61],[62],[1,44,45,46,9,63,64],[2,9,63,65],[44,45,46,66],[],[70,71,72,73],[10,74],[12,75,76,77,78],[79],[1,67,68,69,11,13,80,81],[2,11,13,80,82,83,84],[85],[1,67,68,69,14,86,87],[2,14,86,88],[1,67,68,69]]) ?s ?h
 case h=>exact YA.rr
 exact fun s _=>s
theorem ok32:okFn Tryz.prog 32 s32=true:=by kernel_rfl
end
end Go.AM.SQ
namespace Go.AM.SO
open Go.Proofs Go.AM.SD Go.AM.SE
theorem QoJ {l:List (Nat×List (Nat×Nat))} {i:Nat} {x:Nat×List (Nat×Nat)} (h:l[i]?=some x):(l.flatMap exC).drop (i*2)= .str [101,UInt8.ofNat (48+x.1)]::los x.2::(l.drop (i+1)).flatMap exC:=Qbe (f:=exC) (k:=2) (fun _=>rfl) h
theorem QoK {l:List (List (Nat×Int)×Int)} {i:Nat} {x:List (Nat×Int)×Int} (h:l[i]?=some x):(l.flatMap coC).drop (i*3)= .str [107]::tes x.1:: .int .i64 x.2::(l.drop (i+1)).flatMap coC:=Qbe (f:=coC) (k:=3) (fun _=>rfl) h
theorem Qpm (l:List (List (Nat×Int)×Int)):(l.flatMap coC).length=l.length*3:=Qbg (k:=3) (fun _=>rfl) l
end Go.AM.SO
namespace Go.AM.SO
open Go.Proofs Go.AM.SD Go.AM.SE
theorem QeF {α:Type} {f:α->List AV} (hf:∀x,(f x).all AV.one=true):∀l:List α,(l.flatMap f).all AV.one=true
 |[]=>rfl
 |x::l=>by rw[List.flatMap_cons,List.all_append,hf,QeF hf l];rfl
theorem take_succ' {α:Type} {l:List α} {i:Nat} {x:α} (h:l[i]?=some x):l.take (i+1)=l.take i++[x]:=by
 rw[List.take_add_one,h];rfl
end Go.AM.SO
namespace Go.AM.SO
open Go.Proofs Go.AM.SD Go.AM.SE
def idxQ {α:Type} (q:α->Bool) (l:List α):Int:=if l.any q then(l.findIdx q:Int)else-1
theorem Qfo {α:Type} {q:α->Bool} {l:List α} (h:∀x∈l,q x=false):idxQ q l= -1:=by
 unfold idxQ
 rw[if_neg]
 rw[List.any_eq_true]
 rintro⟨x,hx,hq⟩
 rw[h x hx]at hq;cases hq
theorem QhH {α:Type} {q:α->Bool} {l:List α} {i:Nat} {x:α} (hx:l[i]?=some x) (hq:q x=true) (hb:∀(j:Nat) y,j<i->l[j]?=some y->q y=false):idxQ q l=i:=by
 have hlt:i<l.length:=by
  rcases Nat.lt_or_ge i l.length with h|h
  ·exact h
  ·rw[List.getElem?_eq_none h]at hx;cases hx
 have h1:l.any q=true:=List.any_eq_true.2 ⟨x,List.mem_of_getElem? hx,hq⟩
 have h2:l.findIdx q=i:=by
  rw[List.findIdx_eq hlt]
  refine⟨by rw[List.getElem?_eq_getElem hlt]at hx;cases hx;exact hq,fun j hj=>hb j l[j] hj (List.getElem?_eq_getElem (by omega))⟩
 unfold idxQ
 rw[if_pos h1,h2]
theorem Qlv {α:Type} {q:α->Bool} {l:List α}:decide (0<=idxQ q l)=l.any q:=by
 unfold idxQ
 cases h:l.any q
 ·simp
 ·simp
theorem Qbl {K:Nat} {cap:List AV} (h:noRefs cap=true):noRef (.fn K [] cap)=true:=by
 simp only[noRef,noRefs,h];rfl
theorem index110 {K : Nat} {cap : List AV} (q : Nat -> Bool) (l : List Nat) (hl : l.length <= 1000000) (hc : noRefs cap = true) (hk : ∀ x ∈ l, PSpec Tryz.prog K (.int .i64 (x : Int) :: cap) (.bool (q x))) : PSpec Tryz.prog 110 [sliN l, .fn K [] cap] (.int .i64 (idxQ q l)) := by
  refine PSpec.Qau 64 ok110 rfl (by rw[noRefs,noRefs,Qbl hc,(Qab _)];rfl) rfl ?_
  have hfn:=Qbl (K:=K) hc
  have hln:=(show(ints (nz l)).length=l.length*1 by simp[ints])
  simp(disch:=first|omega|(simp only[lenW]<;>omega)) only[s110,List.append_nil,wW,wV,simprocAttr]
  refine Qba 100 (fun i:Nat=>[(0,sliN l),(1,.fn K [] cap),(7,.int .i64 l.length),(8,.int .i64 i)]) (fun _=>[]) (fun i=>i<=l.length/\∀(j:Nat) y,j<i->l[j]?=some y->q y=false) (fun i=>l.length-i) 0 ?_ ⟨Nat.zero_le _,fun j y hj=>absurd hj (Nat.not_lt_zero _)⟩ ?_
  · exact⟨[],rfl,RO.zero,RB.nil,RT.cons (Rn.same (Qab _)) (RT.cons (Rn.same hfn) (RT.cons (Rn.same rfl) (RT.cons (Rn.same rfl) RT.nil)))⟩
  rintro i ⟨hi,hb⟩
  by_cases hlt:i<l.length
  · obtain ⟨x, hx⟩ := Qal hlt
    have hn:=hk x (List.mem_of_getElem? hx)
    have hdr:=Qa5 hx
    have hdl:1<=(List.drop (i*1) (ints (nz l))).length:=by rw[List.length_drop,hln];omega
    cases hq:q x
    · rw [hq] at hn
      simp(disch:=first|omega|(simp only[lenW]<;>omega)) only[hlt,hdr,hdl,List.head?_cons,List.append_nil,wW,wV,simprocAttr]
      refine⟨_,by simpa using hn,?_⟩
      simp(disch:=first|omega|(simp only[lenW]<;>omega)) only[List.append_nil,wW,wV,simprocAttr]
      refine⟨i+1,by omega,⟨by omega,fun j y hj hy=>?_⟩,?_⟩
      · by_cases e : j = i
        · subst e;rw[hx]at hy;cases hy;exact hq
        · exact hb j y (by omega) hy
      · exact⟨[],rfl,RO.zero,RB.nil,RT.cons (Rn.same (Qab _)) (RT.cons (Rn.same hfn) (RT.cons (Rn.same rfl) (RT.cons (Rn.same rfl) RT.nil)))⟩
    · rw [hq] at hn
      simp(disch:=first|omega|(simp only[lenW]<;>omega)) only[hlt,hdr,hdl,List.head?_cons,List.append_nil,wW,wV,simprocAttr]
      refine⟨_,by simpa using hn,?_⟩
      simp(disch:=first|omega|(simp only[lenW]<;>omega)) only[List.append_nil,wW,wV,simprocAttr]
      refine⟨.inr trivial,_,rfl,?_⟩
      rw[QhH hx hq hb];rfl
  · simp (disch := first | omega | (simp only [lenW] <;> omega)) only [hlt, List.append_nil, wW, wV, simprocAttr]
    refine⟨.inr trivial,_,rfl,?_⟩
    rw[Qfo fun x hx=>by
      obtain⟨j,hj,hjl⟩:=List.getElem_of_mem hx
      exact hb j x (by omega) (by rw[List.getElem?_eq_getElem hj,hjl])];rfl
theorem contains36 {K:Nat} {cap:List AV} (q:Nat->Bool) (l:List Nat) (hl:l.length<=1000000) (hc:noRefs cap=true) (hk:∀x∈l,PSpec Tryz.prog K (.int .i64 (x:Int)::cap) (.bool (q x))):PSpec Tryz.prog 36 [sliN l,.fn K [] cap] (.bool (l.any q)):=by
 refine PSpec.Qau 64 ok36 rfl (by rw[noRefs,noRefs,Qbl hc,Qab];rfl) rfl ?_
 simp(disch:=first|omega|(simp only[lenW]<;>omega)) only[s36,List.append_nil,wW,wV,simprocAttr]
 refine cp (index110 q l hl hc hk) ?_
 have e:=@Qlv Nat q l
 cases h:l.any q
 ·rw [h, decide_eq_false_iff_not] at e
  simp(disch:=first|omega|(simp only[lenW]<;>omega)) only[e,List.append_nil,wW,wV,simprocAttr]
  exact⟨.inr trivial,_,rfl,rfl⟩
 ·rw [h, decide_eq_true_eq] at e
  simp(disch:=first|omega|(simp only[lenW]<;>omega)) only[e,List.append_nil,wW,wV,simprocAttr]
  exact⟨.inr trivial,_,rfl,rfl⟩
end Go.AM.SO
namespace Go.AM.SR
open Go.Proofs
set_option maxHeartbeats 4000000
noncomputable section
def cf:YA.Cf:={most:= .pure,always:=[36].map fun k=>(k,.heap)}
def s83:SFn:=by
 refine(?f:YA.Yt Tryz.prog cf 83 [[0,1,8],[11,12,13,14],[2,3,4,5,10],[10,16,17,18,19],[2,3,4,5,15],[8,3,15,20,21,22],[23,24,25],[26],[2,4,5,9,27,28],[8,9,27,30,31,32,33],[2,4,5,29],[29,35,36,37,38],[2,4,5,34],[5,34,40,41,42,43,44],[2,4,39],[2,4,39,46,47,48,49,50,51],[45],[45]]) ?s ?h
 case h=>exact YA.rr
 exact fun s _=>s
theorem ok83:okFn Tryz.prog 83 s83=true:=by kernel_rfl
end
end Go.AM.SR
namespace Go.AM.SO
open Go.Proofs Go.AM.SD Go.AM.SE
theorem Qnk {a:Aut} (h:WfA a):a.al.length<=32:=Qbk 32 a.al (by rw[List.nodup_iff_pairwise_ne];exact h.al.imp fun h=>by omega) h.al5
abbrev nmsB (l:List (List UInt8)):Blk:= .map 0 (mapS yes l)
end Go.AM.SO
namespace Go.AM.SO
open Go.Proofs Go.AM.SD Go.AM.SE
def uUp (l:List (Nat×Aut)):List Nat:=l.foldl (fun out x=>mrg (fun a b=>a||b) out x.2.al) []
theorem Qlw:∀{l:List (Nat×Aut)} {out:List Nat},out.Pairwise (· < ·)->(∀x∈l,x.2.al.Pairwise (· < ·))->
  (l.foldl (fun out x=>mrg (fun a b=>a||b) out x.2.al) out).Pairwise (· < ·)/\∀e,e∈l.foldl (fun out x=>mrg (fun a b=>a||b) out x.2.al) out↔e∈out\/∃y∈l,e∈y.2.al
 |[],out,h,_=>⟨h,fun e=>by simp⟩
 | x :: l, out, h, hl => by
  have hx:=hl x (by simp)
  obtain⟨h1,h2⟩:=Qlw (l:=l) (QbX (k:=fun a b=>a||b) h hx) fun y hy=>hl y (by simp[hy])
  refine⟨h1,fun e=>?_⟩
  rw[List.foldl_cons,h2 e,QbG h hx]
  simp only[List.mem_cons,exists_eq_or_imp,Bool.or_eq_true,decide_eq_true_eq]
  constructor
  ·rintro (⟨h3, _⟩ | h3)
   ·rcases h3 with h3 | h3
    ·exact .inl h3
    ·exact .inr (.inl h3)
   ·exact .inr (.inr h3)
  ·rintro (h3 | h3 | h3)
   ·exact .inl ⟨.inl h3,.inl h3⟩
   ·exact .inl ⟨.inr h3,.inr h3⟩
   ·exact .inr h3
theorem Qfz {m:Nat} {π:Nat->Option Src} {h:Heap}:RnM m π h (mapS yes []) []:=trivial
end Go.AM.SO
namespace Go.AM.SO
open Go.Proofs Go.AM.SD Go.AM.SE
def auC (a:Aut):List AV:=[sliN a.al,.int .i64 (a.n:Int),sliN a.ms,egsN a.es]
abbrev auts (l:List Aut):AV:= .fsl (l.flatMap auC) l.length 4
theorem QaU (l:List Aut):noRefs (l.flatMap auC)=true:=QaR (fun x=>by simp only[auC,noRefs,noRef,Qac,Qaf];rfl) l
theorem Qa8 (l:List Aut):noRef (auts l)=true:=by simp only[noRef];exact QaU l
theorem Qhk (l:List Aut):(l.flatMap auC).length=l.length*4:=Qbg (k:=4) (fun _=>rfl) l
theorem Qdu {l:List Aut} {i:Nat} {x:Aut} (h:l[i]?=some x):(l.flatMap auC).drop (i*4)=sliN x.al:: .int .i64 (x.n:Int)::sliN x.ms::egsN x.es::(l.drop (i+1)).flatMap auC:=Qbe (f:=auC) (k:=4) (fun _=>rfl) h
theorem _root_.Go.AM.au7 {p:Prop} (h:p:=by repeat (first|exact RT.nil|(refine RT.cons ?_ ?_; · (first|exact Rn.any|exact Rn.x1 rfl rfl|exact Rn.x2 rfl rfl|exact Rn.x3 rfl rfl|exact Rn.x4 rfl rfl|exact Rn.x5 rfl|exact Rn.x6 rfl|exact Rn.x7 rfl|(refine Rn.slot ?_ ?_;(first|rfl|(rw[Int.natCast_add];rfl));(first|rfl|(simp only[noRef,noRefs,Qak,Bool.and_self,Bool.and_true,Bool.true_and,Qac,Qaq,Qab,Qao];done)))|(refine Rn.fn ?_ ?_<;>(repeat' (first|exact RnL.nil|refine RnL.cons ?_ ?_|exact Rn.same rfl|exact Rn.x6 rfl|exact Rn.x2 rfl rfl|exact Rn.x5 rfl|exact Rn.x1 rfl rfl))))))):p:=h
theorem _root_.Go.AM.au8 {p:Prop} (h:p:=by repeat' (first|exact RB.nil|(refine RnL.same ?_;first|rfl|(simp only[noRef,noRefs,Qak,Bool.and_self,Bool.and_true,Bool.true_and,Qac,Qaq,Qab,Qao];done))|exact RnM.keyM rfl|exact RnL.nil|exact(True.intro:RnM _ _ _ [] [])|refine RnL.cons ?_ ?_|(refine Rn.same ?_;first|rfl|(simp only[noRef,noRefs,Qak,Bool.and_self,Bool.and_true,Bool.true_and,Qac,Qaq,Qab,Qao];done))|exact Rn.x1 rfl rfl|exact Rn.x2 rfl rfl|exact Rn.x3 rfl rfl|exact Rn.x4 rfl rfl|exact Rn.x5 rfl|exact Rn.x6 rfl|exact Rn.x7 rfl|refine RB.newnil rfl rfl ?_|refine RB.cells rfl rfl rfl ?_ ?_|refine RB.map rfl rfl rfl ?_ ?_|refine RB.cellsB rfl rfl ?_ ?_|refine RB.mapB rfl rfl ?_ ?_)):p:=h
theorem check95 (l:List Aut) (h:∀a∈l,WfJ a) (hl:l.length<=12):PSpec Tryz.prog 95 [auts l] (.int .i64 0):=by
  refine PSpec.Qau 64 TP.ok95 rfl (by rw[noRefs,Qa8];rfl) rfl ?_
  have g1:¬(12:Int)<(l.length:Int):=by omega
  have hno:=Qa8 l
  simp(disch:=first|omega|exact PairsOK.mk rfl|(simp only[lenW]<;>omega)) only[TP.s95,g1,wW,wV,simprocAttr]
  refine QaB 100 (fun i:Nat=>[(9,auts l),(10,.int .i64 l.length),(11,.int .i64 i)]) (fun _=>[]) (fun i=>i<=l.length) (fun i=>l.length-i) 0 0 140 (fun _:Unit=>[]) (fun _=>[]) (fun _=>True) ?_ (Nat.zero_le _) ?_ ?_
  · exact⟨[],rfl,RO.zero,RB.nil,RT.cons (Rn.same hno) au7⟩
  · rintro i hi
    by_cases hlt:i<l.length
    · obtain ⟨x, hx⟩ := Qal hlt
      have hwi:=h x (List.mem_of_getElem? hx)
      have hdr:=Qdu hx
      have hdl:4<=((l.flatMap auC).drop (i*4)).length:=by rw[hdr];simp
      have hc:=check112 x hwi.wf (by have:=WfA.el1 hwi.wf;omega)
      simp(disch:=first|omega|exact PairsOK.mk rfl|(simp only[lenW]<;>omega)) only[hlt,hdr,hdl,wW,wV,simprocAttr]
      refine cp hc ?_
      simp(disch:=first|omega|exact PairsOK.mk rfl|(simp only[lenW]<;>omega)) only[wW,wV,simprocAttr]
      exact⟨i+1,by omega,by omega,[],rfl,RO.zero,RB.nil,RT.cons (Rn.same hno) au7⟩
    · simp (disch := first | omega | exact PairsOK.mk rfl | (simp only [lenW] <;> omega)) only [hlt, wW, wV, simprocAttr]
      exact⟨(),⟨[],rfl,au0,au8,au7⟩⟩
  rintro _ _
  simp(disch:=first|omega|exact PairsOK.mk rfl|(simp only[lenW]<;>omega)) only[wW,wV,simprocAttr]
  exact⟨.inr trivial,_,rfl,rfl⟩
theorem Qn7 {l:List Aut} {i:Nat} {x:Aut} (h:l[i]?=some x):evA (l.take (i+1))=mrg (fun a b=>a||b) (evA (l.take i)) x.al:=by
 unfold evA;rw[take_succ' h,List.foldl_append];rfl
theorem QoL (l:List Aut):evA l=uUp (l.map fun a=>(0,a)):=by unfold evA uUp;rw[List.foldl_map];rfl
theorem Qdv {l:List Aut} (h:∀a∈l,WfJ a):(evA l).Pairwise (· < ·)/\∀e,e∈evA l↔∃a∈l,e∈a.al:=by
  have:=Qlw (l:=l.map fun a=>(0,a)) (out:=[]) (by simp) (fun x hx=>by
    obtain⟨a,ha,rfl⟩:=List.mem_map.1 hx
    exact(h a ha).wf.al)
  rw[QoL]
  refine⟨this.1,fun e=>(this.2 e).trans ?_⟩
  constructor
  · rintro (h | ⟨y, hy, he⟩)
    · cases h
    · obtain ⟨a, ha, rfl⟩ := List.mem_map.1 hy
      exact⟨a,ha,he⟩
  · rintro⟨a,ha,hx⟩;exact .inr ⟨_,List.mem_map.2 ⟨a,ha,rfl⟩,hx⟩
theorem Qlx {l:List Aut} (h:∀a∈l,WfJ a):(evA l).length<=32:=by
 refine Qbk 32 _ (by rw[List.nodup_iff_pairwise_ne];exact(Qdv h).1.imp fun h=>by omega) fun x hx=>?_
 obtain⟨a,ha,he⟩:=((Qdv h).2 x).1 hx
 exact(h a ha).wf.al5 x he
theorem events187 (l:List Aut) (h:∀a∈l,WfJ a) (hl:l.length<=12):PSpec Tryz.prog 187 [auts l] (sliN (evA l)):=by
  refine PSpec.of_rn 64 TP.ok187 rfl (by rw[noRefs,Qa8];rfl) (Qab _) ?_
  have hno:=Qa8 l
  simp(disch:=first|omega|exact PairsOK.mk rfl|(simp only[lenW]<;>omega)) only[TP.s187,wW,wV,simprocAttr]
  refine QaB 100 (fun i:Nat=>[(3,sliN (evA (l.take i))),(6,auts l),(7,.int .i64 l.length),(8,.int .i64 i)]) (fun _=>[]) (fun i=>i<=l.length) (fun i=>l.length-i) 0 0 140 (fun _:Unit=>[(3,sliN (evA l))]) (fun _=>[]) (fun _=>True) ?_ (Nat.zero_le _) ?_ ?_
  · exact⟨[],rfl,RO.zero,RB.nil,RT.cons Rn.nilK (RT.cons (Rn.same hno) au7)⟩
  · rintro i hi
    by_cases hlt:i<l.length
    · obtain ⟨x, hx⟩ := Qal hlt
      have hwi:=h x (List.mem_of_getElem? hx)
      have hdr:=Qdu hx
      have hdl:4<=((l.flatMap auC).drop (i*4)).length:=by rw[hdr];simp
      have hulen:(evA (l.take i)).length<=1000000:=by have:=Qlx (l:=l.take i) fun y hy=>h y (List.mem_of_mem_take hy);omega
      have hU:=union84 (evA (l.take i)) x.al hulen (by have:=Qnk hwi.wf;omega)
      rw[<-Qn7 hx]at hU
      simp(disch:=first|omega|exact PairsOK.mk rfl|(simp only[lenW]<;>omega)) only[hlt,hdr,hdl,wW,wV,simprocAttr]
      refine cp hU ?_
      simp(disch:=first|omega|exact PairsOK.mk rfl|(simp only[lenW]<;>omega)) only[wW,wV,simprocAttr]
      exact⟨i+1,by omega,by omega,[],rfl,RO.zero,RB.nil,RT.cons (Rn.same (Qab _)) (RT.cons (Rn.same hno) au7)⟩
    · have e : i = l.length := by omega
      subst e
      simp(disch:=first|omega|exact PairsOK.mk rfl|(simp only[lenW]<;>omega)) only[hlt,List.take_length,wW,wV,simprocAttr]
      exact⟨(),⟨[],rfl,au0,au8,au7⟩⟩
  rintro _ _
  simp(disch:=first|omega|exact PairsOK.mk rfl|(simp only[lenW]<;>omega)) only[wW,wV,simprocAttr]
  exact⟨.inr trivial,_,rfl,Rn.same (Qab _)⟩
theorem has189 (l:List Nat) (t:Nat) (hs:l.Pairwise (· < ·)) (hl:l.length<=1000000):PSpec Tryz.prog 189 [sliN l,.int .i64 (t:Int)] (.bool (l.contains t)):=by
 refine PSpec.Qau 64 TP.ok189 rfl (by(try simp only[noRefs,Qac,noRef,noRefs,Bool.and_self,Bool.and_true])<;>rfl) rfl ?_
 have h:=find57 l t (hs.imp fun h=>Nat.le_of_lt h) hl
 simp(disch:=first|omega|exact PairsOK.mk rfl|(simp only[lenW]<;>omega)) only[TP.s189,wW,wV,simprocAttr]
 refine cp h ?_
 simp(disch:=first|omega|exact PairsOK.mk rfl|(simp only[lenW]<;>omega)) only[wW,wV,simprocAttr]
 exact⟨.inr trivial,_,rfl,rfl⟩
end Go.AM.SO
namespace Go.AM.SO
open Go.Proofs Go.AM.SD Go.AM.SE
theorem Qam {α:Type} {f:α->AV} (h:∀x,noRef (f x)=true) (l:List α):noRefs (l.map f)=true:=by
 induction l with
 |nil=>rfl
 |cons x l ih=>simp only[List.map_cons,noRefs,h,ih];rfl
def pE (e:Ed):Nat×Nat:=(e.1,e.2.1)
def vE (es:List Ed) (p:Nat×Nat):AV:= .int .i64 (((stepA es p.1 p.2).getD 0:Nat):Int)
abbrev emV (a:Aut):AV:=fmapG kP (vE a.es) (a.es.map pE)
theorem Qcc (a:Aut):noRef (emV a)=true:=by
 rw[emV,fmapG,noRef,Qam (fun _=>rfl),Qam (fun _=>rfl)];rfl
theorem Qaa {x y:List AV}:(AV.fmap x y).cells=[.fmap x y]:=rfl
theorem Qad {x y:List AV}:(AV.fmap x y).one=true:=rfl
theorem Qae {x y:List AV}:(AV.fmap x y).boxable=true:=rfl
abbrev macV (l:List Aut):AV:= .agg [auts l,sliN (evA l),.fsl (l.map emV) l.length 1]
theorem Qcy (l:List Aut):noRef (macV l)=true:=by
 rw[macV,noRef,noRefs,noRefs,noRefs,Qa8,Qab,noRef,Qam Qcc];rfl
theorem Qhl {e:Ed} {es:List Ed} {s v:Nat}:stepA (e::es) s v=if e.1=s/\e.2.1=v then some e.2.2 else stepA es s v:=by
 unfold stepA
 rw[List.find?_cons]
 by_cases h1:e.1=s<;>by_cases h2:e.2.1=v<;>simp[h1,h2,beq_eq_false_iff_ne.2]
theorem QeG:∀{es:List Ed},es.Pairwise (fun x y=>x.1<y.1\/(x.1=y.1/\x.2.1<y.2.1))->∀{e:Ed},e∈es->stepA es e.1 e.2.1=some e.2.2
 | x :: es, h, e, he => by
  rw[List.pairwise_cons]at h
  rw[Qhl]
  rcases List.mem_cons.1 he with rfl|he
  ·rw[if_pos ⟨rfl,rfl⟩]
  ·have := h.1 e he
   rw[if_neg (by omega)]
   exact QeG h.2 he
theorem Qhm:∀{es:List Ed} {s v:Nat},(s,v)∉es.map pE->stepA es s v=none
 |[],s,v,_=>rfl
 |x::es,s,v,h=>by
  rw[List.map_cons,List.mem_cons,not_or]at h
  rw[Qhl,if_neg fun hh=>h.1 (by unfold pE;rw[hh.1,hh.2])]
  exact Qhm h.2
theorem Qnd {es:List Ed} {s v t:Nat} (h:stepA es s v=some t):(s,v)∈es.map pE:=by
 refine Decidable.byContradiction fun hn=>?_
 rw[Qhm hn]at h;cases h
theorem Qn8 {es:List Ed} (h:es.Pairwise (fun x y=>x.1<y.1\/(x.1=y.1/\x.2.1<y.2.1))) {j:Nat} {e:Ed} (he:es[j]?=some e):(e.1,e.2.1)∉(es.take j).map pE:=by
 intro hm
 obtain⟨y,hy,e2⟩:=List.mem_map.1 hm
 obtain⟨k,hk⟩:=List.mem_iff_getElem?.1 hy
 have hkj:k<j:=by
  rcases Nat.lt_or_ge k j with h|h
  ·exact h
  ·rw[List.getElem?_eq_none (by rw[List.length_take];omega)]at hk;cases hk
 rw[List.getElem?_take_of_lt hkj]at hk
 obtain⟨k1,k2⟩:=List.getElem?_eq_some_iff.1 hk
 obtain⟨j1,j2⟩:=List.getElem?_eq_some_iff.1 he
 have:=List.pairwise_iff_getElem.1 h k j k1 j1 hkj
 rw[k2,j2]at this
 unfold pE at e2
 simp only[Prod.mk.injEq]at e2
 omega
theorem Qpn {es:List Ed} (h:es.Pairwise (fun x y=>x.1<y.1\/(x.1=y.1/\x.2.1<y.2.1))) {e:Ed} (he:e∈es):updG (vE es) (e.1,e.2.1) (.int .i64 (e.2.2:Int))=vE es:=by
 funext p
 unfold updG
 split
 ·rename_i hp; subst hp
  unfold vE
  rw[QeG h he];rfl
 ·rfl
theorem _root_.Go.AM.au9 {p:Prop} (h:p:=by repeat (first|exact RT.nil|(refine RT.cons ?_ ?_; · (first|exact Rn.any|exact Rn.x1 rfl rfl|exact Rn.x2 rfl rfl|exact Rn.x3 rfl rfl|exact Rn.x4 rfl rfl|exact Rn.x5 rfl|exact Rn.x6 rfl|exact Rn.x7 rfl|(refine Rn.slot ?_ ?_;(first|rfl|(rw[Int.natCast_add];rfl));(first|rfl|(simp only[noRef,noRefs,Qak,Bool.and_self,Bool.and_true,Bool.true_and,Qac,Qaq,Qab,Qao,QaU,Qaf];done)))|(refine Rn.fn ?_ ?_<;>(repeat' (first|exact RnL.nil|refine RnL.cons ?_ ?_|exact Rn.same rfl|exact Rn.x6 rfl|exact Rn.x2 rfl rfl|exact Rn.x5 rfl|exact Rn.x1 rfl rfl))))))):p:=h
theorem open96 (l : List Aut) (h : ∀ a ∈ l, WfJ a) (hl : l.length <= 12) : PSpec Tryz.prog 96 [auts l] (macV l) := by
  refine PSpec.of_rn 64 TP.ok96 rfl (by rw[noRefs,Qa8];rfl) (Qcy l) ?_
  have hev:=events187 l h hl
  have hno:=Qa8 l
  have hlen:(l.map emV).length=l.length:=List.length_map ..
  simp(disch:=first|omega|exact PairsOK.mk rfl|(simp only[lenW]<;>omega)) only[TP.s96,Qaa,Qad,Qae,wW,wV,simprocAttr]
  refine cp hev ?_
  simp(disch:=first|omega|exact PairsOK.mk rfl|(simp only[lenW]<;>omega)) only[Qaa,Qad,Qae,wW,wV,simprocAttr]
  refine QaB 120 (fun i:Nat=>[(2,.ptr 51 0 0),(3,.ptr 52 0 0),(13,auts l),(14,.int .i64 l.length),(15,.int .i64 i)]) (fun i=>[(51,.cells 0 [.nilsl,.nilsl,.nilsl]),(52,.cells 0 [auts l,sliN (evA l),.sl 76 0 0 i 1]),(76,.cells 0 ((l.take i).map emV))]) (fun i=>i<=l.length) (fun i=>l.length-i) 0 0 300 (fun _:Unit=>[(2,.ptr 51 0 0),(3,.ptr 52 0 0)]) (fun _=>[(51,.cells 0 [.nilsl,.nilsl,.nilsl]),(52,.cells 0 [auts l,sliN (evA l),.fsl (l.map emV) l.length 1])]) (fun _=>True) ⟨[(51,.blk 64 0),(52,.blk 69 0),(76,.nil)],rfl,au0,?_,au9⟩ (Nat.zero_le _) ?_ ?_
  · exact RB.cells rfl rfl gg (RnL.same rfl) (RB.cells rfl rfl gg (RnL.cons (Rn.same hno) (RnL.cons (Rn.same (Qab _)) (RnL.cons (Rn.x4 rfl rfl) RnL.nil))) (RB.newnil rfl rfl RB.nil))
  · rintro i hi
    by_cases hlt:i<l.length
    · obtain ⟨x, hx⟩ := Qal hlt
      have hwi:=h x (List.mem_of_getElem? hx)
      have hdr:=Qdu hx
      have hdl:4<=((l.flatMap auC).drop (i*4)).length:=by rw[hdr];simp
      have hsuc:=take_succ' hx
      have htl:(l.take i).length=i:=by rw[List.length_take];omega
      have htm:((l.take i).map emV).length=i:=by rw[List.length_map,htl]
      have hel:=WfA.el1 hwi.wf
      simp(disch:=first|omega|exact PairsOK.mk rfl|(simp only[lenW]<;>omega)) only[hlt,hdr,hdl,Qaa,Qad,Qae,wW,wV,simprocAttr]
      refine QaB 220 (fun j:Nat=>[(2,.ptr 51 0 0),(3,.ptr 52 0 0),(13,auts l),(14,.int .i64 l.length),(15,.int .i64 i),(6,.map 77 0),(21,egsN x.es),(22,.int .i64 x.es.length),(23,.int .i64 j)]) (fun j=>[(51,.cells 0 [.nilsl,.nilsl,.nilsl]),(52,.cells 0 [auts l,sliN (evA l),.sl 76 0 0 i 1]),(76,.cells 0 ((l.take i).map emV)),(77,.map 0 (mapG kP (vE x.es) ((x.es.take j).map pE)))]) (fun j=>j<=x.es.length) (fun j=>x.es.length-j) 0 2 280 (fun _:Unit=>[(2,.ptr 51 0 0),(3,.ptr 52 0 0),(13,auts l),(14,.int .i64 l.length),(15,.int .i64 i),(6,emV x)]) (fun _=>[(51,.cells 0 [.nilsl,.nilsl,.nilsl]),(52,.cells 0 [auts l,sliN (evA l),.sl 76 0 0 i 1]),(76,.cells 0 ((l.take i).map emV))]) (fun _=>True) ⟨[(51,.blk 51 0),(52,.blk 52 0),(76,.blk 76 0),(77,.blk 125 0)],rfl,au0,?_,au9⟩ (Nat.zero_le _) ?_ ?_
      · exact RB.cells rfl rfl gg (RnL.same rfl) (RB.cells rfl rfl gg (RnL.cons (Rn.same hno) (RnL.cons (Rn.same (Qab _)) (RnL.cons (Rn.x1 rfl rfl) RnL.nil))) (RB.cells rfl rfl gg (RnL.same (Qam Qcc _)) (RB.map rfl rfl gg (RnM.mapG fun _ _=>⟨rfl,rfl⟩) RB.nil)))
      · rintro j hj
        by_cases hjl:j<x.es.length
        · obtain ⟨e, he⟩ := Qal hjl
          have hde:=Qbb he
          have hdel:3<=((x.es.flatMap edC).drop (j*3)).length:=by rw[hde];simp
          have hnew:=Qn8 hwi.wf.es he
          have hup:=Qpn hwi.wf.es (List.mem_of_getElem? he)
          simp(disch:=first|omega|exact PairsOK.mk rfl|(simp only[lenW]<;>omega)) only[hjl,hde,hdel,Qaa,Qad,Qae,wW,wV,simprocAttr]
          refine Qca (c:=kP) (f:=vE x.es) (x:=(e.1,e.2.1)) (l:=(x.es.take j).map pE) (g:=0) gg QjU hnew (by omega) ?_
          rw[hup]
          simp(disch:=first|omega|exact PairsOK.mk rfl|(simp only[lenW]<;>omega)) only[Qaa,Qad,Qae,wW,wV,simprocAttr]
          refine⟨j+1,by omega,by omega,?_⟩
          rw[take_succ' he,List.map_append]
          refine⟨[(51,.blk 51 0),(52,.blk 52 0),(76,.blk 76 0),(77,.blk 77 0)],rfl,au0,?_,au9⟩
          exact RB.cells rfl rfl gg (RnL.same rfl) (RB.cells rfl rfl gg (RnL.cons (Rn.same hno) (RnL.cons (Rn.same (Qab _)) (RnL.cons (Rn.x1 rfl rfl) RnL.nil))) (RB.cells rfl rfl gg (RnL.same (Qam Qcc _)) (RB.map rfl rfl gg (RnM.mapG fun _ _=>⟨rfl,rfl⟩) RB.nil)))
        · have e : j = x.es.length := by omega
          subst e
          simp(disch:=first|omega|exact PairsOK.mk rfl|(simp only[lenW]<;>omega)) only[hjl,List.take_length,Qaa,Qad,Qae,wW,wV,simprocAttr]
          refine⟨(),[(51,.blk 51 0),(52,.blk 52 0),(76,.blk 76 0)],rfl,RO.zero,?_,?_⟩
          · exact RB.cells rfl rfl gg (RnL.same rfl) (RB.cells rfl rfl gg (RnL.cons (Rn.same hno) (RnL.cons (Rn.same (Qab _)) (RnL.cons (Rn.x1 rfl rfl) RnL.nil))) (RB.cells rfl rfl gg (RnL.same (Qam Qcc _)) RB.nil))
          · exact RT.cons (Rn.x2 rfl rfl) (RT.cons (Rn.x2 rfl rfl) (RT.cons (Rn.same hno) (RT.cons (Rn.same rfl) (RT.cons (Rn.same rfl) (RT.cons (Rn.fzM (b:=77) (g:=0) gg rfl rfl fun _ _=>⟨rfl,rfl⟩) RT.nil)))))
      rintro _ _
      have hem:=Qcc x
      simp(disch:=first|omega|exact PairsOK.mk rfl|(simp only[lenW]<;>omega)) only[htm,Qaa,Qad,Qae,wW,wV,simprocAttr]
      refine⟨i+1,by omega,by omega,?_⟩
      rw[hsuc,List.map_append]
      refine⟨[(51,.blk 51 0),(52,.blk 52 0),(76,.blk 76 1)],rfl,au0,?_,au9⟩
      exact RB.cells rfl rfl gg (RnL.same rfl) (RB.cells rfl rfl gg (RnL.cons (Rn.same hno) (RnL.cons (Rn.same (Qab _)) (RnL.cons (Rn.x1 rfl rfl) RnL.nil))) (RB.cells rfl rfl gg (RnL.same (SU.QaF (Qam Qcc _) (Qam Qcc [x]))) RB.nil))
    · have e : i = l.length := by omega
      subst e
      simp(disch:=first|omega|exact PairsOK.mk rfl|(simp only[lenW]<;>omega)) only[hlt,List.take_length,Qaa,Qad,Qae,wW,wV,simprocAttr]
      refine⟨(),?_⟩
      refine⟨[(51,.blk 51 0),(52,.blk 52 0)],rfl,au0,?_,au9⟩
      exact RB.cells rfl rfl gg (RnL.same rfl) (RB.cells rfl rfl gg (RnL.cons (Rn.same hno) (RnL.cons (Rn.same (Qab _)) (RnL.cons (Rn.fzm rfl rfl rfl rfl (by simp) (RnL.same (Qam Qcc _))) RnL.nil))) RB.nil)
  rintro _ _
  simp(disch:=first|omega|exact PairsOK.mk rfl|(simp only[lenW]<;>omega)) only[Qaa,Qad,Qae,wW,wV,simprocAttr]
  refine⟨.inr trivial,_,rfl,?_⟩
  exact Rn.same (Qcy l)
end Go.AM.SO
namespace Go.AM.SO
open Go.Proofs Go.AM.SD Go.AM.SE
theorem Qdn (l:List Aut):noRefs [auts l,sliN (evA l),.fsl (l.map emV) l.length 1]=true:=by
 have:=Qcy l
 rwa [macV,noRef]at this
theorem Qnl (n:Nat) (x:Int):(List.replicate n [AV.int .i64 x]).flatten=ints (List.replicate n x):=by
 induction n with
 |zero=>rfl
 |succ n ih=>rw[List.replicate_succ,List.flatten_cons,ih];rfl
theorem Qpo (n:Nat):nz (List.replicate n 0)=List.replicate n 0:=by simp[nz]
theorem initial97 (l:List Aut) (h:∀a∈l,WfJ a) (h0:0<l.length) (hl:l.length<=12):PSpec Tryz.prog 97 [macV l] (.tup [sliN (List.replicate l.length 0),.bool true]):=by
  refine PSpec.of_rn 64 TP.ok97 rfl (by rw[noRefs,Qcy];rfl) (by rw[noRef,noRefs,Qab];rfl) ?_
  have hno:=Qa8 l
  have hnm:=Qdn l
  have hn':(l.length:Int)<=140737488355328:=by omega
  have hn8:(8:Int)*l.length<=140737488355328:=by omega
  simp(disch:=first|omega|exact PairsOK.mk rfl|(simp only[lenW]<;>omega)) only[TP.s97,Qaa,Qad,Qae,wW,wV,simprocAttr]
  refine QaB 100 (fun i:Nat=>[(1,.ptr 51 0 0),(7,auts l),(8,.int .i64 l.length),(9,.int .i64 i)]) (fun _=>[(51,.cells 0 [auts l,sliN (evA l),.fsl (l.map emV) l.length 1])]) (fun i=>i<=l.length) (fun i=>l.length-i) 0 0 140 (fun _:Unit=>[(1,.ptr 51 0 0)]) (fun _=>[(51,.cells 0 [auts l,sliN (evA l),.fsl (l.map emV) l.length 1])]) (fun _=>True) ⟨[(51,.blk 64 0)],rfl,au0,?_,au9⟩ (Nat.zero_le _) ?_ ?_
  · exact RB.cells rfl rfl gg (RnL.same hnm) RB.nil
  · rintro i hi
    by_cases hlt:i<l.length
    · obtain ⟨x, hx⟩ := Qal hlt
      have hwi:=h x (List.mem_of_getElem? hx)
      have hdr:=Qdu hx
      have hdl:4<=((l.flatMap auC).drop (i*4)).length:=by rw[hdr];simp
      have hp:¬(x.n:Int)=0:=by have:=hwi.pos;omega
      simp(disch:=first|omega|exact PairsOK.mk rfl|(simp only[lenW]<;>omega)) only[hlt,hdr,hdl,hp,Qaa,Qad,Qae,wW,wV,simprocAttr]
      refine⟨i+1,by omega,by omega,?_⟩
      refine⟨[(51,.blk 51 0)],rfl,au0,?_,au9⟩
      exact RB.cells rfl rfl gg (RnL.same hnm) RB.nil
    · simp (disch := first | omega | exact PairsOK.mk rfl | (simp only [lenW] <;> omega)) only [hlt, Qaa, Qad, Qae, wW, wV, simprocAttr]
      refine⟨(),?_⟩
      refine⟨[(51,.blk 51 0)],rfl,au0,?_,au9⟩
      exact RB.cells rfl rfl gg (RnL.same hnm) RB.nil
  rintro _ _
  simp(disch:=first|omega|exact PairsOK.mk rfl|(simp only[lenW]<;>omega)) only[hn',hn8,Qnl,Qaa,Qad,Qae,wW,wV,simprocAttr]
  refine⟨.inr trivial,_,rfl,?_⟩
  refine Rn.tup (RnL.cons ?_ (RnL.same rfl))
  have e:sliN (List.replicate l.length 0)= .fsl (ints (List.replicate l.length 0)) l.length 1:=by rw[sliN,Qpo,List.length_replicate]
  rw[e]
  exact Rn.fz0 (b:=143) rfl (by simp[ints]) (RnL.same (Qac _))
theorem _root_.Go.AM.au10 {p:Prop} (h:p:=by repeat' (first|exact RB.nil|(refine RnL.same ?_;first|rfl|(simp only[noRef,noRefs,Qak,Bool.and_self,Bool.and_true,Bool.true_and,Qac,Qaq,Qab,Qao,QaU,Qaf];done))|exact RnM.keyM rfl|exact RnL.nil|exact(True.intro:RnM _ _ _ [] [])|refine RnL.cons ?_ ?_|(refine Rn.same ?_;first|rfl|(simp only[noRef,noRefs,Qak,Bool.and_self,Bool.and_true,Bool.true_and,Qac,Qaq,Qab,Qao,QaU,Qaf];done))|exact Rn.x1 rfl rfl|exact Rn.x2 rfl rfl|exact Rn.x3 rfl rfl|exact Rn.x4 rfl rfl|exact Rn.x5 rfl|exact Rn.x6 rfl|exact Rn.x7 rfl|refine RB.newnil rfl rfl ?_|refine RB.cells rfl rfl rfl ?_ ?_|refine RB.map rfl rfl rfl ?_ ?_|refine RB.cellsB rfl rfl ?_ ?_|refine RB.mapB rfl rfl ?_ ?_)):p:=h
theorem marked99 (l : List Aut) (t : List Nat) (h : ∀ a ∈ l, WfJ a) (hl : l.length <= 12) (ht : t.length = l.length) : PSpec Tryz.prog 99 [macV l, sliN t] (.bool (mkdT l t)) := by
  refine PSpec.of_rn 64 TP.ok99 rfl (by rw[noRefs,Qcy,noRefs,Qab];rfl) rfl ?_
  have hno:=Qa8 l
  have hnm:=Qdn l
  simp(disch:=first|omega|exact PairsOK.mk rfl|(simp only[lenW]<;>omega)) only[TP.s99,Qaa,Qad,Qae,wW,wV,simprocAttr]
  refine QaB 100 (fun i:Nat=>[(1,sliN t),(8,auts l),(9,.int .i64 l.length),(10,.int .i64 i)]) (fun _=>[]) (fun i=>i<=l.length/\mkdT l t=mkdT (l.drop i) (t.drop i)) (fun i=>l.length-i) 0 0 140 (fun _:Unit=>[]) (fun _=>[]) (fun _=>mkdT l t=true) ⟨[],rfl,au0,au10,au9⟩ ⟨Nat.zero_le _,rfl⟩ ?_ ?_
  · rintro i ⟨hi, hm⟩
    by_cases hlt:i<l.length
    · obtain ⟨x, hx⟩ := Qal hlt
      obtain⟨y,hy⟩:=Qal (l:=t) (i:=i) (by omega)
      have hwi:=h x (List.mem_of_getElem? hx)
      have hdr:=Qdu hx
      have hdl:4<=((l.flatMap auC).drop (i*4)).length:=by rw[hdr];simp
      have hlt2:i<t.length:=by omega
      have hst:mkdT (l.drop i) (t.drop i)=(x.ms.contains y&&mkdT (l.drop (i+1)) (t.drop (i+1))):=by
        obtain⟨h1,e1⟩:=List.getElem?_eq_some_iff.1 hx
        obtain⟨h2,e2⟩:=List.getElem?_eq_some_iff.1 hy
        rw[List.drop_eq_getElem_cons h1,List.drop_eq_getElem_cons h2,e1,e2];rfl
      have hc:=has189 x.ms y hwi.wf.ms (by have:=Qbk x.n x.ms hwi.wf.nd hwi.wf.msn;have:=hwi.n10;omega)
      cases hq:x.ms.contains y
      · rw [hq] at hc hst
        simp(disch:=first|omega|exact PairsOK.mk rfl|(simp only[lenW]<;>omega)) only[hlt,hlt2,hdr,hdl,Qa5 hy,Qaa,Qad,Qae,wW,wV,simprocAttr]
        refine cp hc ?_
        simp(disch:=first|omega|exact PairsOK.mk rfl|(simp only[lenW]<;>omega)) only[Qaa,Qad,Qae,wW,wV,simprocAttr]
        refine⟨.inr trivial,_,rfl,?_⟩
        rw[hm,hst]
        exact Rn.same rfl
      · rw [hq, Bool.true_and] at hst
        rw[hq]at hc
        simp(disch:=first|omega|exact PairsOK.mk rfl|(simp only[lenW]<;>omega)) only[hlt,hlt2,hdr,hdl,Qa5 hy,Qaa,Qad,Qae,wW,wV,simprocAttr]
        refine cp hc ?_
        simp(disch:=first|omega|exact PairsOK.mk rfl|(simp only[lenW]<;>omega)) only[Qaa,Qad,Qae,wW,wV,simprocAttr]
        exact⟨i+1,by omega,⟨by omega,by rw[hm,hst]⟩,⟨[],rfl,au0,au10,au9⟩⟩
    · have e : i = l.length := by omega
      subst e
      simp(disch:=first|omega|exact PairsOK.mk rfl|(simp only[lenW]<;>omega)) only[hlt,Qaa,Qad,Qae,wW,wV,simprocAttr]
      refine⟨(),by rw[hm,List.drop_eq_nil_of_le (Nat.le_refl _)];rfl,?_⟩
      exact⟨[],rfl,au0,au10,au9⟩
  rintro _ hm
  simp(disch:=first|omega|exact PairsOK.mk rfl|(simp only[lenW]<;>omega)) only[Qaa,Qad,Qae,wW,wV,simprocAttr]
  refine⟨.inr trivial,_,rfl,?_⟩
  rw[hm]
  exact Rn.same rfl
def stV:Option (List Nat)->AV
 |some n=> .tup [sliN n,.bool true]
 |none=> .tup [.nilsl,.bool false]
theorem Qnm (o:Option (List Nat)):noRef (stV o)=true:=by
 cases o with
 |none=>rfl
 |some n=>rw[stV,noRef,noRefs,Qab];rfl
theorem Qj1 {l:List Aut} {t:List Nat} {e:Nat} {k:Nat} (h:stp l t e k=none):∀m,stp l t e (k+m)=none
 |0=>h
 |m+1=>by
  have:=Qj1 h m
  show stp l t e (k+m+1)=none
  unfold stp;rw[this]
theorem Qpp {l:List Nat} {i x:Nat}:(ints (nz l)).set i (.int .i64 (x:Int))=ints (nz (l.set i x)):=by simp[ints,nz,List.map_set]
theorem QoM {l:List Aut} {i:Nat} {x:Aut} (h:l[i]?=some x):((l.map emV).drop i).head?=some (emV x):=by
 rw[List.head?_drop,List.getElem?_map,h];rfl
theorem step100 (l : List Aut) (t : List Nat) (e : Nat) (h : ∀ a ∈ l, WfJ a) (h0 : 0 < l.length) (hl : l.length <= 12) (ht : t.length = l.length) : PSpec Tryz.prog 100 [macV l, sliN t, .int .i64 (e : Int)] (stV (stepT l t e)) := by
  refine PSpec.of_rn 64 TP.ok100 rfl (by rw[noRefs,Qcy,noRefs,Qab];rfl) (Qnm _) ?_
  have hno:=Qa8 l
  have hnm:=Qdn l
  have hml:(l.map emV).length=l.length:=List.length_map ..
  have hcl:=clone56 t (by omega)
  simp(disch:=first|omega|exact PairsOK.mk rfl|(simp only[lenW]<;>omega)) only[TP.s100,Qaa,Qad,Qae,wW,wV,simprocAttr]
  refine ch (HSpec.of_O (b:=83) (by rw[noRefs,Qab];rfl) hcl (by repeat (first|exact Fresh.e|exact Fresh.le (by assumption) (by omega)|refine Fresh.set ?_ (by omega) (by omega))) rfl) ?_
  simp(disch:=first|omega|exact PairsOK.mk rfl|(simp only[lenW]<;>omega)) only[Qaa,Qad,Qae,wW,wV,simprocAttr]
  refine QaB 120 (fun s:Nat×List Nat=>[(1,sliN t),(2,.int .i64 (e:Int)),(3,.ptr 51 0 0),(8,.sl 60 0 0 t.length 1),(16,auts l),(17,.int .i64 l.length),(18,.int .i64 s.1)]) (fun s=>[(51,.cells 0 [auts l,sliN (evA l),.fsl (l.map emV) l.length 1]),(60,.cells 0 (ints (nz s.2)))]) (fun s=>s.1<=l.length/\s.2.length=t.length/\stp l t e s.1=some s.2) (fun s=>l.length-s.1) (0,t) 0 200 (fun n:List Nat=>[(8,.sl 60 0 0 t.length 1)]) (fun n=>[(60,.cells 0 (ints (nz n)))]) (fun n=>n.length=t.length/\stepT l t e=some n) ?_ ⟨Nat.zero_le _,rfl,rfl⟩ ?_ ?_
  · refine ⟨[(51, .blk 64 0), (60, .blk 83 0)], rfl, au0, ?_, au9⟩
    exact RB.cells rfl rfl gg (RnL.same hnm) (RB.cells rfl rfl gg (RnL.same (Qac _)) RB.nil)
  · rintro ⟨i, n⟩ ⟨hi, hn, hs⟩
    dsimp only at hi hn hs⊢
    by_cases hlt:i<l.length
    · obtain ⟨x, hx⟩ := Qal hlt
      obtain⟨y,hy⟩:=Qal (l:=t) (i:=i) (by omega)
      have hyd:t.getD i 0=y:=by rw[List.getD_eq_getElem?_getD,hy];rfl
      have hwi:=h x (List.mem_of_getElem? hx)
      have hdr:=Qdu hx
      have hdl:4<=((l.flatMap auC).drop (i*4)).length:=by rw[hdr];simp
      have hlt2:i<t.length:=by omega
      have hin:i+1<=n.length:=by omega
      have hc:=has189 x.al e hwi.wf.al (by have:=Qnk hwi.wf;omega)
      have hstep:stp l t e (i+1)=if e∈x.al then(match stepA x.es y e with|some to=>some (n.set i to)|none=>none)else some n:=by
        unfold stp;rw[hs,hx,hyd]
        try rfl
      by_cases hq:e∈x.al
      · rw [List.contains_iff_mem.2 hq] at hc
        rw[if_pos hq]at hstep
        simp(disch:=first|omega|exact PairsOK.mk rfl|(simp only[lenW]<;>omega)) only[hlt,hlt2,hdr,hdl,Qaa,Qad,Qae,wW,wV,simprocAttr]
        refine cp hc ?_
        simp(disch:=first|omega|exact PairsOK.mk rfl|(simp only[lenW]<;>omega)) only[hlt,hlt2,QoM hx,Qa5 hy,hml,Qaa,Qad,Qae,wW,wV,simprocAttr]
        cases hst:stepA x.es y e with
        | none =>
          rw[hst]at hstep
          have hk:(y,e)∉x.es.map pE:=fun hm=>by
            obtain⟨d,hd,e2⟩:=List.mem_map.1 hm
            have h3:=QeG hwi.wf.es hd
            unfold pE at e2
            simp only[Prod.mk.injEq]at e2
            rw[e2.1,e2.2,hst]at h3;cases h3
          have hfin:stepT l t e=none:=by
            have:=Qj1 hstep (l.length-(i+1))
            rwa [show i+1+(l.length-(i+1))=l.length by omega]at this
          refine QiV (c:=kP) (f:=vE x.es) (x:=(y,e)) (l:=x.es.map pE) QjU hk ?_
          simp(disch:=first|omega|exact PairsOK.mk rfl|(simp only[lenW]<;>omega)) only[Qaa,Qad,Qae,wW,wV,simprocAttr]
          refine⟨.inr trivial,_,rfl,?_⟩
          rw[hfin]
          exact Rn.same rfl
        | some to =>
          rw[hst]at hstep
          have hv:vE x.es (y,e)= .int .i64 (to:Int):=by unfold vE;rw[hst];rfl
          refine QdO (c:=kP) (f:=vE x.es) (x:=(y,e)) (l:=x.es.map pE) QjU (Qnd hst) ?_
          rw[hv]
          simp(disch:=first|omega|exact PairsOK.mk rfl|(simp only[lenW]<;>omega)) only[hlt2,hin,Qpp,Qaa,Qad,Qae,wW,wV,simprocAttr]
          refine⟨(i+1,n.set i to),by dsimp only;omega,⟨by dsimp only;omega,by rw[List.length_set];exact hn,hstep⟩,?_⟩
          refine⟨[(51,.blk 51 0),(60,.blk 60 0)],rfl,au0,?_,au9⟩
          exact RB.cells rfl rfl gg (RnL.same hnm) (RB.cells rfl rfl gg (RnL.same (Qac _)) RB.nil)
      · rw [show x.al.contains e = false by rw [Bool.eq_false_iff]; exact fun hh => hq (List.contains_iff_mem.1 hh)] at hc
        rw[if_neg hq]at hstep
        simp(disch:=first|omega|exact PairsOK.mk rfl|(simp only[lenW]<;>omega)) only[hlt,hlt2,hdr,hdl,Qaa,Qad,Qae,wW,wV,simprocAttr]
        refine cp hc ?_
        simp(disch:=first|omega|exact PairsOK.mk rfl|(simp only[lenW]<;>omega)) only[Qaa,Qad,Qae,wW,wV,simprocAttr]
        refine⟨(i+1,n),by dsimp only;omega,⟨by dsimp only;omega,hn,hstep⟩,?_⟩
        refine⟨[(51,.blk 51 0),(60,.blk 60 0)],rfl,au0,?_,au9⟩
        exact RB.cells rfl rfl gg (RnL.same hnm) (RB.cells rfl rfl gg (RnL.same (Qac _)) RB.nil)
    · have e2 : i = l.length := by omega
      subst e2
      simp(disch:=first|omega|exact PairsOK.mk rfl|(simp only[lenW]<;>omega)) only[hlt,Qaa,Qad,Qae,wW,wV,simprocAttr]
      refine⟨n,⟨hn,hs⟩,?_⟩
      refine⟨[(60,.blk 60 0)],rfl,au0,?_,au9⟩
      exact RB.cells rfl rfl gg (RnL.same (Qac _)) RB.nil
  rintro n ⟨hn,hs⟩
  simp(disch:=first|omega|exact PairsOK.mk rfl|(simp only[lenW]<;>omega)) only[Qaa,Qad,Qae,wW,wV,simprocAttr]
  refine⟨.inr trivial,_,rfl,?_⟩
  rw[hs]
  refine Rn.tup (RnL.cons ?_ (RnL.same rfl))
  rw[<-hn]
  exact Rn.fz0 gg (by simp[ints]) (RnL.same (Qac _))
end Go.AM.SO
namespace Go.AM.TK
open Go.Proofs
set_option maxHeartbeats 4000000
noncomputable section
def cf:YA.Cf:={}
noncomputable def ft:FT2:=YA.tre Tryz.prog cf 20 [72,98,154,155,156,188,200,201,232,263]
theorem ft_ok:ft.OK Tryz.prog:=YA.Qfc _ _ (YA.Qew (by kernel_rfl))
end
end Go.AM.TK
namespace Go.AM.SO
open Go.Proofs Go.AM.SD
noncomputable section
def keyT (t:List Nat):List UInt8:=t.flatMap fun x=>[UInt8.ofNat (48+x),32]
theorem Qj2:∀{s t:List Nat},s.length=t.length->(∀x∈s,x<10)->(∀x∈t,x<10)->keyT s=keyT t->s=t
 |[],[],_,_,_,_=>rfl
 | x :: s, y :: t, hl, hs, ht, h => by
  have e1:keyT (x::s)=UInt8.ofNat (48+x)::32::keyT s:=rfl
  have e2:keyT (y::t)=UInt8.ofNat (48+y)::32::keyT t:=rfl
  rw[e1,e2]at h
  simp only[List.cons.injEq,true_and]at h
  have hx:=hs x (by simp)
  have hy:=ht y (by simp)
  have h1:x=y:=by
   have:=congrArg UInt8.toNat h.1
   grind [UInt8.toNat_ofNat']
  subst h1
  rw[Qj2 (by simpa using hl) (fun z hz=>hs z (by simp[hz])) (fun z hz=>ht z (by simp[hz])) h.2]
end
end Go.AM.SO
namespace Go.AM.SO
open Go.Proofs Go.AM.SD Go.AM.SE
abbrev ixT (T:List (List Nat)) (n:List Nat):Nat:=T.findIdx (· ==n)
theorem QfA {A B:List (List Nat)} {n:List Nat} (h:A<+:B) (hn:n∈A):ixT A n=ixT B n:=by
 obtain⟨C,rfl⟩:=h
 grind
theorem QhI {A:List (List Nat)} {n:List Nat} (hn:n∉A):ixT A n=A.length:=by
 grind
theorem QoN {A:List (List Nat)} {n:List Nat} (hn:n∉A):ixT A n=ixT (A++[n]) n:=by
 grind
theorem QoO {A:List (List Nat)} {n:List Nat} (hn:n∈A):A[ixT A n]?=some n:=by
 grind
theorem Qhn {A:List (List Nat)} {n:List Nat} (hn:n∈A):ixT A n<A.length:=List.findIdx_lt_length_of_exists ⟨n,hn,by simp⟩
theorem Qnn {A:List (List Nat)} {n:List Nat} {i:Nat} (hd:A.Nodup) (h:A[i]?=some n):ixT A n=i:=by
 grind [QoO,List.getElem?_inj]
def rowE (l:List Aut) (ev:List Nat) (T:List (List Nat)) (j:Nat) (t:List Nat):List Ed:=ev.filterMap fun e=>(stepT l t e).map fun n=>(j,e,ixT T n)
theorem Qma {l:List Aut} {ev:List Nat} {A B:List (List Nat)} {j:Nat} {t:List Nat} (h:A<+:B) (hc:∀e∈ev,∀n,stepT l t e=some n->n∈A):rowE l ev A j t=rowE l ev B j t:=by
 unfold rowE
 refine filterMap_congr' fun e he=>?_
 cases hs:stepT l t e with
 |none=>rfl
 |some n=>simp only[Option.map_some,QfA h (hc e he n hs)]
where
 filterMap_congr' {α β:Type} {f g:α->Option β}:∀{l:List α},(∀x∈l,f x=g x)->l.filterMap f=l.filterMap g
  |[],_=>rfl
  |x::l,h=>by
   rw[List.filterMap_cons,List.filterMap_cons,h x (by simp),filterMap_congr' (l:=l) fun y hy=>h y (by simp[hy])]
theorem QiD {l:List Aut} {i:Nat} {t:List Nat}:∀{ev:List Nat} {s:List (List Nat)×List Ed},
  (pRow l ev i t s).2=s.2++rowE l ev (pRow l ev i t s).1 i t/\∀e∈ev,∀n,stepT l t e=some n->n∈(pRow l ev i t s).1
 |[],s=>by simp_all [pRow,rowE]
 | e :: ev, s => by
  have ih:=QiD (l:=l) (i:=i) (t:=t) (ev:=ev) (s:=pEv l i t s e)
  have hp:=Qcb (l:=l) (i:=i) (t:=t) (ev:=ev) (s:=pEv l i t s e)
  have h1:pRow l (e::ev) i t s=pRow l ev i t (pEv l i t s e):=rfl
  rw[h1]
  obtain⟨i1,i2⟩:=ih
  cases hs:stepT l t e with
  |none=>
   have h2:pEv l i t s e=s:=by grind [pEv]
   rw[h2]at i1 i2 hp⊢
   refine⟨?_,fun e' he' n hn=>?_⟩
   ·simp_all [rowE]
   ·grind
  | some n =>
   have h2:pEv l i t s e=(if n∈s.1 then s.1 else s.1++[n],s.2++[(i,e,ixT s.1 n)]):=by grind [pEv]
   rw[h2]at i1 i2 hp⊢
   have hmem:n∈(if n∈s.1 then s.1 else s.1++[n]):=by grind
   have hix:ixT s.1 n=ixT (if n∈s.1 then s.1 else s.1++[n]) n:=by
    grind
   have hix2:=QfA hp hmem
   refine⟨?_,fun e' he' n' hn=>?_⟩
   ·generalize pRow l ev i t (if n ∈ s.1 then s.1 else s.1 ++ [n], s.2 ++ [(i, e, ixT s.1 n)]) = R at *
    simp_all [rowE]
   ·grind
structure PE (l:List Aut) (ev:List Nat) (i:Nat) (s:List (List Nat)×List Ed):Prop where
 ed:s.2=(List.range i).flatMap fun j=>rowE l ev s.1 j (s.1.getD j [])
 cl:∀j t,j<i->s.1[j]?=some t->∀e∈ev,∀n,stepT l t e=some n->n∈s.1
 le:i<=s.1.length
theorem QgF {A B:List (List Nat)} (h:A<+:B) {j:Nat} (hj:j<A.length):B.getD j []=A.getD j []:=by
 obtain⟨C,rfl⟩:=h
 grind
theorem QfB {A B:List (List Nat)} (h:A<+:B) {j:Nat} (hj:j<A.length):B[j]?=A[j]?:=by
 obtain⟨C,rfl⟩:=h
 grind
theorem flatMap_congr' {α β:Type} {f g:α->List β}:∀{l:List α},(∀x∈l,f x=g x)->l.flatMap f=l.flatMap g
 |[],_=>rfl
 |x::l,h=>by
  rw[List.flatMap_cons,List.flatMap_cons,h x (by simp),flatMap_congr' (l:=l) fun y hy=>h y (by simp[hy])]
theorem PE.row {l:List Aut} {ev:List Nat} {i:Nat} {s:List (List Nat)×List Ed} {t:List Nat} (h:PE l ev i s) (ht:s.1[i]?=some t):PE l ev (i+1) (pRow l ev i t s):=by
  have hp:=Qcb (l:=l) (i:=i) (t:=t) (ev:=ev) (s:=s)
  obtain⟨h1,h2⟩:=QiD (l:=l) (i:=i) (t:=t) (ev:=ev) (s:=s)
  have hi:i<s.1.length:=by
    grind
  refine⟨?_,fun j u hj hu e he n hn=>?_,Nat.le_trans hi hp.length_le⟩
  · rw [h1, List.range_succ, List.flatMap_append, List.flatMap_cons, List.flatMap_nil, List.append_nil]
    have e1:(pRow l ev i t s).1.getD i []=t:=by rw[QgF hp hi,List.getD_eq_getElem?_getD,ht];rfl
    rw[e1]
    congr 1
    rw[h.ed]
    refine flatMap_congr' fun j hj=>?_
    have hj':=List.mem_range.1 hj
    obtain⟨u,hu⟩:=Qal (l:=s.1) (i:=j) (by omega)
    rw[QgF hp (by omega)]
    refine Qma hp fun e he n hn=>?_
    rw[List.getD_eq_getElem?_getD,hu]at hn
    exact h.cl j u hj' hu e he n hn
  · rcases Nat.lt_succ_iff_lt_or_eq.1 hj with hj | rfl
    · rw [QfB hp (by omega)] at hu
      exact hp.subset (h.cl j u hj hu e he n hn)
    grind [QfB]
theorem Qly {l:List Aut} {ev:List Nat} (hw:∀a∈l,∀e∈a.es,e.1<a.n/\e.2.2<a.n):∀{k i:Nat} {s:List (List Nat)×List Ed},PI l s->box l<k+i->PE l ev i s->PE l ev (pQ l ev k i s).1.length (pQ l ev k i s)
 |0,i,s,h,hk,he=>by
  have h1:=QcJ h.nd h.inT
  have h2:=he.le
  omega
 | k + 1, i, s, h, hk, he => by
  unfold pQ
  cases hs:s.1[i]? with
  | none =>
   have h2:=he.le
   have:i=s.1.length:=by
    grind
   rwa [this]at he
  |some t=>exact Qly hw (Qdt hw (h.inT t (List.mem_of_getElem? hs)) h) (by omega) (he.row hs)
theorem QiE {l:List Aut} (h0:∀a∈l,0<a.n) (hw:∀a∈l,∀e∈a.es,e.1<a.n/\e.2.2<a.n):PE l (evA l) (sync0 l).1.length (sync0 l):=
 Qly hw (QgE h0) (by omega) ⟨rfl,fun j t hj=>absurd hj (Nat.not_lt_zero _),Nat.zero_le _⟩
theorem Qn9 {l:List Aut}:[List.replicate l.length 0]<+:(sync0 l).1:=Qhj (s:=([List.replicate l.length 0],[]))
end Go.AM.SO
namespace Go.AM.SO
open Go.Proofs Go.AM.SD Go.AM.SE
def keyC (t:List Nat):AV:= .str (keyT t)
def ixV (T:List (List Nat)) (t:List Nat):AV:= .int .i64 ((ixT T t:Nat):Int)
abbrev tuV (T:List (List Nat)):AV:= .fsl (T.map sliN) T.length 1
theorem Qbs (T:List (List Nat)):noRef (tuV T)=true:=by rw[tuV,noRef];exact Qam Qab _
theorem InT.ltJ {l:List Aut} (h:∀a∈l,WfJ a) {t:List Nat} (ht:InT l t) {x:Nat} (hx:x∈t):x<10:=by
 obtain⟨i,hi,hil⟩:=Qhe hx
 obtain⟨a,ha⟩:=Qal (l:=l) (i:=i) (by rw[<-ht.1];exact hil)
 have h1:=ht.2 i a ha
 rw[List.getD_eq_getElem?_getD,hi]at h1
 have h2:=(h a (List.mem_of_getElem? ha)).n10
 simp only[Option.getD_some]at h1
 omega
theorem Qeh {l:List Aut} (h:∀a∈l,WfJ a) {x:List Nat} {T:List (List Nat)} (hx:InT l x) (hT:∀t∈T,InT l t):KeyG false [.s] keyC x T:=by
 have key:∀y,InT l y->keyEq false [.s] (keyC x) (keyC y)=some (decide (x=y)):=by
  intro y hy
  have e:keyEq false [.s] (keyC x) (keyC y)=some (decide (keyT x=keyT y)):=QdW
  rw[e]
  congr 1
  refine decide_eq_decide.2 ⟨fun hh=>Qj2 (by rw[hx.1,hy.1]) (fun z hz=>?_) (fun z hz=>?_) hh,fun hh=>by rw[hh]⟩
  ·have:=hx.ltJ h hz;omega
  ·have:=hy.ltJ h hz;omega
 refine⟨?_,fun y hy=>key y (hT y hy)⟩
 unfold keyOK
 rw[key x hx]
theorem Qlz {T:List (List Nat)} {n:List Nat} (hn:n∉T):mapG keyC (updG (ixV T) n (.int .i64 ((T.length:Nat):Int))) (T++[n])=mapG keyC (ixV (T++[n])) (T++[n]):=by
 refine Qhd fun x hx=>?_
 unfold updG
 split
 ·rename_i e; subst e
  unfold ixV
  rw[<-QoN hn,QhI hn]
 ·rename_i e
  unfold ixV
  rw[QfA (List.prefix_append T [n]) (by
   rcases List.mem_append.1 hx with hx|hx
   ·exact hx
   ·simp at hx;exact absurd hx e)]
def marks (l:List Aut) (T:List (List Nat)) (i:Nat):List Nat:=(List.range i).filter fun j=>mkdT l (T.getD j [])
theorem Qmb {l:List Aut} {T:List (List Nat)} {i:Nat} {t:List Nat} (ht:T[i]?=some t):marks l T (i+1)=if mkdT l t=true then marks l T i++[i]else marks l T i:=by
 have e:T.getD i []=t:=by rw[List.getD_eq_getElem?_getD,ht];rfl
 unfold marks
 rw[List.range_succ,List.filter_append]
 by_cases hm:mkdT l t=true
 ·rw[if_pos hm,List.filter_cons_of_pos (by rw[e];exact hm),List.filter_nil]
 ·rw[if_neg hm,List.filter_cons_of_neg (by rw[e];exact hm),List.filter_nil,List.append_nil]
theorem QiF {l:List Aut} {A B:List (List Nat)} (h:A<+:B) {i:Nat} (hi:i<=A.length):marks l B i=marks l A i:=by
 unfold marks
 refine List.filter_congr fun j hj=>?_
 rw[QgF h (by have:=List.mem_range.1 hj;omega)]
theorem Qno {l:List Aut} {T:List (List Nat)} {i:Nat}:(marks l T i).length<=i:=by
 have:=List.length_filter_le (fun j=>mkdT l (T.getD j [])) (List.range i)
 rwa [List.length_range]at this
theorem QoP {l:List Aut} {i e:Nat} {t:List Nat} {s:List (List Nat)×List Ed}:(pEv l i t s e).2.length<=s.2.length+1:=by
 unfold pEv
 cases stepT l t e with
 |none=>exact Nat.le_succ _
 |some n=>simp
theorem QeH {l:List Aut} {i:Nat} {t:List Nat}:∀{ev:List Nat} {s:List (List Nat)×List Ed},(pRow l ev i t s).2.length<=s.2.length+ev.length
 |[],s=>Nat.le_refl _
 |e::ev,s=>by
  have h1:=QeH (l:=l) (i:=i) (t:=t) (ev:=ev) (s:=pEv l i t s e)
  have h2:=@QoP l i e t s
  show(pRow l ev i t (pEv l i t s e)).2.length<=_
  rw[List.length_cons];omega
theorem QiG {l:List Aut} {ev:List Nat} {i j e:Nat} {t:List Nat} {s:List (List Nat)×List Ed} (h:ev[j]?=some e):pRow l (ev.take (j+1)) i t s=pEv l i t (pRow l (ev.take j) i t s) e:=by
 unfold pRow
 rw[take_succ' h,List.foldl_append];rfl
theorem QdQ {T:List (List Nat)} {i:Nat} {t:List Nat} (h:T[i]?=some t):(T.map sliN)[i]?=some (sliN t):=by rw[List.getElem?_map,h];rfl
theorem QoQ {l:List Aut} {ev:List Nat} {k i:Nat} {s:List (List Nat)×List Ed} (h:s.1[i]?=none):pQ l ev k i s=s:=by
 cases k with
 |zero=>rfl
 |succ k=>unfold pQ;rw[h]
theorem QeQ {l:List Aut} {ev:List Nat} {i k:Nat} {t:List Nat} {s:List (List Nat)×List Ed}:(pRow l (ev.take k) i t s).1<+:(pRow l ev i t s).1:=by
 have e:pRow l ev i t s=pRow l (ev.drop k) i t (pRow l (ev.take k) i t s):=by
  unfold pRow
  rw[<-List.foldl_append,List.take_append_drop]
 rw[e]
 exact Qcb
def synV (l:List Aut):AV:=if(sync0 l).1.length<=4096 then .tup [aV (syncA l),tuV (sync0 l).1,.int .i64 0]else .tup [.agg [.nilsl,.int .i64 0,.nilsl,.nilsl],.nilsl,.int .i64 3]
theorem sync28J (l : List Aut) (h : ∀ a ∈ l, WfJ a) (h0 : 0 < l.length) (hl : l.length <= 12) (hkey : ∀ t, InT l t -> PSpec Tryz.prog 98 [sliN t] (.str (keyT t))) :
    PSpec Tryz.prog 28 [auts l] (synV l):=by
  have hno:=Qa8 l
  have hnm:=Qdn l
  have hnr0:noRef (.tup [aV (syncA l),tuV (sync0 l).1,.int .i64 0])=true:=by
    rw[noRef,noRefs,noRefs,Qbs,noRef,noRefs,noRefs,noRefs,noRefs,Qab,Qab,Qao];rfl
  have hnr:noRef (synV l)=true:=by
    unfold synV
    split
    · exact hnr0
    · rfl
  have hpos4:(sync0 l).1.length<=4096->synV l= .tup [aV (syncA l),tuV (sync0 l).1,.int .i64 0]:=fun h=>if_pos h
  have hneg4:¬(sync0 l).1.length<=4096->synV l= .tup [.agg [.nilsl,.int .i64 0,.nilsl,.nilsl],.nilsl,.int .i64 3]:=fun h=>if_neg h
  generalize synV l=V at*
  refine PSpec.of_rn 64 TP.ok28 rfl (by rw[noRefs,hno];rfl) hnr ?_
  have hw:∀a∈l,∀e∈a.es,e.1<a.n/\e.2.2<a.n:=fun a ha=>(h a ha).wf.esn
  have hpos:∀a∈l,0<a.n:=fun a ha=>(h a ha).pos
  have hc:=check95 l h (by omega)
  have ho:=open96 l h (by omega)
  have hi:=initial97 l h h0 (by omega)
  have hst0:=QgE (l:=l) hpos
  have hin0:InT l (List.replicate l.length 0):=hst0.inT _ (by simp)
  have hk0:=hkey _ hin0
  have hev5:=Qlx h
  have hml:(l.map emV).length=l.length:=List.length_map ..
  simp(disch:=first|omega|exact PairsOK.mk rfl|(simp only[lenW]<;>omega)) only[TP.s28,Qaa,Qad,Qae,wW,wV,simprocAttr]
  refine cp hc ?_
  simp(disch:=first|omega|exact PairsOK.mk rfl|(simp only[lenW]<;>omega)) only[Qaa,Qad,Qae,wW,wV,simprocAttr]
  refine cp ho ?_
  simp(disch:=first|omega|exact PairsOK.mk rfl|(simp only[lenW]<;>omega)) only[Qaa,Qad,Qae,wW,wV,simprocAttr]
  refine cp hi ?_
  simp(disch:=first|omega|exact PairsOK.mk rfl|(simp only[lenW]<;>omega)) only[Qaa,Qad,Qae,wW,wV,simprocAttr]
  refine cp hk0 ?_
  simp(disch:=first|omega|exact PairsOK.mk rfl|(simp only[lenW]<;>omega)) only[Qaa,Qad,Qae,wW,wV,simprocAttr]
  refine Qca (c:=keyC) (f:=fun _=> .nilsl) (x:=List.replicate l.length 0) (l:=[]) (g:=0) gg (Qeh h hin0 fun t ht=>by cases ht) (by simp) (by omega) ?_
  have hm0:mapG keyC (updG (fun _=> .nilsl) (List.replicate l.length 0) (.int .i64 0)) ([]++[List.replicate l.length 0])=mapG keyC (ixV [List.replicate l.length 0]) [List.replicate l.length 0]:=by
    refine Qhd fun x hx=>?_
    have hx:x=List.replicate l.length 0:=by simpa using hx
    subst hx
    unfold updG ixV
    rw[if_pos rfl]
    simp[ixT]
  rw[hm0]
  simp(disch:=first|omega|exact PairsOK.mk rfl|(simp only[lenW]<;>omega)) only[Qaa,Qad,Qae,wW,wV,simprocAttr]
  refine QaB 320 (fun q:Nat×(List (List Nat)×List Ed)=>[(2,.ptr 51 0 0),(6,.ptr 52 0 0),(3,.sl 60 0 0 q.2.1.length 1),(9,.map 53 0),(10,.int .i64 (q.1))]) (fun q=>[(51,.cells 0 [sliN (evA l),.int .i64 0,.sl 70 0 0 (marks l q.2.1 q.1).length 1,.sl 71 0 0 q.2.2.length 3]),(52,.cells 0 [auts l,sliN (evA l),.fsl (l.map emV) l.length 1]),(53,.map 0 (mapG keyC (ixV q.2.1) q.2.1)),(60,.cells 0 (q.2.1.map sliN)),(70,.cells 0 (ints (nz (marks l q.2.1 q.1)))),(71,.cells 0 (q.2.2.flatMap edC))]) (fun q=>q.1<=q.2.1.length/\PI l q.2/\q.2.2.length<=q.1*32/\q.2.1.length<=4096/\pQ l (evA l) (box l+1-q.1) q.1 q.2=sync0 l) (fun q=>box l+1-q.1) (0,([List.replicate l.length 0],[])) 0 900
    (fun _:Unit=>[(2,.ptr 51 0 0),(3,tuV (sync0 l).1)]) (fun _=>[(51,.cells 0 [sliN (evA l),.int .i64 0,sliN (marks l (sync0 l).1 (sync0 l).1.length),egsN (sync0 l).2])]) (fun _=>(sync0 l).1.length<=4096) ?_ ⟨Nat.zero_le _,hst0,Nat.zero_le _,by show[List.replicate l.length 0].length<=4096;simp,rfl⟩ ?_ ?_
  · refine ⟨[(51, .blk 64 0), (52, .blk 74 0), (53, .blk 92 0), (60, .blk 90 0), (70, .nil), (71, .nil)], rfl, au0, ?_, au9⟩
    exact RB.cells rfl rfl gg (RnL.cons (Rn.same (Qab _)) (RnL.cons (Rn.same rfl) (RnL.cons (Rn.x4 rfl rfl) (RnL.cons (Rn.x4 rfl rfl) RnL.nil)))) (RB.cells rfl rfl gg (RnL.same hnm) (RB.map rfl rfl gg (RnM.mapG fun _ _=>⟨rfl,rfl⟩) (RB.cells rfl rfl gg (RnL.eq (by simp) (Qam Qab _)) (RB.newnil rfl rfl (RB.newnil rfl rfl RB.nil)))))
  · rintro ⟨i, s⟩ ⟨hi, hp, hel, hs4, hq⟩
    dsimp only at hi hp hel hs4 hq⊢
    have hsb:=QcJ hp.nd hp.inT
    have hsml:(s.1.map sliN).length=s.1.length:=List.length_map ..
    by_cases hlt:i<s.1.length
    · obtain ⟨t, ht⟩ := Qal hlt
      have hti:=hp.inT t (List.mem_of_getElem? ht)
      have hmc:=marked99 l t h (by omega) hti.1
      have hms:=Qmb (l:=l) ht
      have hml5:=@Qno l s.1 i
      have hpw:=Qcb (l:=l) (i:=i) (t:=t) (ev:=evA l) (s:=s)
      have hpo:=Qdt (i:=i) (ev:=evA l) hw hti hp
      have hpn:=QeH (l:=l) (i:=i) (t:=t) (ev:=evA l) (s:=s)
      have hq':pQ l (evA l) (box l+1-(i+1)) (i+1) (pRow l (evA l) i t s)=sync0 l:=by
        rw[<-hq,show box l+1-i=(box l+1-(i+1))+1 by omega]
        simp only[pQ,ht]
      cases hmb:mkdT l t
      · rw [hmb] at hmc hms
        rw[if_neg (by simp)]at hms
        simp(disch:=first|omega|exact PairsOK.mk rfl|(simp only[lenW]<;>omega)) only[hlt,QdQ ht,Qaa,Qad,Qae,wW,wV,simprocAttr]
        refine cp hmc ?_
        simp(disch:=first|omega|exact PairsOK.mk rfl|(simp only[lenW]<;>omega)) only[Qaa,Qad,Qae,wW,wV,simprocAttr]
        have hmk:marks l s.1 (i+1)=marks l s.1 i:=hms
        refine QaB 420 (fun j:Nat=>[(2,.ptr 51 0 0),(6,.ptr 52 0 0),(3,.sl 60 0 0 (pRow l ((evA l).take j) i t s).1.length 1),(9,.map 53 0),(10,.int .i64 (i)),(61,sliN (evA l)),(62,.int .i64 (evA l).length),(63,.int .i64 j)]) (fun j=>[(51,.cells 0 [sliN (evA l),.int .i64 0,.sl 70 0 0 (marks l s.1 (i+1)).length 1,.sl 71 0 0 (pRow l ((evA l).take j) i t s).2.length 3]),(52,.cells 0 [auts l,sliN (evA l),.fsl (l.map emV) l.length 1]),(53,.map 0 (mapG keyC (ixV (pRow l ((evA l).take j) i t s).1) (pRow l ((evA l).take j) i t s).1)),(60,.cells 0 ((pRow l ((evA l).take j) i t s).1.map sliN)),(70,.cells 0 (ints (nz (marks l s.1 (i+1))))),(71,.cells 0 ((pRow l ((evA l).take j) i t s).2.flatMap edC))]) (fun j=>j<=(evA l).length/\(pRow l ((evA l).take j) i t s).1.length<=4096) (fun j=>(evA l).length-j) 0 2 700 (fun _:Unit=>[(2,.ptr 51 0 0),(6,.ptr 52 0 0),(3,.sl 60 0 0 (pRow l (evA l) i t s).1.length 1),(9,.map 53 0),(10,.int .i64 (i))]) (fun _=>[(51,.cells 0 [sliN (evA l),.int .i64 0,.sl 70 0 0 (marks l s.1 (i+1)).length 1,.sl 71 0 0 (pRow l (evA l) i t s).2.length 3]),(52,.cells 0 [auts l,sliN (evA l),.fsl (l.map emV) l.length 1]),(53,.map 0 (mapG keyC (ixV (pRow l (evA l) i t s).1) (pRow l (evA l) i t s).1)),(60,.cells 0 ((pRow l (evA l) i t s).1.map sliN)),(70,.cells 0 (ints (nz (marks l s.1 (i+1))))),(71,.cells 0 ((pRow l (evA l) i t s).2.flatMap edC))]) (fun _=>(pRow l (evA l) i t s).1.length<=4096) ?_ ⟨Nat.zero_le _,hs4⟩ ?_ ?_
        · show Rec _ _ [(51, .cells 0 [sliN (evA l), .int .i64 0, .sl 70 0 0 (marks l s.1 (i + 1)).length 1, .sl 71 0 0 s.2.length 3]), (52, .cells 0 [auts l, sliN (evA l), .fsl (l.map emV) l.length 1]), (53, .map 0 (mapG keyC (ixV s.1) s.1)), (60, .cells 0 (s.1.map sliN)), (70, .cells 0 (ints (nz (marks l s.1 (i + 1))))), (71, .cells 0 (s.2.flatMap edC))] _ _
          rw[hmk]
          refine⟨[(51,.blk 51 0),(52,.blk 52 0),(53,.blk 53 0),(60,.blk 60 0),(70,.blk 70 0),(71,.blk 71 0)],rfl,au0,?_,au9⟩
          exact RB.cells rfl rfl gg (RnL.cons (Rn.same (Qab _)) (RnL.cons (Rn.same rfl) (RnL.cons (Rn.x1 rfl rfl) (RnL.cons (Rn.x1 rfl rfl) RnL.nil)))) (RB.cells rfl rfl gg (RnL.same hnm) (RB.map rfl rfl gg (RnM.mapG fun _ _=>⟨rfl,rfl⟩) (RB.cells rfl rfl gg (RnL.same (Qam Qab _)) (RB.cells rfl rfl gg (RnL.same (Qac _)) (RB.cells rfl rfl gg (RnL.same (Qaf _)) RB.nil)))))
        · rintro j ⟨hj, hu4⟩
          by_cases hjl:j<(evA l).length
          · obtain ⟨e, he⟩ := Qal hjl
            have hpi:=Qdt (i:=i) (ev:=(evA l).take j) hw hti hp
            have hpp:=Qcb (l:=l) (i:=i) (t:=t) (ev:=(evA l).take j) (s:=s)
            have hpl:=QeH (l:=l) (i:=i) (t:=t) (ev:=(evA l).take j) (s:=s)
            have hpq:=QeQ (l:=l) (ev:=evA l) (i:=i) (k:=j+1) (t:=t) (s:=s)
            have hps:=QiG (l:=l) (i:=i) (t:=t) (s:=s) he
            rw[List.length_take]at hpl
            generalize pRow l ((evA l).take j) i t s=u at*
            have hui:i<u.1.length:=Nat.lt_of_lt_of_le hlt hpp.length_le
            have hut:u.1[i]?=some t:=by rw[QfB hpp hlt];exact ht
            have hub:=QcJ hpi.nd hpi.inT
            have huml:(u.1.map sliN).length=u.1.length:=List.length_map ..
            have huel:(u.2.flatMap edC).length=u.2.length*3:=Qbg (k:=3) (fun _=>rfl) u.2
            have hst:=step100 l t e h h0 (by omega) hti.1
            cases hs:stepT l t e with
            | none =>
              rw[hs]at hst
              have hpe:pEv l i t u e=u:=by unfold pEv;rw[hs]
              rw[hpe]at hps
              simp(disch:=first|omega|exact PairsOK.mk rfl|(simp only[lenW]<;>omega)) only[hjl,hui,Qa5 he,QdQ hut,Qaa,Qad,Qae,wW,wV,simprocAttr]
              refine cp hst ?_
              simp(disch:=first|omega|exact PairsOK.mk rfl|(simp only[lenW]<;>omega)) only[stV,Qaa,Qad,Qae,wW,wV,simprocAttr]
              refine⟨j+1,by omega,⟨by omega,by rw[hps];exact hu4⟩,?_⟩
              rw[hps]
              refine⟨[(51,.blk 51 0),(52,.blk 52 0),(53,.blk 53 0),(60,.blk 60 0),(70,.blk 70 0),(71,.blk 71 0)],rfl,au0,?_,au9⟩
              exact RB.cells rfl rfl gg (RnL.cons (Rn.same (Qab _)) (RnL.cons (Rn.same rfl) (RnL.cons (Rn.x1 rfl rfl) (RnL.cons (Rn.x1 rfl rfl) RnL.nil)))) (RB.cells rfl rfl gg (RnL.same hnm) (RB.map rfl rfl gg (RnM.mapG fun _ _=>⟨rfl,rfl⟩) (RB.cells rfl rfl gg (RnL.same (Qam Qab _)) (RB.cells rfl rfl gg (RnL.same (Qac _)) (RB.cells rfl rfl gg (RnL.same (Qaf _)) RB.nil)))))
            | some n =>
              rw[hs]at hst
              have hni:=QgD hw hti hs
              have hkn:=hkey n hni
              have hkg:=Qeh h hni hpi.inT
              simp(disch:=first|omega|exact PairsOK.mk rfl|(simp only[lenW]<;>omega)) only[hjl,hui,Qa5 he,QdQ hut,Qaa,Qad,Qae,wW,wV,simprocAttr]
              refine cp hst ?_
              simp(disch:=first|omega|exact PairsOK.mk rfl|(simp only[lenW]<;>omega)) only[stV,Qaa,Qad,Qae,wW,wV,simprocAttr]
              refine cp hkn ?_
              simp(disch:=first|omega|exact PairsOK.mk rfl|(simp only[lenW]<;>omega)) only[Qaa,Qad,Qae,wW,wV,simprocAttr]
              by_cases hm:n∈u.1
              · have hpe : pEv l i t u e = (u.1, u.2 ++ [(i, e, ixT u.1 n)]) := by unfold pEv; rw [hs]; simp only [if_pos hm]
                rw[hpe]at hps
                refine Qga (c:=keyC) (f:=ixV u.1) (x:=n) (l:=u.1) (g:=0) gg hkg hm ?_
                simp(disch:=first|omega|exact PairsOK.mk rfl|(simp only[lenW]<;>omega)) only[ixV,huel,Qaa,Qad,Qae,wW,wV,simprocAttr]
                refine⟨j+1,by omega,⟨by omega,by rw[hps];exact hu4⟩,?_⟩
                rw[hps,List.length_append,List.flatMap_append]
                refine⟨[(51,.blk 51 0),(52,.blk 52 0),(53,.blk 53 0),(60,.blk 60 0),(70,.blk 70 0),(71,.blk 71 1)],rfl,au0,?_,au9⟩
                exact RB.cells rfl rfl gg (RnL.cons (Rn.same (Qab _)) (RnL.cons (Rn.same rfl) (RnL.cons (Rn.x1 rfl rfl) (RnL.cons (Rn.x1 rfl rfl) RnL.nil)))) (RB.cells rfl rfl gg (RnL.same hnm) (RB.map rfl rfl gg (RnM.mapG fun _ _=>⟨rfl,rfl⟩) (RB.cells rfl rfl gg (RnL.same (Qam Qab _)) (RB.cells rfl rfl gg (RnL.same (Qac _)) (RB.cells rfl rfl gg (RnL.same (SU.QaF (Qaf _) rfl)) RB.nil)))))
              · have hpe : pEv l i t u e = (u.1 ++ [n], u.2 ++ [(i, e, u.1.length)]) := by unfold pEv; rw [hs]; simp only [if_neg hm]; rw [show u.1.findIdx (· == n) = u.1.length from QhI hm]
                rw[hpe]at hps
                have hmn:=Qlz hm
                by_cases h4:u.1.length=4096
                · have hlim : ((u.1.length : Nat) : Int) = 4096 := by omega
                  have hbig:¬(sync0 l).1.length<=4096:=by
                    have q1:=hpq.length_le
                    rw[hps,List.length_append,List.length_singleton]at q1
                    have q2:=(Qhj (l:=l) (ev:=evA l) (k:=box l+1-(i+1)) (i:=i+1) (s:=pRow l (evA l) i t s)).length_le
                    rw[hq']at q2
                    omega
                  rw[hneg4 hbig]
                  refine QcI (c:=keyC) (f:=ixV u.1) (x:=n) (l:=u.1) (g:=0) gg hkg hm ?_
                  simp(disch:=first|omega|exact PairsOK.mk rfl|(simp only[lenW]<;>omega)) only[hlim,Qaa,Qad,Qae,wW,wV,simprocAttr]
                  exact⟨.inr trivial,_,rfl,Rn.same rfl⟩
                have hlim:¬((u.1.length:Nat):Int)=4096:=by omega
                refine QcI (c:=keyC) (f:=ixV u.1) (x:=n) (l:=u.1) (g:=0) gg hkg hm ?_
                simp(disch:=first|omega|exact PairsOK.mk rfl|(simp only[lenW]<;>omega)) only[hlim,Qaa,Qad,Qae,wW,wV,simprocAttr]
                refine cp hkn ?_
                simp(disch:=first|omega|exact PairsOK.mk rfl|(simp only[lenW]<;>omega)) only[Qaa,Qad,Qae,wW,wV,simprocAttr]
                refine Qca (c:=keyC) (f:=ixV u.1) (x:=n) (l:=u.1) (g:=0) gg hkg hm (by omega) ?_
                rw[hmn]
                simp(disch:=first|omega|exact PairsOK.mk rfl|(simp only[lenW]<;>omega)) only[huml,huel,Qab,Qaa,Qad,Qae,wW,wV,simprocAttr]
                refine⟨j+1,by omega,⟨by omega,by rw[hps,List.length_append,List.length_singleton];omega⟩,?_⟩
                rw[hps,List.length_append,List.length_append,List.flatMap_append,List.map_append]
                refine⟨[(51,.blk 51 0),(52,.blk 52 0),(53,.blk 53 0),(60,.blk 60 1),(70,.blk 70 0),(71,.blk 71 1)],rfl,au0,?_,au9⟩
                exact RB.cells rfl rfl gg (RnL.cons (Rn.same (Qab _)) (RnL.cons (Rn.same rfl) (RnL.cons (Rn.x1 rfl rfl) (RnL.cons (Rn.x1 rfl rfl) RnL.nil)))) (RB.cells rfl rfl gg (RnL.same hnm) (RB.map rfl rfl gg (RnM.mapG fun _ _=>⟨rfl,rfl⟩) (RB.cells rfl rfl gg (RnL.same (SU.QaF (Qam Qab _) (Qam Qab [n]))) (RB.cells rfl rfl gg (RnL.same (Qac _)) (RB.cells rfl rfl gg (RnL.same (SU.QaF (Qaf _) rfl)) RB.nil)))))
          · have e2 : j = (evA l).length := by omega
            subst e2
            rw[List.take_length]at hu4
            simp(disch:=first|omega|exact PairsOK.mk rfl|(simp only[lenW]<;>omega)) only[hjl,List.take_length,Qaa,Qad,Qae,wW,wV,simprocAttr]
            refine⟨(),hu4,?_⟩
            refine⟨[(51,.blk 51 0),(52,.blk 52 0),(53,.blk 53 0),(60,.blk 60 0),(70,.blk 70 0),(71,.blk 71 0)],rfl,au0,?_,au9⟩
            exact RB.cells rfl rfl gg (RnL.cons (Rn.same (Qab _)) (RnL.cons (Rn.same rfl) (RnL.cons (Rn.x1 rfl rfl) (RnL.cons (Rn.x1 rfl rfl) RnL.nil)))) (RB.cells rfl rfl gg (RnL.same hnm) (RB.map rfl rfl gg (RnM.mapG fun _ _=>⟨rfl,rfl⟩) (RB.cells rfl rfl gg (RnL.same (Qam Qab _)) (RB.cells rfl rfl gg (RnL.same (Qac _)) (RB.cells rfl rfl gg (RnL.same (Qaf _)) RB.nil)))))
        rintro _ hR4
        simp(disch:=first|omega|exact PairsOK.mk rfl|(simp only[lenW]<;>omega)) only[Qaa,Qad,Qae,wW,wV,simprocAttr]
        refine⟨(i+1,pRow l (evA l) i t s),by dsimp only;omega,⟨Nat.le_trans hlt hpw.length_le,hpo,by dsimp only;omega,hR4,hq'⟩,?_⟩
        dsimp only
        rw[QiF hpw hlt]
        refine⟨[(51,.blk 51 0),(52,.blk 52 0),(53,.blk 53 0),(60,.blk 60 0),(70,.blk 70 0),(71,.blk 71 0)],rfl,au0,?_,au9⟩
        exact RB.cells rfl rfl gg (RnL.cons (Rn.same (Qab _)) (RnL.cons (Rn.same rfl) (RnL.cons (Rn.x1 rfl rfl) (RnL.cons (Rn.x1 rfl rfl) RnL.nil)))) (RB.cells rfl rfl gg (RnL.same hnm) (RB.map rfl rfl gg (RnM.mapG fun _ _=>⟨rfl,rfl⟩) (RB.cells rfl rfl gg (RnL.same (Qam Qab _)) (RB.cells rfl rfl gg (RnL.same (Qac _)) (RB.cells rfl rfl gg (RnL.same (Qaf _)) RB.nil)))))
      · rw [hmb] at hmc hms
        rw[if_pos rfl]at hms
        simp(disch:=first|omega|exact PairsOK.mk rfl|(simp only[lenW]<;>omega)) only[hlt,QdQ ht,Qaa,Qad,Qae,wW,wV,simprocAttr]
        refine cp hmc ?_
        simp(disch:=first|omega|exact PairsOK.mk rfl|(simp only[lenW]<;>omega)) only[Qaa,Qad,Qae,wW,wV,simprocAttr]
        have hmk:marks l s.1 (i+1)=marks l s.1 i++[i]:=hms
        refine QaB 420 (fun j:Nat=>[(2,.ptr 51 0 0),(6,.ptr 52 0 0),(3,.sl 60 0 0 (pRow l ((evA l).take j) i t s).1.length 1),(9,.map 53 0),(10,.int .i64 (i)),(61,sliN (evA l)),(62,.int .i64 (evA l).length),(63,.int .i64 j)]) (fun j=>[(51,.cells 0 [sliN (evA l),.int .i64 0,.sl 70 0 0 (marks l s.1 (i+1)).length 1,.sl 71 0 0 (pRow l ((evA l).take j) i t s).2.length 3]),(52,.cells 0 [auts l,sliN (evA l),.fsl (l.map emV) l.length 1]),(53,.map 0 (mapG keyC (ixV (pRow l ((evA l).take j) i t s).1) (pRow l ((evA l).take j) i t s).1)),(60,.cells 0 ((pRow l ((evA l).take j) i t s).1.map sliN)),(70,.cells 0 (ints (nz (marks l s.1 (i+1))))),(71,.cells 0 ((pRow l ((evA l).take j) i t s).2.flatMap edC))]) (fun j=>j<=(evA l).length/\(pRow l ((evA l).take j) i t s).1.length<=4096) (fun j=>(evA l).length-j) 0 2 700 (fun _:Unit=>[(2,.ptr 51 0 0),(6,.ptr 52 0 0),(3,.sl 60 0 0 (pRow l (evA l) i t s).1.length 1),(9,.map 53 0),(10,.int .i64 (i))]) (fun _=>[(51,.cells 0 [sliN (evA l),.int .i64 0,.sl 70 0 0 (marks l s.1 (i+1)).length 1,.sl 71 0 0 (pRow l (evA l) i t s).2.length 3]),(52,.cells 0 [auts l,sliN (evA l),.fsl (l.map emV) l.length 1]),(53,.map 0 (mapG keyC (ixV (pRow l (evA l) i t s).1) (pRow l (evA l) i t s).1)),(60,.cells 0 ((pRow l (evA l) i t s).1.map sliN)),(70,.cells 0 (ints (nz (marks l s.1 (i+1))))),(71,.cells 0 ((pRow l (evA l) i t s).2.flatMap edC))]) (fun _=>(pRow l (evA l) i t s).1.length<=4096) ?_ ⟨Nat.zero_le _,hs4⟩ ?_ ?_
        · show Rec _ _ [(51, .cells 0 [sliN (evA l), .int .i64 0, .sl 70 0 0 (marks l s.1 (i + 1)).length 1, .sl 71 0 0 s.2.length 3]), (52, .cells 0 [auts l, sliN (evA l), .fsl (l.map emV) l.length 1]), (53, .map 0 (mapG keyC (ixV s.1) s.1)), (60, .cells 0 (s.1.map sliN)), (70, .cells 0 (ints (nz (marks l s.1 (i + 1))))), (71, .cells 0 (s.2.flatMap edC))] _ _
          rw[hmk,List.length_append,Qbn,Qa3]
          refine⟨[(51,.blk 51 0),(52,.blk 52 0),(53,.blk 53 0),(60,.blk 60 0),(70,.blk 70 1),(71,.blk 71 0)],rfl,au0,?_,au9⟩
          exact RB.cells rfl rfl gg (RnL.cons (Rn.same (Qab _)) (RnL.cons (Rn.same rfl) (RnL.cons (Rn.x1 rfl rfl) (RnL.cons (Rn.x1 rfl rfl) RnL.nil)))) (RB.cells rfl rfl gg (RnL.same hnm) (RB.map rfl rfl gg (RnM.mapG fun _ _=>⟨rfl,rfl⟩) (RB.cells rfl rfl gg (RnL.same (Qam Qab _)) (RB.cells rfl rfl gg (RnL.same (SU.QaF (Qac _) rfl)) (RB.cells rfl rfl gg (RnL.same (Qaf _)) RB.nil)))))
        · rintro j ⟨hj, hu4⟩
          by_cases hjl:j<(evA l).length
          · obtain ⟨e, he⟩ := Qal hjl
            have hpi:=Qdt (i:=i) (ev:=(evA l).take j) hw hti hp
            have hpp:=Qcb (l:=l) (i:=i) (t:=t) (ev:=(evA l).take j) (s:=s)
            have hpl:=QeH (l:=l) (i:=i) (t:=t) (ev:=(evA l).take j) (s:=s)
            have hpq:=QeQ (l:=l) (ev:=evA l) (i:=i) (k:=j+1) (t:=t) (s:=s)
            have hps:=QiG (l:=l) (i:=i) (t:=t) (s:=s) he
            rw[List.length_take]at hpl
            generalize pRow l ((evA l).take j) i t s=u at*
            have hui:i<u.1.length:=Nat.lt_of_lt_of_le hlt hpp.length_le
            have hut:u.1[i]?=some t:=by rw[QfB hpp hlt];exact ht
            have hub:=QcJ hpi.nd hpi.inT
            have huml:(u.1.map sliN).length=u.1.length:=List.length_map ..
            have huel:(u.2.flatMap edC).length=u.2.length*3:=Qbg (k:=3) (fun _=>rfl) u.2
            have hst:=step100 l t e h h0 (by omega) hti.1
            cases hs:stepT l t e with
            | none =>
              rw[hs]at hst
              have hpe:pEv l i t u e=u:=by unfold pEv;rw[hs]
              rw[hpe]at hps
              simp(disch:=first|omega|exact PairsOK.mk rfl|(simp only[lenW]<;>omega)) only[hjl,hui,Qa5 he,QdQ hut,Qaa,Qad,Qae,wW,wV,simprocAttr]
              refine cp hst ?_
              simp(disch:=first|omega|exact PairsOK.mk rfl|(simp only[lenW]<;>omega)) only[stV,Qaa,Qad,Qae,wW,wV,simprocAttr]
              refine⟨j+1,by omega,⟨by omega,by rw[hps];exact hu4⟩,?_⟩
              rw[hps]
              refine⟨[(51,.blk 51 0),(52,.blk 52 0),(53,.blk 53 0),(60,.blk 60 0),(70,.blk 70 0),(71,.blk 71 0)],rfl,au0,?_,au9⟩
              exact RB.cells rfl rfl gg (RnL.cons (Rn.same (Qab _)) (RnL.cons (Rn.same rfl) (RnL.cons (Rn.x1 rfl rfl) (RnL.cons (Rn.x1 rfl rfl) RnL.nil)))) (RB.cells rfl rfl gg (RnL.same hnm) (RB.map rfl rfl gg (RnM.mapG fun _ _=>⟨rfl,rfl⟩) (RB.cells rfl rfl gg (RnL.same (Qam Qab _)) (RB.cells rfl rfl gg (RnL.same (Qac _)) (RB.cells rfl rfl gg (RnL.same (Qaf _)) RB.nil)))))
            | some n =>
              rw[hs]at hst
              have hni:=QgD hw hti hs
              have hkn:=hkey n hni
              have hkg:=Qeh h hni hpi.inT
              simp(disch:=first|omega|exact PairsOK.mk rfl|(simp only[lenW]<;>omega)) only[hjl,hui,Qa5 he,QdQ hut,Qaa,Qad,Qae,wW,wV,simprocAttr]
              refine cp hst ?_
              simp(disch:=first|omega|exact PairsOK.mk rfl|(simp only[lenW]<;>omega)) only[stV,Qaa,Qad,Qae,wW,wV,simprocAttr]
              refine cp hkn ?_
              simp(disch:=first|omega|exact PairsOK.mk rfl|(simp only[lenW]<;>omega)) only[Qaa,Qad,Qae,wW,wV,simprocAttr]
              by_cases hm:n∈u.1
              · have hpe : pEv l i t u e = (u.1, u.2 ++ [(i, e, ixT u.1 n)]) := by unfold pEv; rw [hs]; simp only [if_pos hm]
                rw[hpe]at hps
                refine Qga (c:=keyC) (f:=ixV u.1) (x:=n) (l:=u.1) (g:=0) gg hkg hm ?_
                simp(disch:=first|omega|exact PairsOK.mk rfl|(simp only[lenW]<;>omega)) only[ixV,huel,Qaa,Qad,Qae,wW,wV,simprocAttr]
                refine⟨j+1,by omega,⟨by omega,by rw[hps];exact hu4⟩,?_⟩
                rw[hps,List.length_append,List.flatMap_append]
                refine⟨[(51,.blk 51 0),(52,.blk 52 0),(53,.blk 53 0),(60,.blk 60 0),(70,.blk 70 0),(71,.blk 71 1)],rfl,au0,?_,au9⟩
                exact RB.cells rfl rfl gg (RnL.cons (Rn.same (Qab _)) (RnL.cons (Rn.same rfl) (RnL.cons (Rn.x1 rfl rfl) (RnL.cons (Rn.x1 rfl rfl) RnL.nil)))) (RB.cells rfl rfl gg (RnL.same hnm) (RB.map rfl rfl gg (RnM.mapG fun _ _=>⟨rfl,rfl⟩) (RB.cells rfl rfl gg (RnL.same (Qam Qab _)) (RB.cells rfl rfl gg (RnL.same (Qac _)) (RB.cells rfl rfl gg (RnL.same (SU.QaF (Qaf _) rfl)) RB.nil)))))
              · have hpe : pEv l i t u e = (u.1 ++ [n], u.2 ++ [(i, e, u.1.length)]) := by unfold pEv; rw [hs]; simp only [if_neg hm]; rw [show u.1.findIdx (· == n) = u.1.length from QhI hm]
                rw[hpe]at hps
                have hmn:=Qlz hm
                by_cases h4:u.1.length=4096
                · have hlim : ((u.1.length : Nat) : Int) = 4096 := by omega
                  have hbig:¬(sync0 l).1.length<=4096:=by
                    have q1:=hpq.length_le
                    rw[hps,List.length_append,List.length_singleton]at q1
                    have q2:=(Qhj (l:=l) (ev:=evA l) (k:=box l+1-(i+1)) (i:=i+1) (s:=pRow l (evA l) i t s)).length_le
                    rw[hq']at q2
                    omega
                  rw[hneg4 hbig]
                  refine QcI (c:=keyC) (f:=ixV u.1) (x:=n) (l:=u.1) (g:=0) gg hkg hm ?_
                  simp(disch:=first|omega|exact PairsOK.mk rfl|(simp only[lenW]<;>omega)) only[hlim,Qaa,Qad,Qae,wW,wV,simprocAttr]
                  exact⟨.inr trivial,_,rfl,Rn.same rfl⟩
                have hlim:¬((u.1.length:Nat):Int)=4096:=by omega
                refine QcI (c:=keyC) (f:=ixV u.1) (x:=n) (l:=u.1) (g:=0) gg hkg hm ?_
                simp(disch:=first|omega|exact PairsOK.mk rfl|(simp only[lenW]<;>omega)) only[hlim,Qaa,Qad,Qae,wW,wV,simprocAttr]
                refine cp hkn ?_
                simp(disch:=first|omega|exact PairsOK.mk rfl|(simp only[lenW]<;>omega)) only[Qaa,Qad,Qae,wW,wV,simprocAttr]
                refine Qca (c:=keyC) (f:=ixV u.1) (x:=n) (l:=u.1) (g:=0) gg hkg hm (by omega) ?_
                rw[hmn]
                simp(disch:=first|omega|exact PairsOK.mk rfl|(simp only[lenW]<;>omega)) only[huml,huel,Qab,Qaa,Qad,Qae,wW,wV,simprocAttr]
                refine⟨j+1,by omega,⟨by omega,by rw[hps,List.length_append,List.length_singleton];omega⟩,?_⟩
                rw[hps,List.length_append,List.length_append,List.flatMap_append,List.map_append]
                refine⟨[(51,.blk 51 0),(52,.blk 52 0),(53,.blk 53 0),(60,.blk 60 1),(70,.blk 70 0),(71,.blk 71 1)],rfl,au0,?_,au9⟩
                exact RB.cells rfl rfl gg (RnL.cons (Rn.same (Qab _)) (RnL.cons (Rn.same rfl) (RnL.cons (Rn.x1 rfl rfl) (RnL.cons (Rn.x1 rfl rfl) RnL.nil)))) (RB.cells rfl rfl gg (RnL.same hnm) (RB.map rfl rfl gg (RnM.mapG fun _ _=>⟨rfl,rfl⟩) (RB.cells rfl rfl gg (RnL.same (SU.QaF (Qam Qab _) (Qam Qab [n]))) (RB.cells rfl rfl gg (RnL.same (Qac _)) (RB.cells rfl rfl gg (RnL.same (SU.QaF (Qaf _) rfl)) RB.nil)))))
          · have e2 : j = (evA l).length := by omega
            subst e2
            rw[List.take_length]at hu4
            simp(disch:=first|omega|exact PairsOK.mk rfl|(simp only[lenW]<;>omega)) only[hjl,List.take_length,Qaa,Qad,Qae,wW,wV,simprocAttr]
            refine⟨(),hu4,?_⟩
            refine⟨[(51,.blk 51 0),(52,.blk 52 0),(53,.blk 53 0),(60,.blk 60 0),(70,.blk 70 0),(71,.blk 71 0)],rfl,au0,?_,au9⟩
            exact RB.cells rfl rfl gg (RnL.cons (Rn.same (Qab _)) (RnL.cons (Rn.same rfl) (RnL.cons (Rn.x1 rfl rfl) (RnL.cons (Rn.x1 rfl rfl) RnL.nil)))) (RB.cells rfl rfl gg (RnL.same hnm) (RB.map rfl rfl gg (RnM.mapG fun _ _=>⟨rfl,rfl⟩) (RB.cells rfl rfl gg (RnL.same (Qam Qab _)) (RB.cells rfl rfl gg (RnL.same (Qac _)) (RB.cells rfl rfl gg (RnL.same (Qaf _)) RB.nil)))))
        rintro _ hR4
        simp(disch:=first|omega|exact PairsOK.mk rfl|(simp only[lenW]<;>omega)) only[Qaa,Qad,Qae,wW,wV,simprocAttr]
        refine⟨(i+1,pRow l (evA l) i t s),by dsimp only;omega,⟨Nat.le_trans hlt hpw.length_le,hpo,by dsimp only;omega,hR4,hq'⟩,?_⟩
        dsimp only
        rw[QiF hpw hlt]
        refine⟨[(51,.blk 51 0),(52,.blk 52 0),(53,.blk 53 0),(60,.blk 60 0),(70,.blk 70 0),(71,.blk 71 0)],rfl,au0,?_,au9⟩
        exact RB.cells rfl rfl gg (RnL.cons (Rn.same (Qab _)) (RnL.cons (Rn.same rfl) (RnL.cons (Rn.x1 rfl rfl) (RnL.cons (Rn.x1 rfl rfl) RnL.nil)))) (RB.cells rfl rfl gg (RnL.same hnm) (RB.map rfl rfl gg (RnM.mapG fun _ _=>⟨rfl,rfl⟩) (RB.cells rfl rfl gg (RnL.same (Qam Qab _)) (RB.cells rfl rfl gg (RnL.same (Qac _)) (RB.cells rfl rfl gg (RnL.same (Qaf _)) RB.nil)))))
    · have hfin : s = sync0 l := by
        rw[<-hq,QoQ (List.getElem?_eq_none (by omega))]
      have e2:i=s.1.length:=by omega
      subst e2
      rw[<-hfin]
      simp(disch:=first|omega|exact PairsOK.mk rfl|(simp only[lenW]<;>omega)) only[hlt,Qaa,Qad,Qae,wW,wV,simprocAttr]
      refine⟨(),hs4,[(51,.blk 51 0)],rfl,RO.zero,?_,?_⟩
      · exact RB.cells rfl rfl gg (RnL.cons (Rn.same (Qab _)) (RnL.cons (Rn.same rfl) (RnL.cons (Rn.fzm rfl rfl rfl rfl (by simp[ints]) (RnL.same (Qac _))) (RnL.cons (Rn.fzm rfl rfl rfl rfl (Qbg (k:=3) (fun _=>rfl) _) (RnL.same (Qaf _))) RnL.nil)))) RB.nil
      · exact RT.cons (Rn.x2 rfl rfl) (RT.cons (Rn.fz (b:=60) (g:=0) gg rfl rfl (by simp) (RnL.same (Qam Qab _))) RT.nil)
  rintro _ hE4
  rw[hpos4 hE4]
  simp(disch:=first|omega|exact PairsOK.mk rfl|(simp only[lenW]<;>omega)) only[Qaa,Qad,Qae,wW,wV,simprocAttr]
  refine⟨.inr trivial,_,rfl,?_⟩
  exact Rn.same hnr0
end Go.AM.SO
namespace Go.AM.SO
open Go.Proofs Go.AM.SD Go.AM.SE
theorem Qpq (l:List Aut):noRef (.tup [aV (syncA l),tuV (sync0 l).1,.int .i64 0])=true:=by
 rw[noRef,noRefs,noRefs,Qbs,noRef,noRefs,noRefs,noRefs,noRefs,Qab,Qab,Qao];rfl
theorem QhJ {T:List (List Nat)} {i:Nat} {t:List Nat} (h:T[i]?=some t):((T.map sliN).drop i).head?=some (sliN t):=by
 rw[List.head?_drop,QdQ h]
end Go.AM.SO
namespace Go.AM.SO
open Go.Proofs Go.AM.SD Go.AM.SE
theorem index195 {K : Nat} {cap : List AV} (q : (Nat × Nat) -> Bool) (l : List (Nat × Nat)) (hl : l.length <= 1000000) (hc : noRefs cap = true) (hk : ∀ x ∈ l, PSpec Tryz.prog K (.agg [.int .i64 (x.1 : Int), .int .i64 (x.2 : Int)] :: cap) (.bool (q x))) : PSpec Tryz.prog 195 [los l, .fn K [] cap] (.int .i64 (idxQ q l)) := by
  refine PSpec.Qau 64 TQ.ok195 rfl (by rw[noRefs,noRefs,Qbl hc,(SU.QdY _)];rfl) rfl ?_
  have hfn:=Qbl (K:=K) hc
  have hln:=SU.Qpk l
  simp(disch:=first|omega|exact PairsOK.mk rfl|(simp only[lenW]<;>omega)) only[TQ.s195,Qaa,Qad,Qae,wW,wV,simprocAttr]
  refine Qba 100 (fun i:Nat=>[(0,los l),(1,.fn K [] cap),(7,.int .i64 l.length),(8,.int .i64 i)]) (fun _=>[]) (fun i=>i<=l.length/\∀(j:Nat) y,j<i->l[j]?=some y->q y=false) (fun i=>l.length-i) 0 ?_ ⟨Nat.zero_le _,fun j y hj=>absurd hj (Nat.not_lt_zero _)⟩ ?_
  · exact⟨[],rfl,RO.zero,RB.nil,RT.cons (Rn.same (SU.QdY _)) (RT.cons (Rn.same hfn) (RT.cons (Rn.same rfl) (RT.cons (Rn.same rfl) RT.nil)))⟩
  rintro i ⟨hi,hb⟩
  by_cases hlt:i<l.length
  · obtain ⟨x, hx⟩ := Qal hlt
    have hn:=hk x (List.mem_of_getElem? hx)
    have hdr:=QoI hx
    have hdl:2<=(List.drop (i*2) (l.flatMap loC)).length:=by rw[List.length_drop,hln];omega
    cases hq:q x
    · rw [hq] at hn
      simp(disch:=first|omega|exact PairsOK.mk rfl|(simp only[lenW]<;>omega)) only[hlt,hdr,hdl,List.head?_cons,Qaa,Qad,Qae,wW,wV,simprocAttr]
      refine⟨_,by simpa using hn,?_⟩
      simp(disch:=first|omega|exact PairsOK.mk rfl|(simp only[lenW]<;>omega)) only[Qaa,Qad,Qae,wW,wV,simprocAttr]
      refine⟨i+1,by omega,⟨by omega,fun j y hj hy=>?_⟩,?_⟩
      · by_cases e : j = i
        · subst e;rw[hx]at hy;cases hy;exact hq
        · exact hb j y (by omega) hy
      · exact⟨[],rfl,RO.zero,RB.nil,RT.cons (Rn.same (SU.QdY _)) (RT.cons (Rn.same hfn) (RT.cons (Rn.same rfl) (RT.cons (Rn.same rfl) RT.nil)))⟩
    · rw [hq] at hn
      simp(disch:=first|omega|exact PairsOK.mk rfl|(simp only[lenW]<;>omega)) only[hlt,hdr,hdl,List.head?_cons,Qaa,Qad,Qae,wW,wV,simprocAttr]
      refine⟨_,by simpa using hn,?_⟩
      simp(disch:=first|omega|exact PairsOK.mk rfl|(simp only[lenW]<;>omega)) only[Qaa,Qad,Qae,wW,wV,simprocAttr]
      refine⟨.inr trivial,_,rfl,?_⟩
      rw[QhH hx hq hb];rfl
  · simp (disch := first | omega | exact PairsOK.mk rfl | (simp only [lenW] <;> omega)) only [hlt, Qaa, Qad, Qae, wW, wV, simprocAttr]
    refine⟨.inr trivial,_,rfl,?_⟩
    rw[Qfo fun x hx=>by
      obtain⟨j,hj,hjl⟩:=List.getElem_of_mem hx
      exact hb j x (by omega) (by rw[List.getElem?_eq_getElem hj,hjl])];rfl
theorem contains115 {K:Nat} {cap:List AV} (q:Nat×Nat->Bool) (l:List (Nat×Nat)) (hl:l.length<=1000000) (hc:noRefs cap=true) (hk:∀x∈l,PSpec Tryz.prog K (.agg [.int .i64 (x.1:Int),.int .i64 (x.2:Int)]::cap) (.bool (q x))):PSpec Tryz.prog 115 [los l,.fn K [] cap] (.bool (l.any q)):=by
 refine PSpec.Qau 64 TQ.ok115 rfl (by rw[noRefs,noRefs,Qbl hc,SU.QdY];rfl) rfl ?_
 have h:=index195 q l hl hc hk
 have hfn:=Qbl (K:=K) hc
 have hge:=@Qlv _ q l
 generalize idxQ q l=a at*
 simp(disch:=first|omega|exact PairsOK.mk rfl|(simp only[lenW]<;>omega)) only[TQ.s115,Qaa,Qad,Qae,wW,wV,simprocAttr]
 refine cp h ?_
 simp(disch:=first|omega|exact PairsOK.mk rfl|(simp only[lenW]<;>omega)) only[hge,Qaa,Qad,Qae,wW,wV,simprocAttr]
 exact⟨.inr trivial,_,rfl,rfl⟩
theorem other234 (t:List Nat) (c s y:Nat) (hy:t[c]?=some y):PSpec Tryz.prog 234 [.agg [.int .i64 (c:Int),.int .i64 (s:Int)],.fptr [sliN t]] (.bool (!decide (y=s))):=by
 refine PSpec.Qau 64 TQ.ok234 rfl (by simp only[noRefs,noRef,Qac];rfl) rfl ?_
 have hc:c<t.length:=(List.getElem?_eq_some_iff.1 hy).1
 have hd:decide ((y:Int)=(s:Int))=decide (y=s):=decide_eq_decide.2 (by omega)
 simp(disch:=first|omega|exact PairsOK.mk rfl|(simp only[lenW]<;>omega)) only[TQ.s234,Qa5 hy,hc,hd,Qaa,Qad,Qae,wW,wV,simprocAttr]
 exact⟨.inr trivial,_,rfl,rfl⟩
def exQ (t:List Nat) (x:Nat×List (Nat×Nat)):Bool:= !x.2.any fun l=> !decide (t.getD l.1 0=l.2)
theorem excl233 (t:List Nat) (x:Nat×List (Nat×Nat)) (hl:x.2.length<=1000) (ht:∀l∈x.2,l.1<t.length):PSpec Tryz.prog 233 [sliN t,.fptr (exC x)] (.bool (exQ t x)):=by
  have hnx:noRefs (exC x)=true:=by simp only[exC,noRefs,noRef,SU.QbR];rfl
  refine PSpec.Qau 64 TQ.ok233 rfl (by rw[noRefs,noRefs,Qab,noRef,hnx];rfl) rfl ?_
  have hC:=contains115 (K:=234) (cap:=[.fptr [sliN t]]) (fun l=> !decide (t.getD l.1 0=l.2)) x.2 (by omega) (by simp only[noRefs,noRef,Qac];rfl) fun l hm=>by
    obtain⟨y,hy⟩:=Qal (ht l hm)
    have:=other234 t l.1 l.2 y hy
    rwa [show t.getD l.1 0=y by rw[List.getD_eq_getElem?_getD,hy];rfl]
  show wS _ _ _ _ _ (argT 0 [sliN t,.fptr [.str [101,UInt8.ofNat (48+x.1)],los x.2]]) _ _
  unfold exQ
  generalize x.2.any (fun l=> !decide (t.getD l.1 0=l.2))=b at*
  simp(disch:=first|omega|exact PairsOK.mk rfl|(simp only[lenW]<;>omega)) only[TQ.s233,Qaa,Qad,Qae,wW,wV,simprocAttr]
  refine SU.chc (HSpec.lend (FrzL.cons (FrzTo.same _) (FrzL.cons (FrzTo.fn FrzL.nil (FrzL.cons (FrzTo.ptr (g:=0) (cs:=[sliN t]) gg (FrzL.same _)) FrzL.nil)) FrzL.nil)) hC rfl) ?_
  simp(disch:=first|omega|exact PairsOK.mk rfl|(simp only[lenW]<;>omega)) only[Qaa,Qad,Qae,wW,wV,simprocAttr]
  exact⟨.inr trivial,_,rfl,rfl⟩
def koV (t:List Nat) (l:List (Nat×Int)):Int:=(l.map fun x=>x.2*(t.getD x.1 0:Int)).foldl (· + ·) 0
theorem Qj3 {t:List Nat} {l:List (Nat×Int)} {i:Nat} {x:Nat×Int} (h:l[i]?=some x):koV t (l.take (i+1))=koV t (l.take i)+x.2*(t.getD x.1 0:Int):=by
 unfold koV
 rw[take_succ' h,List.map_append,List.foldl_append];rfl
theorem QiH {a b:Int} (h: -4<a/\a<4) (hb:0<=b/\b<3): -12<=a*b/\a*b<=12:=by
 obtain rfl|rfl|rfl:b=0\/b=1\/b=2:=by omega
 ·omega
 ·omega
 ·omega
theorem QiI {t : List Nat} (ht : ∀ x ∈ t, x < 3) {l : List (Nat × Int)} (hl : ∀ x ∈ l, -4 < x.2 /\ x.2 < 4) : ∀ i, i <= l.length -> -12 * (i : Int) <= koV t (l.take i) /\ koV t (l.take i) <= 12 * (i : Int)
  |0,_=>by simp[koV]
  | i + 1, hi => by
    obtain⟨x,hx⟩:=Qal (l:=l) (i:=i) (by omega)
    rw[Qj3 hx]
    have h1:=QiI ht hl i (by omega)
    have hb:(0:Int)<=(t.getD x.1 0:Int)/\(t.getD x.1 0:Int)<3:=by
      refine⟨by omega,?_⟩
      rcases Nat.lt_or_ge x.1 t.length with h|h
      · have := ht (t.getD x.1 0) (by rw [List.getD_eq_getElem?_getD, List.getElem?_eq_getElem h]; exact List.getElem_mem h)
        omega
      · rw[List.getD_eq_getElem?_getD,List.getElem?_eq_none h];decide
    have h2:=QiH (hl x (List.mem_of_getElem? hx)) hb
    omega
theorem _root_.Go.AM.au11 {p:Prop} (h:p:=by repeat (first|exact RT.nil|(refine RT.cons ?_ ?_; · (first|exact Rn.any|exact Rn.x1 rfl rfl|exact Rn.x2 rfl rfl|exact Rn.x3 rfl rfl|exact Rn.x4 rfl rfl|exact Rn.x5 rfl|exact Rn.x6 rfl|exact Rn.x7 rfl|(refine Rn.slot ?_ ?_;(first|rfl|(rw[Int.natCast_add];rfl));(first|rfl|(simp only[noRef,noRefs,Qak,Bool.and_self,Bool.and_true,Bool.true_and,Qac,Qaq,Qab,SU.QbR,SU.QbK,SU.Qdd,SU.QdZ,SU.Qd0];done)))|(refine Rn.fn ?_ ?_<;>(repeat' (first|exact RnL.nil|refine RnL.cons ?_ ?_|exact Rn.same rfl|exact Rn.x6 rfl|exact Rn.x2 rfl rfl|exact Rn.x5 rfl|exact Rn.x1 rfl rfl))))))):p:=h
theorem _root_.Go.AM.au12 {p:Prop} (h:p:=by repeat' (first|exact RB.nil|(refine RnL.same ?_;first|rfl|(simp only[noRef,noRefs,Qak,Bool.and_self,Bool.and_true,Bool.true_and,Qac,Qaq,Qab,SU.QbR,SU.QbK,SU.Qdd,SU.QdZ,SU.Qd0];done))|exact RnM.keyM rfl|exact RnL.nil|exact(True.intro:RnM _ _ _ [] [])|refine RnL.cons ?_ ?_|(refine Rn.same ?_;first|rfl|(simp only[noRef,noRefs,Qak,Bool.and_self,Bool.and_true,Bool.true_and,Qac,Qaq,Qab,SU.QbR,SU.QbK,SU.Qdd,SU.QdZ,SU.Qd0];done))|exact Rn.x1 rfl rfl|exact Rn.x2 rfl rfl|exact Rn.x3 rfl rfl|exact Rn.x4 rfl rfl|exact Rn.x5 rfl|exact Rn.x6 rfl|exact Rn.x7 rfl|refine RB.newnil rfl rfl ?_|refine RB.cells rfl rfl rfl ?_ ?_|refine RB.map rfl rfl rfl ?_ ?_|refine RB.cellsB rfl rfl ?_ ?_|refine RB.mapB rfl rfl ?_ ?_)):p:=h
theorem value236 (t:List Nat) (k:List (Nat×Int)×Int) (hk:k.1.length<=1000) (ht:∀x∈t,x<3) (hc:∀x∈k.1,x.1<t.length/\ -4<x.2/\x.2<4):PSpec Tryz.prog 236 [.agg (coC k),sliN t] (.int .i64 (koV t k.1)):=by
  have hnk:noRefs (coC k)=true:=by simp only[coC,noRefs,noRef,SU.QbK];rfl
  refine PSpec.Qau 64 TQ.ok236 rfl (by rw[noRefs,noRefs,Qab,noRef,hnk];rfl) rfl ?_
  have hln:=SU.Qpj k.1
  have hsm:=QiI ht fun x hx=>(hc x hx).2
  show wS _ _ _ _ _ (argT 0 [.agg [.str [107],tes k.1,.int .i64 k.2],sliN t]) _ _
  simp(disch:=first|omega|exact PairsOK.mk rfl|(simp only[lenW]<;>omega)) only[TQ.s236,Qaa,Qad,Qae,wW,wV,simprocAttr]
  refine QaB 100 (fun i:Nat=>[(1,sliN t),(5,.int .i64 (koV t (k.1.take i))),(9,tes k.1),(10,.int .i64 k.1.length),(11,.int .i64 i)]) (fun _=>[]) (fun i=>i<=k.1.length) (fun i=>k.1.length-i) 0 0 160 (fun _:Unit=>[(5,.int .i64 (koV t k.1))]) (fun _=>[]) (fun _=>True) ?_ (Nat.zero_le _) ?_ ?_
  · exact⟨[],rfl,RO.zero,RB.nil,RT.cons (Rn.same (Qab _)) (RT.cons (Rn.same rfl) (RT.cons (Rn.same (SU.QiB _)) au11))⟩
  · rintro i hi
    by_cases hlt:i<k.1.length
    · obtain ⟨x, hx⟩ := Qal hlt
      obtain⟨h1,h2⟩:=hc x (List.mem_of_getElem? hx)
      obtain⟨y,hy⟩:=Qal h1
      have hyt:=ht y (List.mem_of_getElem? hy)
      have hyd:t.getD x.1 0=y:=by rw[List.getD_eq_getElem?_getD,hy];rfl
      have hdr:=SU.QoH hx
      have hdl:2<=((k.1.flatMap teC).drop (i*2)).length:=by rw[hdr];simp
      have hsu:=Qj3 (t:=t) hx
      rw[hyd]at hsu
      have hp:=QiH h2 (b:=(y:Int)) ⟨by omega,by omega⟩
      have hs1:=hsm i hi
      have hw1:wr .i64 (x.2*(y:Int))=x.2*(y:Int):=Qg1 (by omega) (by omega)
      have hw2:wr .i64 (koV t (k.1.take i)+x.2*(y:Int))=koV t (k.1.take i)+x.2*(y:Int):=Qg1 (by omega) (by omega)
      simp(disch:=first|omega|exact PairsOK.mk rfl|(simp only[lenW]<;>omega)) only[hlt,hdr,hdl,h1,Qa5 hy,hw1,hw2,Qaa,Qad,Qae,wW,wV,simprocAttr]
      refine⟨i+1,by omega,by omega,?_⟩
      rw[hsu]
      exact⟨[],rfl,RO.zero,RB.nil,RT.cons (Rn.same (Qab _)) (RT.cons (Rn.same rfl) (RT.cons (Rn.same (SU.QiB _)) au11))⟩
    · have e : i = k.1.length := by omega
      subst e
      simp(disch:=first|omega|exact PairsOK.mk rfl|(simp only[lenW]<;>omega)) only[hlt,List.take_length,Qaa,Qad,Qae,wW,wV,simprocAttr]
      exact⟨(),⟨[],rfl,au0,au12,au11⟩⟩
  rintro _ _
  simp(disch:=first|omega|exact PairsOK.mk rfl|(simp only[lenW]<;>omega)) only[Qaa,Qad,Qae,wW,wV,simprocAttr]
  exact⟨.inr trivial,_,rfl,rfl⟩
def koQ (t:List Nat) (k:List (Nat×Int)×Int):Bool:=decide (k.2<koV t k.1)
theorem excd235 (t:List Nat) (k:List (Nat×Int)×Int) (hk:k.1.length<=1000) (ht:∀x∈t,x<3) (hc:∀x∈k.1,x.1<t.length/\ -4<x.2/\x.2<4):PSpec Tryz.prog 235 [sliN t,.fptr (coC k)] (.bool (koQ t k)):=by
 have hnk:noRefs (coC k)=true:=by simp only[coC,noRefs,noRef,SU.QbK];rfl
 refine PSpec.Qau 64 TQ.ok235 rfl (by rw[noRefs,noRefs,Qab,noRef,hnk];rfl) rfl ?_
 have hv:=value236 t k hk ht hc
 show wS _ _ _ _ _ (argT 0 [sliN t,.fptr [.str [107],tes k.1,.int .i64 k.2]]) _ _
 unfold koQ
 simp(disch:=first|omega|exact PairsOK.mk rfl|(simp only[lenW]<;>omega)) only[TQ.s235,Qaa,Qad,Qae,wW,wV,simprocAttr]
 refine cp hv ?_
 simp(disch:=first|omega|exact PairsOK.mk rfl|(simp only[lenW]<;>omega)) only[Qaa,Qad,Qae,wW,wV,simprocAttr]
 exact⟨.inr trivial,_,rfl,rfl⟩
def cdF:(Nat×List (Nat×Nat))⊕(List (Nat×Int)×Int)->AV
 | .inl x=> .fn 233 [] [.fptr (exC x)]
 | .inr k=> .fn 235 [] [.fptr (coC k)]
def cdQ (t:List Nat):(Nat×List (Nat×Nat))⊕(List (Nat×Int)×Int)->Bool
 | .inl x=>exQ t x
 | .inr k=>koQ t k
def cdA (xs:List (Nat×List (Nat×Nat))) (ks:List (List (Nat×Int)×Int)):List ((Nat×List (Nat×Nat))⊕(List (Nat×Int)×Int)):=xs.map .inl++ks.map .inr
abbrev cdL (l:List ((Nat×List (Nat×Nat))⊕(List (Nat×Int)×Int))):AV:= .fsl (l.map cdF) l.length 1
theorem Qbt (x:(Nat×List (Nat×Nat))⊕(List (Nat×Int)×Int)):noRef (cdF x)=true:=by
 cases x with
 |inl x=>simp only[cdF,exC,noRef,noRefs,SU.QbR];rfl
 |inr k=>simp only[cdF,coC,noRef,noRefs,SU.QbK];rfl
theorem Qcz (l:List ((Nat×List (Nat×Nat))⊕(List (Nat×Int)×Int))):noRef (cdL l)=true:=by rw[cdL,noRef];exact Qam Qbt _
theorem QoR {l:List ((Nat×List (Nat×Nat))⊕(List (Nat×Int)×Int))} {i:Nat} {x:(Nat×List (Nat×Nat))⊕(List (Nat×Int)×Int)} (h:l[i]?=some x):((l.map cdF).drop i).head?=some (cdF x):=by
 rw[List.head?_drop,List.getElem?_map,h];rfl
theorem index203 {K : Nat} {cap : List AV} (q : ((Nat × List (Nat × Nat)) ⊕ (List (Nat × Int) × Int)) -> Bool) (l : List ((Nat × List (Nat × Nat)) ⊕ (List (Nat × Int) × Int))) (hl : l.length <= 1000000) (hc : noRefs cap = true) (hk : ∀ x ∈ l, PSpec Tryz.prog K (cdF x :: cap) (.bool (q x))) : PSpec Tryz.prog 203 [cdL l, .fn K [] cap] (.int .i64 (idxQ q l)) := by
  refine PSpec.Qau 64 TQ.ok203 rfl (by rw[noRefs,noRefs,Qbl hc,(Qcz _)];rfl) rfl ?_
  have hfn:=Qbl (K:=K) hc
  have hln:=(show(l.map cdF).length=l.length*1 by simp)
  simp(disch:=first|omega|exact PairsOK.mk rfl|(simp only[lenW]<;>omega)) only[TQ.s203,Qaa,Qad,Qae,wW,wV,simprocAttr]
  refine Qba 100 (fun i:Nat=>[(0,cdL l),(1,.fn K [] cap),(7,.int .i64 l.length),(8,.int .i64 i)]) (fun _=>[]) (fun i=>i<=l.length/\∀(j:Nat) y,j<i->l[j]?=some y->q y=false) (fun i=>l.length-i) 0 ?_ ⟨Nat.zero_le _,fun j y hj=>absurd hj (Nat.not_lt_zero _)⟩ ?_
  · exact⟨[],rfl,RO.zero,RB.nil,RT.cons (Rn.same (Qcz _)) (RT.cons (Rn.same hfn) (RT.cons (Rn.same rfl) (RT.cons (Rn.same rfl) RT.nil)))⟩
  rintro i ⟨hi,hb⟩
  by_cases hlt:i<l.length
  · obtain ⟨x, hx⟩ := Qal hlt
    have hn:=hk x (List.mem_of_getElem? hx)
    have hdr:=QoR hx
    have hdl:1<=(List.drop (i*1) (l.map cdF)).length:=by rw[List.length_drop,hln];omega
    cases hq:q x
    · rw [hq] at hn
      simp(disch:=first|omega|exact PairsOK.mk rfl|(simp only[lenW]<;>omega)) only[hlt,hdr,hdl,List.head?_cons,Qaa,Qad,Qae,wW,wV,simprocAttr]
      refine⟨_,by simpa using hn,?_⟩
      simp(disch:=first|omega|exact PairsOK.mk rfl|(simp only[lenW]<;>omega)) only[Qaa,Qad,Qae,wW,wV,simprocAttr]
      refine⟨i+1,by omega,⟨by omega,fun j y hj hy=>?_⟩,?_⟩
      · by_cases e : j = i
        · subst e;rw[hx]at hy;cases hy;exact hq
        · exact hb j y (by omega) hy
      · exact⟨[],rfl,RO.zero,RB.nil,RT.cons (Rn.same (Qcz _)) (RT.cons (Rn.same hfn) (RT.cons (Rn.same rfl) (RT.cons (Rn.same rfl) RT.nil)))⟩
    · rw [hq] at hn
      simp(disch:=first|omega|exact PairsOK.mk rfl|(simp only[lenW]<;>omega)) only[hlt,hdr,hdl,List.head?_cons,Qaa,Qad,Qae,wW,wV,simprocAttr]
      refine⟨_,by simpa using hn,?_⟩
      simp(disch:=first|omega|exact PairsOK.mk rfl|(simp only[lenW]<;>omega)) only[Qaa,Qad,Qae,wW,wV,simprocAttr]
      refine⟨.inr trivial,_,rfl,?_⟩
      rw[QhH hx hq hb];rfl
  · simp (disch := first | omega | exact PairsOK.mk rfl | (simp only [lenW] <;> omega)) only [hlt, Qaa, Qad, Qae, wW, wV, simprocAttr]
    refine⟨.inr trivial,_,rfl,?_⟩
    rw[Qfo fun x hx=>by
      obtain⟨j,hj,hjl⟩:=List.getElem_of_mem hx
      exact hb j x (by omega) (by rw[List.getElem?_eq_getElem hj,hjl])];rfl
end Go.AM.SO
namespace Go.AM.SO
open Go.Proofs Go.AM.SD Go.AM.SE
structure TOk (S:List Nat) (t:List Nat) (xs:List (Nat×List (Nat×Nat))) (ks:List (List (Nat×Int)×Int)):Prop where
 ln:t.length=S.length
 l3:t.length<=1000
 t3:∀k∈ks,∀x∈t,x<3
 lt:∀(i:Nat) x n,t[i]?=some x->S[i]?=some n->x<n
 xl:∀x∈xs,x.2.length<=1000/\∀l∈x.2,l.1<t.length
 kl:∀k∈ks,k.1.length<=1000/\∀x∈k.1,x.1<t.length/\ -4<x.2/\x.2<4
 xn:xs.length<=1000
 kn:ks.length<=1000
variable {S t:List Nat} {xs:List (Nat×List (Nat×Nat))} {ks:List (List (Nat×Int)×Int)}
theorem call204 (h:TOk S t xs ks) {x:(Nat×List (Nat×Nat))⊕(List (Nat×Int)×Int)} (hx:x∈cdA xs ks):PSpec Tryz.prog 204 [cdF x,.fptr [sliN t]] (.bool (cdQ t x)):=by
 refine PSpec.Qau 64 TQ.ok204 rfl (by rw[noRefs,Qbt,noRefs];simp only[noRefs,noRef,Qac];rfl) rfl ?_
 unfold cdA at hx
 rcases List.mem_append.1 hx with hx|hx
 ·obtain ⟨y, hy, rfl⟩ := List.mem_map.1 hx
  have hc:=excl233 t y (h.xl y hy).1 (h.xl y hy).2
  simp(disch:=first|omega|exact PairsOK.mk rfl|(simp only[lenW]<;>omega)) only[TQ.s204,cdF,Qaa,Qad,Qae,wW,wV,simprocAttr]
  refine⟨_,by simpa using hc,?_⟩
  simp(disch:=first|omega|exact PairsOK.mk rfl|(simp only[lenW]<;>omega)) only[Qaa,Qad,Qae,wW,wV,simprocAttr]
  exact⟨.inr trivial,_,rfl,rfl⟩
 ·obtain ⟨y, hy, rfl⟩ := List.mem_map.1 hx
  have hc:=excd235 t y (h.kl y hy).1 (h.t3 y hy) (h.kl y hy).2
  simp(disch:=first|omega|exact PairsOK.mk rfl|(simp only[lenW]<;>omega)) only[TQ.s204,cdF,Qaa,Qad,Qae,wW,wV,simprocAttr]
  refine⟨_,by simpa using hc,?_⟩
  simp(disch:=first|omega|exact PairsOK.mk rfl|(simp only[lenW]<;>omega)) only[Qaa,Qad,Qae,wW,wV,simprocAttr]
  exact⟨.inr trivial,_,rfl,rfl⟩
theorem Qei:(cdA xs ks).length=xs.length+ks.length:=by simp[cdA]
theorem violated158 (h:TOk S t xs ks):PSpec Tryz.prog 158 [cdL (cdA xs ks),sliN t] (.int .i64 (idxQ (cdQ t) (cdA xs ks))):=by
 have hnl:=Qcz (cdA xs ks)
 refine PSpec.Qau 64 TQ.ok158 rfl (by rw[noRefs,hnl,noRefs,Qab];rfl) rfl ?_
 have hI:=index203 (K:=204) (cap:=[.fptr [sliN t]]) (cdQ t) (cdA xs ks) (by rw[Qei];have:=h.xn;have:=h.kn;omega) (by simp only[noRefs,noRef,Qac];rfl) fun x hx=>call204 h hx
 generalize cdA xs ks=l at*
 simp(disch:=first|omega|exact PairsOK.mk rfl|(simp only[lenW]<;>omega)) only[TQ.s158,Qaa,Qad,Qae,wW,wV,simprocAttr]
 refine SU.chc (HSpec.lend (FrzL.cons (FrzTo.same _) (FrzL.cons (FrzTo.fn FrzL.nil (FrzL.cons (FrzTo.ptr (g:=0) (cs:=[sliN t]) gg (FrzL.same _)) FrzL.nil)) FrzL.nil)) hI rfl) ?_
 simp(disch:=first|omega|exact PairsOK.mk rfl|(simp only[lenW]<;>omega)) only[Qaa,Qad,Qae,wW,wV,simprocAttr]
 exact⟨.inr trivial,_,rfl,rfl⟩
theorem mk205 (x:Nat×List (Nat×Nat)):PSpec Tryz.prog 205 [.agg (exC x)] (cdF (.inl x)):=by
 have hnx:noRefs (exC x)=true:=by simp only[exC,noRefs,noRef,SU.QbR];rfl
 refine PSpec.of_rn 64 TQ.ok205 rfl (by rw[noRefs,noRef,hnx];rfl) (Qbt _) ?_
 show wS _ _ _ _ _ (argT 0 [.agg [.str [101,UInt8.ofNat (48+x.1)],los x.2]]) _ _
 simp(disch:=first|omega|exact PairsOK.mk rfl|(simp only[lenW]<;>omega)) only[TQ.s205,Qaa,Qad,Qae,wW,wV,simprocAttr]
 refine⟨.inr trivial,_,rfl,?_⟩
 exact Rn.fn RnL.nil (RnL.cons (Rn.frzp (b:=64) (g:=0) rfl (Nat.zero_le _) (fun b' g' _ e=>by simp[π0]at e) (by simp) (RnL.same hnx)) RnL.nil)
theorem mk206 (k:List (Nat×Int)×Int):PSpec Tryz.prog 206 [.agg (coC k)] (cdF (.inr k)):=by
 have hnx:noRefs (coC k)=true:=by simp only[coC,noRefs,noRef,SU.QbK];rfl
 refine PSpec.of_rn 64 TQ.ok206 rfl (by rw[noRefs,noRef,hnx];rfl) (Qbt _) ?_
 show wS _ _ _ _ _ (argT 0 [.agg [.str [107],tes k.1,.int .i64 k.2]]) _ _
 simp(disch:=first|omega|exact PairsOK.mk rfl|(simp only[lenW]<;>omega)) only[TQ.s206,Qaa,Qad,Qae,wW,wV,simprocAttr]
 refine⟨.inr trivial,_,rfl,?_⟩
 exact Rn.fn RnL.nil (RnL.cons (Rn.frzp (b:=64) (g:=0) rfl (Nat.zero_le _) (fun b' g' _ e=>by simp[π0]at e) (by simp) (RnL.same hnx)) RnL.nil)
theorem QiJ (x:(Nat×List (Nat×Nat))⊕(List (Nat×Int)×Int)):(cdF x).cells=[cdF x]:=by cases x<;>rfl
theorem QlA (x:(Nat×List (Nat×Nat))⊕(List (Nat×Int)×Int)):(cdF x).one=true:=by cases x<;>rfl
theorem QlB (x:(Nat×List (Nat×Nat))⊕(List (Nat×Int)×Int)):(cdF x).boxable=true:=by cases x<;>rfl
theorem conds159 (hx:xs.length<=1000) (hk:ks.length<=1000):PSpec Tryz.prog 159 [cdV S xs ks] (cdL (cdA xs ks)):=by
  have hncd:=@QiC S xs ks
  refine PSpec.of_rn 64 TQ.ok159 rfl (by rw[noRefs,noRef,hncd];rfl) (Qcz _) ?_
  have hxi:=SU.Qpl xs
  have hki:=Qpm ks
  show wS _ _ _ _ _ (argT 0 [.agg [sliN S,exs xs,cos ks]]) _ _
  simp(disch:=first|omega|exact PairsOK.mk rfl|(simp only[lenW]<;>omega)) only[TQ.s159,Qaa,Qad,Qae,wW,wV,simprocAttr]
  refine QaB 100 (fun i:Nat=>[(1,.ptr 51 0 0),(3,.sl 60 0 0 i 1),(9,exs xs),(10,.int .i64 xs.length),(11,.int .i64 i)]) (fun i=>[(51,.cells 0 [sliN S,exs xs,cos ks]),(60,.cells 0 ((cdA (xs.take i) []).map cdF))]) (fun i=>i<=xs.length) (fun i=>xs.length-i) 0 0 160 (fun _:Unit=>[(1,.ptr 51 0 0),(3,.sl 60 0 0 xs.length 1)]) (fun _=>[(51,.cells 0 [sliN S,exs xs,cos ks]),(60,.cells 0 ((cdA xs []).map cdF))]) (fun _=>True) ⟨[(51,.blk 64 0),(60,.nil)],rfl,au0,?_,au11⟩ (Nat.zero_le _) ?_ ?_
  · exact RB.cells rfl rfl gg (RnL.same hncd) (RB.newnil rfl rfl RB.nil)
  · rintro i hi
    by_cases hlt:i<xs.length
    · obtain ⟨x, hx⟩ := Qal hlt
      have hdr:=QoJ hx
      have hdl:2<=((xs.flatMap exC).drop (i*2)).length:=by rw[hdr];simp
      have htl:((cdA (xs.take i) []).map cdF).length=i:=by rw[List.length_map,Qei,List.length_take];simp;omega
      have hm:=mk205 x
      have hc:=QiJ (.inl x)
      have ho:=QlA (.inl x)
      have hb:=QlB (.inl x)
      have hsu:(cdA (xs.take (i+1)) []).map cdF=(cdA (xs.take i) []).map cdF++[cdF (.inl x)]:=by rw[take_succ' hx];simp[cdA]
      have hno:=Qbt (.inl x)
      generalize cdF (.inl x)=F at*
      simp(disch:=first|omega|exact PairsOK.mk rfl|(simp only[lenW]<;>omega)) only[hlt,hdr,hdl,Qaa,Qad,Qae,wW,wV,simprocAttr]
      refine cp hm ?_
      simp(disch:=first|omega|exact PairsOK.mk rfl|(simp only[lenW]<;>omega)) only[hc,ho,hb,htl,hno,Qaa,Qad,Qae,wW,wV,simprocAttr]
      refine⟨i+1,by omega,by omega,?_⟩
      rw[hsu]
      refine⟨[(51,.blk 51 0),(60,.blk 60 1)],rfl,au0,?_,au11⟩
      exact RB.cells rfl rfl gg (RnL.same hncd) (RB.cells rfl rfl gg (RnL.same (SU.QaF (Qam Qbt _) (by rw[noRefs,hno];rfl))) RB.nil)
    · have e : i = xs.length := by omega
      subst e
      simp(disch:=first|omega|exact PairsOK.mk rfl|(simp only[lenW]<;>omega)) only[hlt,List.take_length,Qaa,Qad,Qae,wW,wV,simprocAttr]
      refine⟨(),?_⟩
      refine⟨[(51,.blk 51 0),(60,.blk 60 0)],rfl,au0,?_,au11⟩
      exact RB.cells rfl rfl gg (RnL.same hncd) (RB.cells rfl rfl gg (RnL.same (Qam Qbt _)) RB.nil)
  rintro _ _
  simp(disch:=first|omega|exact PairsOK.mk rfl|(simp only[lenW]<;>omega)) only[Qaa,Qad,Qae,wW,wV,simprocAttr]
  refine QaB 200 (fun i:Nat=>[(3,.sl 60 0 0 (xs.length+i) 1),(22,cos ks),(23,.int .i64 ks.length),(24,.int .i64 i)]) (fun i=>[(60,.cells 0 ((cdA xs (ks.take i)).map cdF))]) (fun i=>i<=ks.length) (fun i=>ks.length-i) 0 2 260 (fun _:Unit=>[(3,cdL (cdA xs ks))]) (fun _=>[]) (fun _=>True) ⟨[(60,.blk 60 0)],rfl,au0,?_,au11⟩ (Nat.zero_le _) ?_ ?_
  · exact RB.cells rfl rfl gg (RnL.same (Qam Qbt _)) RB.nil
  · rintro i hi
    by_cases hlt:i<ks.length
    · obtain ⟨k, hk⟩ := Qal hlt
      have hdr:=QoK hk
      have hdl:3<=((ks.flatMap coC).drop (i*3)).length:=by rw[hdr];simp
      have htl:((cdA xs (ks.take i)).map cdF).length=xs.length+i:=by rw[List.length_map,Qei,List.length_take];omega
      have hm:=mk206 k
      have hc:=QiJ (.inr k)
      have ho:=QlA (.inr k)
      have hb:=QlB (.inr k)
      have hsu:(cdA xs (ks.take (i+1))).map cdF=(cdA xs (ks.take i)).map cdF++[cdF (.inr k)]:=by rw[take_succ' hk];simp[cdA]
      have hno:=Qbt (.inr k)
      generalize cdF (.inr k)=F at*
      simp(disch:=first|omega|exact PairsOK.mk rfl|(simp only[lenW]<;>omega)) only[hlt,hdr,hdl,Qaa,Qad,Qae,wW,wV,simprocAttr]
      refine cp hm ?_
      simp(disch:=first|omega|exact PairsOK.mk rfl|(simp only[lenW]<;>omega)) only[hc,ho,hb,htl,hno,Qaa,Qad,Qae,wW,wV,simprocAttr]
      refine⟨i+1,by omega,by omega,?_⟩
      rw[hsu]
      refine⟨[(60,.blk 60 1)],rfl,au0,?_,au11⟩
      exact RB.cells rfl rfl gg (RnL.same (SU.QaF (Qam Qbt _) (by rw[noRefs,hno];rfl))) RB.nil
    · have e : i = ks.length := by omega
      subst e
      simp(disch:=first|omega|exact PairsOK.mk rfl|(simp only[lenW]<;>omega)) only[hlt,List.take_length,Qaa,Qad,Qae,wW,wV,simprocAttr]
      exact⟨(),[],rfl,RO.zero,RB.nil,RT.cons (Rn.fzm (b:=60) (g:=0) gg rfl rfl Qei (by rw[List.length_map,Qei];simp) (RnL.same (Qam Qbt _))) RT.nil⟩
  rintro _ _
  simp(disch:=first|omega|exact PairsOK.mk rfl|(simp only[lenW]<;>omega)) only[Qaa,Qad,Qae,wW,wV,simprocAttr]
  exact⟨.inr trivial,_,rfl,Rn.same (Qcz _)⟩
end Go.AM.SO
namespace Go.AM.SO
open Go.Proofs Go.AM.SD Go.AM.SE
variable {S t:List Nat} {xs:List (Nat×List (Nat×Nat))} {ks:List (List (Nat×Int)×Int)}
theorem checkT202 (h:TOk S t xs ks):PSpec Tryz.prog 202 [cdV S xs ks,sliN t] (.int .i64 0):=by
  have hncd:=@QiC S xs ks
  refine PSpec.Qau 64 TQ.ok202 rfl (by rw[noRefs,noRef,hncd,noRefs,Qab];rfl) rfl ?_
  have hl3:=h.l3
  have hE1:(t.length=S.length)=True:=eq_true h.ln
  have hE2:((t.length:Int)=(S.length:Int))=True:=eq_true (by rw[h.ln])
  show wS _ _ _ _ _ (argT 0 [.agg [sliN S,exs xs,cos ks],sliN t]) _ _
  simp(disch:=first|omega|exact PairsOK.mk rfl|(simp only[lenW]<;>omega)) only[TQ.s202,hE1,hE2,Qaa,Qad,Qae,wW,wV,simprocAttr]
  refine QaB 100 (fun i:Nat=>[(2,.ptr 51 0 0),(13,sliN t),(14,.int .i64 t.length),(15,.int .i64 i)]) (fun _=>[(51,.cells 0 [sliN S,exs xs,cos ks])]) (fun i=>i<=t.length) (fun i=>t.length-i) 0 0 160 (fun _:Unit=>[]) (fun _=>[]) (fun _=>True) ?_ (Nat.zero_le _) ?_ ?_
  · refine ⟨[(51, .blk 64 0)], rfl, au0, ?_, au11⟩
    exact RB.cells rfl rfl gg (RnL.same hncd) RB.nil
  · rintro i hi
    by_cases hlt:i<t.length
    · obtain ⟨x, hx⟩ := Qal hlt
      obtain⟨n,hn⟩:=Qal (l:=S) (i:=i) (by rw[<-h.ln];exact hlt)
      have hlS:i<S.length:=by rw[<-h.ln];exact hlt
      have hxn:=h.lt i x n hx hn
      have g1:¬(x:Int)<0:=by omega
      have g2:¬(n:Int)<=(x:Int):=by omega
      simp(disch:=first|omega|exact PairsOK.mk rfl|(simp only[lenW]<;>omega)) only[hlt,hlS,Qa5 hx,Qa5 hn,g1,g2,Qaa,Qad,Qae,wW,wV,simprocAttr]
      refine⟨i+1,by omega,by omega,?_⟩
      refine⟨[(51,.blk 51 0)],rfl,au0,?_,au11⟩
      exact RB.cells rfl rfl gg (RnL.same hncd) RB.nil
    · simp (disch := first | omega | exact PairsOK.mk rfl | (simp only [lenW] <;> omega)) only [hlt, Qaa, Qad, Qae, wW, wV, simprocAttr]
      exact⟨(),⟨[],rfl,au0,au12,au11⟩⟩
  rintro _ _
  simp(disch:=first|omega|exact PairsOK.mk rfl|(simp only[lenW]<;>omega)) only[Qaa,Qad,Qae,wW,wV,simprocAttr]
  exact⟨.inr trivial,_,rfl,rfl⟩
end Go.AM.SO
namespace Go.AM.TR
open Go.Proofs
set_option maxHeartbeats 4000000
noncomputable section
def cf:YA.Cf:={most:= .pure,always:=[28,69].map fun k=>(k,.heap)}
def s70:SFn:=by
 refine(?f:YA.Yt Tryz.prog cf 70 [[0,2,3],[8,9,10],[5],[12,13,14,15,11,16,17,18,19,20,21,22],[23],[1,4,5,24,25],[2,3,24,27,28,29,30,31,32,33,34,35,36,26,37,38,39,40,41,42,43],[44],[1,4,5,45,46],[2,3,1,5,45,47,48,49,50,51,52,53,54,55],[56,57,58],[],[62,63,64,65],[6,7,66,67,68,69,70,71,72],[73],[4,59,60,61,74]] [(9,[(4,6)])]) ?s ?h
 case h=>exact YA.rr
 exact fun s _=>s
def s160:SFn:=by
 refine(?f:YA.Yt Tryz.prog cf 160 [[2,11,12,13,14,15,16,10,17,18,6],[5],[],[22,23,24],[25,26,27,28],[8,9,29,30,31],[37,38]]) ?s ?h
 case h=>exact YA.rr
 exact fun s _=>s
theorem ok70:okFn Tryz.prog 70 s70=true:=by kernel_rfl
theorem ok160:okFn Tryz.prog 160 s160=true:=by kernel_rfl
end
end Go.AM.TR
namespace Go.AM
variable {P:Program}
theorem HRel.give {ok : Okc} {c : Ctx ok} {h : Heap} {w : World} (H : HRel c h w) {b g len sz : Nat} {ds : List AV} (hb : h.get b = some (.cells g ds)) (hr : noRefs ds = true) (hl : ds.length = len * sz) (hlim : Nat.blt b 1099511627775 = true) :
    ∃c2,Evo c w c2 w/\HRel c2 (h.set b (.dead g)) w/\(∀v,VRel c w (.sl b g 0 len sz) v->VRel c2 w (.fsl ds len sz) v)/\∀x v,noRef x=true->VRel c w x v->VRel c2 w x v:=by
  have hlim':b<1099511627775:=by simp_all
  have hlive:Live h b g:=⟨_,hb,rfl,fun _=>by simp⟩
  let c2:Ctx ok:={c with F:=fun k=>c.F k\/∃base,c.ρ b g=some (.loc k base),O:=fun k=>c.O k/\¬∃base,c.ρ b g=some (.loc k base)}
  have hset:∀k,(h.set b (.dead g)).get k=if k=b then some (.dead g)else h.get k:=fun k=>by
    by_cases e:k=b
    · subst e;rw[Qa6 hlim',if_pos rfl]
    simp_all [Qa1]
  have hlv:∀k y,Live (h.set b (.dead g)) k y->k≠b/\Live h k y:=by
    rintro k y ⟨x,hk,hg,hd⟩
    rw[hset]at hk
    split at hk
    · grind
    · rename_i e;exact⟨e,x,hk,hg,hd⟩
  have E:=Evo.refl c w
  have E2:Evo c w c2 w:=⟨E.os,E.tape,E.output,E.size,E.shape,E.keep,E.rho,fun k hk=> .inl (E.frz k hk),fun k hk=>by
    rcases hk with hk|⟨base,hk⟩
    · simp_all
    · exact .inr (.inl (H.owned hlive hk)),fun k hk=>E.own k hk.1,E.base⟩
  refine⟨c2,E2,⟨fun k hk y=>?_,fun k x hk y hlt=>?_,fun k x hk=>?_,fun k y k' y' cb base base' l1 l2 p1 p2=>H.inj k y k' y' cb base base' (hlv _ _ l1).2 (hlv _ _ l2).2 p1 p2,fun k hF hO=>?_,fun k hF=>?_,fun k hO=>H.inO k hO.1⟩,fun v V=>?_,fun x v hn hv=>VRel.noRef (c:=c) (c':=c2) (fun _ h=> .inl h) _ _ hn hv⟩
  · rw [hset] at hk
    split at hk
    · cases hk
    · exact H.fresh k hk y
  · rw [hset] at hk
    split at hk
    · rename_i e; subst e; cases hk
      exact H.later k _ hb y hlt
    · exact H.later k x hk y hlt
  · rw [hset] at hk
    split at hk
    · cases hk;trivial
    · rename_i e
      refine BRel.mono (c:=c) (c':=c2) (w:=w) (w':=w) ⟨fun _ _ _ h=>h,fun _ h=> .inl h,fun _ _ _ h=>h,fun _ C _ fr h=>⟨C,fr,h,rfl⟩⟩ (fun cb base hd hp=>?_) (H.blk k x hk)
      have hlk:Live h k x.gen:=⟨x,hk,rfl,hd⟩
      exact⟨⟨H.owned hlk hp,fun⟨base',hp'⟩=>e (H.inj _ _ _ _ _ _ _ hlk hlive hp hp')⟩,rfl⟩
  · rcases hF with hF | hF
    · exact H.disj k hF hO.1
    grind
  · rcases hF with hF | ⟨base, hF⟩
    · exact H.inF k hF
    · exact H.inO k (H.owned hlive hF)
  · simp only [VRel] at V
    rcases V with⟨hp,rfl,_,rfl⟩|⟨cb,base,o,cap,C,e,fr,hp,rfl,hlc,hC,hcap⟩
    · simp_all [VRel]
    · obtain ⟨C', e', fr', hO, hC', hfr, hbs, hpre⟩ := H.here hb hp
      rw[hC]at hC';cases hC'
      have hF:c2.F cb:= .inr ⟨base,hp⟩
      by_cases h0:cap=0
      · have hl0 : len = 0 := by omega
        subst hl0
        have:ds=[]:=List.eq_nil_of_length_eq_zero (by rw[hl];simp)
        subst this
        simp only[VRel]
        simp_all
      · obtain ⟨rfl, hbd⟩ := hcap.resolve_left h0
        have hp2:=VPre.noRef2 (c:=c) (c':=c2) (fun _ h=> .inl h) hr hpre
        simp only[VRel]
        grind
theorem HSpec.give1 {f b g len sz:Nat} {ds:List AV} {h:Heap} {v:AV} (S:PSpec P f [.fsl ds len sz] v) (hb:h.get b=some (.cells g ds)) (hr:noRefs ds=true) (hl:ds.length=len*sz) (hlim:Nat.blt b 1099511627775=true):
  HSpec P f [.sl b g 0 len sz] h v (h.set b (.dead g)):=by
 have hS:=S
 obtain⟨_,_,h',hc,_⟩:=S
 refine⟨hc,fun c w cargs H ha=>?_⟩
 obtain⟨c2,E2,H2,V2,_⟩:=H.give hb hr hl hlim
 have ha2:VRels c2 w [.fsl ds len sz] cargs.toList:=by
  grind [VRels]
 refine((hS.pure H2 ha2).2).mono ?_
 rintro e w' ⟨cv,c',rfl,E,H',V⟩
 exact⟨cv,c',rfl,E2.trans E,H',V⟩
end Go.AM
namespace Go.AM
variable {P:Program}
def tight (i:Nat) (f:FP):Prop:=f.all=false/\∀b,b∈f.R\/b∈f.W->b∈[i]
def wpRS (P:Program) (z:Nat):Nat->List SOper->Tmps->Heap->(Tmps->Heap->Nat->Prop)->Prop
 |n,[],T,h,K=>K T h n
 |n,s::r,T,h,K=>∃v h1 f,StepV P n s T h v h1 f/\(n=z->tight n f)/\wpRS P z (n+1) r (putD T s.dst v) h1 K
theorem QiK {z:Nat}:∀{r:List SOper} {n:Nat} {T:Tmps} {h:Heap} {K:Tmps->Heap->Nat->Prop},z<n->wpR P n r T h K->wpRS P z n r T h K
 |[],n,T,h,K,_,hk=>hk
 |s::r,n,T,h,K,hz,⟨v,h1,f,hs,hr⟩=>⟨v,h1,f,hs,fun e=>by omega,QiK (by omega) hr⟩
theorem QoS {s:SOper} {K:Tmps->Heap->Nat->Prop}:∀(k:Nat) (r:List SOper) (n:Nat) (T:Tmps) (h:Heap),r[k]?=some s->
  wpR P n (r.take k) T h (fun T1 h1 n1=>∃v h2 f,StepV P n1 s T1 h1 v h2 f/\tight n1 f/\wpR P (n1+1) (r.drop (k+1)) (putD T1 s.dst v) h2 K)->wpRS P (n+k) n r T h K:=by
 intro k
 induction k with
 | zero =>
  intro r n T h e hw
  cases r with
  |nil=>cases e
  |cons t r=>
   rw[List.getElem?_cons_zero,Option.some.injEq]at e
   subst e
   rw[List.take_zero]at hw
   simp only[wpR]at hw
   obtain⟨v,h2,f,h3,h4,h5⟩:=hw
   rw[List.drop_succ_cons,List.drop_zero]at h5
   exact⟨v,h2,f,h3,fun _=>h4,QiK (by omega) h5⟩
 | succ k ih =>
  intro r n T h e hw
  cases r with
  |nil=>cases e
  |cons t r=>
   rw[List.take_succ_cons]at hw
   simp only[wpR]at hw
   obtain⟨v,h1,f,h3,h4⟩:=hw
   refine⟨v,h1,f,h3,fun e=>by omega,?_⟩
   rw[show n+(k+1)=n+1+k by omega]
   exact ih r (n+1) _ _ (by simpa using e) h4
theorem Qj4 {z:Nat}:∀{r:List SOper} {n:Nat} {T:Tmps} {h:Heap} {K:Tmps->Heap->Nat->Prop},wpRS P z n r T h K->∃T' h' n',K T' h' n'/\∀d,(∀s∈r,s.dst≠some d)->lk T' d=lk T d
 |[],n,T,h,K,hk=>⟨T,h,n,hk,fun _ _=>rfl⟩
 |s::r,n,T,h,K,⟨v,h1,f,hs,_,hr⟩=>by
  obtain⟨T',h',n',hk,he⟩:=Qj4 hr
  refine⟨T',h',n',hk,fun d hd=>?_⟩
  simp_all [Qbu]
def touch3 (z i:Nat) (ax:Opd->Option (List Nat)) (s:SOp):Option (List Nat):=bif Nat.beq i z then some [i]else touch2 i ax s
def touchesN (z:Nat) (C:Claims) (n:Nat) (T:Tmps):List SOper->Abs->List (Option (List Nat))
 |[],_=>[]
 |s::r,A=>touch3 z n (absO T A) s.op::touchesN z C (n+1) T r (match s.dst with|some d=>(d,absH C d (s.op.absV n (absO T A)))::A|none=>A)
theorem Qj5 {T0:Tmps} {C:Claims} {z:Nat}:∀{r:List SOper} {n:Nat} {A:Abs} {T:Tmps} {h:Heap} {K:Tmps->Heap->Nat->Prop} (hA:AbsOK T0 A T) (K':List FP->Tmps->Heap->Nat->Prop)
  (hC:∀T h n,K T h n->∀d bs,clm C d=some bs->Pts (lk T d) bs) (hssa:ssa C r=true),
  (∀fs T h n',fs.length=r.length->(∀(j:Nat) ts,(touchesN z C n T0 r A).getD j none=some ts->(fs.getD j ⟨false,[],[]⟩).all=false/\∀b,b∈(fs.getD j ⟨false,[],[]⟩).R\/b∈(fs.getD j ⟨false,[],[]⟩).W->b∈ts)->K T h n'->K' fs T h n')->
  wpRS P z n r T h K->wpRF P n r T h K'
 |[],n,A,T,h,K,hA,K',hC,hssa,hK,hw=>hK [] T h n rfl (fun j ts hj=>by simp_all) hw
 | s :: r, n, A, T, h, K, hA, K', hC, hssa, hK, hw => by
  obtain⟨v,h1,f,hs,hz,hr⟩:=hw
  simp only[ssa,Bool.and_eq_true]at hssa
  obtain⟨hs1,hs2⟩:=hssa
  refine⟨v,h1,f,hs,?_⟩
  have hA2:AbsOK T0 (match s.dst with|some d=>(d,absH C d (s.op.absV n (absO T0 A)))::A|none=>A) (putD T s.dst v):=by
   cases e:s.dst with
   |none=>exact hA
   | some d =>
    refine AbsOK.up hA fun bs hb=>?_
    unfold absH at hb
    split at hb
    ·rename_i bs' hc
     cases hb
     obtain⟨T',h',n',hk,he⟩:=Qj4 hr
     have h3:=hC T' h' n' hk d _ hc
     rw[he d ?_,Qbu,if_pos e]at h3
     ·exact h3
     ·intro s' hs'
      rw[e]at hs1
      simp only[hc,Option.isNone_some,Bool.false_or,List.all_eq_true]at hs1
      have:=hs1 s' hs'
      intro e2
      simp_all
    ·exact Qey hA.opd hb hs
  refine Qj5 hA2 (fun fs T h n=>K' (f::fs) T h n) hC hs2 (fun fs T h n' hl hf hk=>?_) hr
  refine hK (f::fs) T h n' (by simp[hl]) (fun j ts hj=>?_) hk
  cases j with
  | zero =>
   simp only[touchesN,List.getD_cons_zero]at hj⊢
   unfold touch3 at hj
   cases e:Nat.beq n z with
   |true=>
    rw[e]at hj
    simp only[cond_true,Option.some.injEq]at hj
    subst hj
    exact hz (by simpa using e)
   |false=>
    rw[e]at hj
    exact Qfi hA.opd hj hs
  |succ j=>
   simp only[touchesN,List.getD_cons_succ]at hj⊢
   exact hf j ts hj
def NewAt (P:Program) (N:NM) (x:Opd) (ag:List Opd) (d:Option Nat) (r:List SOper) (n:Nat) (T:Tmps) (h:Heap) (Q:QC):Prop:=
 ∃f ys len sz,ev T x= .fn f [] []/\NSpec P f (evs T ag) ys len sz/\noRefs ys=true/\n<lim/\h.get n=none/\wR P N r [] [] (n+1) (putD T d (.sl n 0 0 len sz)) (h.set n (.cells 0 ys)) Q
theorem Qho (C:Claims) (k:Nat) {x:Opd} {ag:List Opd} {d:Option Nat} {N:NM} {ops:List SOper} {p:Nat×Nat} {ps:List (Nat×Nat)} {dead:List Nat} {fs:List Fr} {n:Nat} {T:Tmps} {h:Heap} {Q:QC} {af:List Nat} (hk:ops[k]?=some ⟨d,.call .heap x ag,af,none⟩) (hssa:ssa C ops=true) (hp:pairsOK (touchesN (n+k) C n T ops []) (p::ps)=true)
  (hw:wR P N (ops.take k) [] [] n T h fun e T h n=>NewAt P N x ag d (ops.drop (k+1)) n T h fun e T h n=>Clms T C/\wX P N .normal fs n (rm T dead) h Q):wS P N (.region ops (p::ps) dead) fs n T h Q:=by
 have rm0:∀T:Tmps,rm T []=T:=by
  intro T
  induction T with
  |nil=>rfl
  |cons p T ih=>obtain⟨j,v⟩:=p;simp[rm,ih]
 refine Qj5 (C:=C) (z:=n+k) (K:=fun T h n=>Clms T C/\wX P N .normal fs n (rm T dead) h Q) AbsOK.nil _ (fun T h n hk d bs hc=>hk.1.get d bs hc) hssa (fun fs' T h n' hl hf hk=>⟨?_,hk.2⟩) ?_
 ·rw [List.all_eq_true]
  intro q hq
  have:=List.all_eq_true.1 hp q hq
  split at this
  ·rename_i a b ha hb
   obtain⟨f1,f2⟩:=hf _ _ ha
   obtain⟨g1,g2⟩:=hf _ _ hb
   have hd:∀x y,x∈a->y∈b->x≠y:=by
    grind
   have dj:∀xs ys:List Nat,(∀x∈xs,∀y∈ys,x≠y)->disj xs ys=true:=by
    intro xs ys hh
    unfold disj
    grind
   grind [FP.apart]
  ·cases this
 ·refine QoS k ops n T h hk ?_
  have hw':wpR P n (ops.take k) T h fun T h n=>NewAt P N x ag d (ops.drop (k+1)) n (rm T []) h fun e T h n=>Clms T C/\wX P N .normal fs n (rm T dead) h Q:=hw
  simp only[rm0]at hw'
  have mono:∀{r:List SOper} {n:Nat} {T:Tmps} {h:Heap} {K K':Tmps->Heap->Nat->Prop},(∀T h n,K T h n->K' T h n)->wpR P n r T h K->wpR P n r T h K':=by
   intro r
   induction r with
   |nil=>intro n T h K K' hi hw;exact hi _ _ _ hw
   |cons s r ih=>intro n T h K K' hi hw;obtain⟨v,h1,f,hs,hr⟩:=hw;exact⟨v,h1,f,hs,ih hi hr⟩
  refine mono (fun T1 h1 n1 hh=>?_) hw'
  obtain⟨f,ys,len,sz,e1,e2,e3,e4,e5,e6⟩:=hh
  refine⟨.sl n1 0 0 len sz,h1.set n1 (.cells 0 ys),⟨false,[n1],[n1]⟩,?_,⟨rfl,fun b hb=>?_⟩,?_⟩
  ·refine ⟨.call .heap f (evs T1 ag), h1, ?_, .inr (.inr (.inl ⟨evs T1 ag, [], .inl ⟨rfl, rfl⟩, .inl ⟨ys, len, sz, e2, .inr ⟨e3, rfl⟩, e4, e5, rfl, rfl, rfl⟩⟩))⟩
   simp_all [aop,aCall,HM.run]
  ·simpa using hb
  ·have e6' : wpR P (n1 + 1) (ops.drop (k + 1)) (putD T1 d (.sl n1 0 0 len sz)) (h1.set n1 (.cells 0 ys)) fun T h n => Clms (rm T []) C /\ wX P N .normal fs n (rm (rm T []) dead) h Q := e6
   simp_all
end Go.AM
namespace Go.AM.SK
open Go.Proofs
noncomputable section
def isT:AV->Bool| .bool true=>true|_=>false
theorem Qpr:∀u,isT u=true->u= .bool true:=by
 intro u h
 unfold isT at h
 split at h
 ·rfl
 ·cases h
theorem known15:PSpec Tryz.prog 15 [] (.bool true):=
 QeP (t:=ft) ft_ok QdM (d:=100000) isT Qpr (by kernel_rfl)
end
end Go.AM.SK
namespace Go.AM.SO
open Go.Proofs Go.AM.SD Go.AM.SE
def itN (x:List UInt8×Aut):List AV:=[.str x.1,sliN x.2.al,.int .i64 (x.2.n:Int),sliN x.2.ms,egsN x.2.es]
abbrev itsN (l:List (List UInt8×Aut)):AV:= .fsl (l.flatMap itN) l.length 5
theorem QbS (l:List (List UInt8×Aut)):noRefs (l.flatMap itN)=true:=QaR (fun x=>by simp only[itN,noRefs,noRef,Qac,Qaf];rfl) l
theorem QbB (l:List (List UInt8×Aut)):noRef (itsN l)=true:=by simp only[noRef];exact QbS l
theorem QlC {l:List (List UInt8×Aut)} {i:Nat} {x:List UInt8×Aut} (h:l[i]?=some x):(l.flatMap itN).drop (i*5)= .str x.1::sliN x.2.al:: .int .i64 (x.2.n:Int)::sliN x.2.ms::egsN x.2.es::(l.drop (i+1)).flatMap itN:=Qbe (f:=itN) (k:=5) (fun _=>rfl) h
def evN (x:List UInt8×Evt):List AV:=[.str x.1,.bool x.2.c,.bool x.2.o,.bool x.2.f,.int .i64 (x.2.flt:Int)]
theorem QpB (l:List (List UInt8×Evt)):noRefs (l.flatMap evN)=true:=QaR (fun x=>rfl) l
end Go.AM.SO
namespace Go.AM.OK
open Go.Proofs
def s72:SFn:=⟨18,[.tmp 2],
 (.seq (.region [Zz 2 (.mov (.c (.str []))) []] [] [2])
 (.seq (.region [Zz 3 (.allocT 238 .dyn (.agg [.nilptr,.nilsl])) []] [] [])
 (.seq (.seq (.region [Zm 6 0 [],
 Zv 7 6 [0],
 Zz 8 (.mov (.c (.int .i64 0))) []] [] [0])
 (.block 0 (.loop (.seq (.region [Zb 9 .lss 8 7 []] [] [])
 (.seq (.cond (.t 9)
 .skip
 (.exit 0))
 (.seq (.block 1 (.seq (.region [Zi 10 1 6 8 [],
 Zl 11 10 [0],
 Zm 5 11 [1,0,1]] [] [9,10,11])
 (.region [Zm 12 5 [],
 Zz 13 (.call .pure (.f 155) [(.t 12)]) [0],
 Zz 14 (.bin .add (.t 13) (.c (.str [32]))) [1],
 Zz 15 (.call .heap (.f 154) [(.t 3),(.t 14)]) [2,1]] [] [5,12,13,14,15])))
 (.region [Zz 16 (.bin .add (.t 8) (.c (.int .i64 1))) [],
 Zm 8 16 [0]] [] [16])))))))
 (.seq (.region [Zz 17 (.call .heap (.f 156) [(.t 3)]) [],
 Zm 2 17 [0,0,0]] [] [3,6,7,8,17])
 .ret))))⟩
def s98:SFn:=⟨18,[.tmp 2],
 (.seq (.region [Zz 2 (.mov (.c (.str []))) []] [] [2])
 (.seq (.region [Zz 3 (.allocT 238 .dyn (.agg [.nilptr,.nilsl])) []] [] [])
 (.seq (.seq (.region [Zm 6 0 [],
 Zv 7 6 [0],
 Zz 8 (.mov (.c (.int .i64 0))) []] [] [0])
 (.block 0 (.loop (.seq (.region [Zb 9 .lss 8 7 []] [] [])
 (.seq (.cond (.t 9)
 .skip
 (.exit 0))
 (.seq (.block 1 (.seq (.region [Zi 10 1 6 8 [],
 Zl 11 10 [0],
 Zm 5 11 [1,0,1]] [] [9,10,11])
 (.seq (.region [Zm 12 5 [],
 Zz 13 (.call .pure (.f 155) [(.t 12)]) [0],
 Zz 14 (.call .heap (.f 154) [(.t 3),(.t 13)]) [1,1]] [] [5,12,13,14])
 (.region [Zz 15 (.call .heap (.f 188) [(.t 3),(.c (.int .u8 32))]) []] [] [15]))))
 (.region [Zz 16 (.bin .add (.t 8) (.c (.int .i64 1))) [],
 Zm 8 16 [0]] [] [16])))))))
 (.seq (.region [Zz 17 (.call .heap (.f 156) [(.t 3)]) [],
 Zm 2 17 [0,0,0]] [] [3,6,7,8,17])
 .ret))))⟩
def s154:SFn:=⟨19,[.tmp 4,.tmp 5],
 (.seq (.region [Zz 4 (.mov (.c (.int .i64 0))) [],
 Zz 5 (.mov (.c .nilif)) [0]] [] [4,5])
 (.seq (.region [Zm 6 0 [],
 Zz 7 (.call .heap (.f 200) [(.t 6)]) [0]] [] [6,7])
 (.seq (.region [Zm 8 0 [],
 Zm 9 0 [],
 Zz 10 (.nilchk (.t 9)) [1],
 Zf 11 1 10 [2],
 Zl 12 11 [3],
 Zm 13 1 [],
 Zz 14 (.appendT 5 .dyn 1 1 (.t 12) (.t 13)) [4,5],
 Zz 15 (.nilchk (.t 8)) (Za [0] 7),
 Zf 16 1 15 (Za [7] 7),
 Zs 1 16 14 (Za [8,6,6] 7)] [] [0,8,9,10,11,12,13,14,15,16])
 (.seq (.region [Zm 17 1 [],
 Zz 18 (.len 0 (.t 17)) [0],
 Zm 4 18 [1,0,1],
 Zz 5 (.mov (.c .nilif)) [2,0,1,2]] [] [1,17,18])
 .ret))))⟩
def s156:SFn:=⟨14,[.tmp 2],
 (.seq (.region [Zz 2 (.mov (.c (.str []))) []] [] [2])
 (.seq (.region [Zm 3 0 [],
 Zz 4 (.nilchk (.t 3)) [0],
 Zf 5 1 4 [1],
 Zl 6 5 [2],
 Zz 7 (.usd (.t 6)) [3],
 Zm 8 0 [],
 Zz 9 (.nilchk (.t 8)) [5],
 Zf 10 1 9 [6],
 Zl 11 10 [7],
 Zv 12 11 [8],
 Zz 13 (.ustr 5 (.t 7) (.t 12)) [4,9],
 Zm 2 13 (Za [10] 11)] [] [0,3,4,5,6,7,8,9,10,11,12,13])
 .ret))⟩
def s188:SFn:=⟨17,[.tmp 4],
 (.seq (.region [Zz 4 (.mov (.c .nilif)) []] [] [4])
 (.seq (.region [Zm 5 0 [],
 Zz 6 (.call .heap (.f 200) [(.t 5)]) [0]] [] [5,6])
 (.seq (.region [Zm 7 0 [],
 Zm 8 0 [],
 Zz 9 (.nilchk (.t 8)) [1],
 Zf 10 1 9 [2],
 Zl 11 10 [3],
 Zm 12 1 [],
 Zz 13 (.bslice false .dyn 1 1 [(.int .u8 0)] [(0,1,(.t 12))]) [5],
 Zz 14 (.appendT 5 .dyn 1 1 (.t 11) (.t 13)) [4,6],
 Zz 15 (.nilchk (.t 7)) (Za [0] 8),
 Zf 16 1 15 (Za [8] 8),
 Zs 1 16 14 (Za [9,7,7] 8)] [] [0,1,7,8,9,10,11,12,13,14,15,16])
 (.seq (.region [Zz 4 (.mov (.c .nilif)) []] [] [])
 .ret))))⟩
def s200:SFn:=⟨20,[],
 (.seq (.region [Zm 2 0 [],
 Zz 3 (.nilchk (.t 2)) [0],
 Zf 4 0 3 [1],
 Zl 5 4 [2],
 Zz 6 (.eq (.nil 1) false (.t 5) (.c .nilptr)) [3]] [] [2,3,4,5])
 (.cond (.t 6)
 (.region [Zm 7 0 [],
 Zm 8 0 [],
 Zz 9 (.convP 238 2 (.t 8)) [1],
 Zz 10 (.ext 2 231 [(.t 9)]) [2],
 Zz 11 (.convP 238 2 (.t 10)) [3],
 Zz 12 (.nilchk (.t 7)) (Za [0] 5),
 Zf 13 0 12 (Za [5] 5),
 Zs 1 13 11 (Za [6,4,3] 5)] [] [0,6,7,8,9,10,11,12,13])
 (.seq (.region [Zm 14 0 [],
 Zz 15 (.nilchk (.t 14)) [0],
 Zf 16 0 15 [1],
 Zl 17 16 [2],
 Zm 18 0 [],
 Zz 19 (.eqp true (.t 17) (.t 18)) [3,4]] [] [0,6,14,15,16,17,18])
 (.cond (.t 19)
 .bad
 .skip))))⟩
theorem ok72:okFn Tryz.prog 72 s72=true:=by kernel_rfl
theorem ok98:okFn Tryz.prog 98 s98=true:=by kernel_rfl
theorem ok154:okFn Tryz.prog 154 s154=true:=by kernel_rfl
theorem ok156:okFn Tryz.prog 156 s156=true:=by kernel_rfl
theorem ok188:okFn Tryz.prog 188 s188=true:=by kernel_rfl
theorem ok200:okFn Tryz.prog 200 s200=true:=by kernel_rfl
end Go.AM.OK
namespace Go.AM
variable {P:Program} {N:NM} {r:List SOper} {dead:List Nat} {d:Option Nat} {fs:List Fr} {n:Nat} {T:Tmps} {h:Heap} {Q:QC}
def byV (s:List UInt8):List AV:=s.map fun b=> .int .u8 b.toNat
theorem QhK (s:List UInt8):(byV s).length=s.length:=by simp[byV]
theorem QlD (s u:List UInt8):byV (s++u)=byV s++byV u:=by simp[byV]
theorem Qbf:∀s:List UInt8,noRefs (byV s)=true
 |[]=>rfl
 |x::s=>by show(true&&noRefs (byV s))=true;rw[Qbf s];rfl
theorem Qj6:∀s:List UInt8,(byV s).all AV.one=true
 |[]=>rfl
 |x::s=>by show(true&&(byV s).all AV.one)=true;rw[Qj6 s];rfl
theorem Qmc:∀s:List UInt8,bytesIn (byV s)=some s:=by
 intro s
 induction s with
 |nil=>rfl
 |cons x s ih=>
  show(if 0<=(x.toNat:Int)/\(x.toNat:Int)<256 then(bytesIn (byV s)).map (UInt8.ofNat (x.toNat:Int).toNat:: ·)else none)=_
  have:=x.toNat_lt
  rw[if_pos ⟨by omega,by omega⟩,ih]
  simp
theorem tNil {t k b g o:Nat}:aNil (.typed t k (.ptr b g o))=some (.typed t k (.ptr b g o)):=rfl
theorem tFA {off t k b g o:Nat}:aFAddr off (.typed t k (.ptr b g o))=some (.ptr b g (o+off)):=rfl
theorem tEq0:aEq (.nil 1) false .nilptr .nilptr=some (.bool true):=rfl
theorem tEq1 {t k b g o:Nat}:aEq (.nil 1) false (.typed t k (.ptr b g o)) .nilptr=some (.bool false):=rfl
theorem tConv {t k b g o:Nat}:aConvP t k (.typed t k (.ptr b g o))=some (.typed t k (.ptr b g o)):=if_pos ⟨rfl,rfl⟩
theorem tExt {t k b g o:Nat}:aExt 2 [.typed t k (.ptr b g o)]=some (.typed t k (.ptr b g o)):=rfl
theorem tEqP {t k b g o:Nat}:aEqP true (.typed t k (.ptr b g o)) (.typed t k (.ptr b g o))=some (.bool false):=by simp[aEqP,AV.bare]
theorem Qay {t k:Nat} {v:AV}:AV.cells (.typed t k v)=[.typed t k v]:=rfl
theorem QaJ {t k:Nat} {v:AV}:AV.one (.typed t k v)=true:=rfl
theorem QaK {t k:Nat} {v:AV}:AV.boxable (.typed t k v)=true:=rfl
theorem tUsd {t b g len sz:Nat}:aUsd (.typed t 0 (.sl b g 0 (len+1) sz))=some (.typed t 0 (.ptr b g 0)):=rfl
theorem tLen {t k b g off len sz:Nat}:aLenC 1 (.typed t k (.sl b g off len sz))= .ret (.int .i64 len):=rfl
theorem Qfp {α β:Type} {m:HM α} {f:α->HM β} {h h1:Heap} {a:α} (hm:m.run h=some (a,h1)):(m.bind f).run h=(f a).run h1:=by
 induction m generalizing h with
 |ret b=>simp only[HM.run,Option.some.injEq,Prod.mk.injEq]at hm;obtain⟨rfl,rfl⟩:=hm;rfl
 |fail=>simp[HM.run]at hm
 |look b k ih=>exact ih _ hm
 |put b x k ih=>
  simp only[HM.run,HM.bind]at hm⊢
  cases hb:Nat.blt b lim
  ·rw[hb]at hm;simp at hm
  ·rw[hb]at hm;simp only[cond_true]at hm⊢;exact ih hm
theorem Qnp {t:Nat} {s:List UInt8} (hs:0<s.length) (hl:s.length<=140737488355328) (hn:h.get n=none) (hl2:n<1099511627775)
  (hk:wR P N r dead fs (n+1) (putD T d (.typed t 0 (.sl n 0 0 s.length 1))) (h.set n (.cells 0 (byV s))) Q):wM P N (aAppendT t .dyn n 1 1 .nilsl (.str s)) d r dead fs n T h Q:=by
 obtain⟨k,hk'⟩:∃k,s.length=k+1:=⟨s.length-1,by omega⟩
 have hb:Nat.blt n lim=true:=by simp[Nat.blt,lim];omega
 have e:(aAppend .dyn n 1 1 .nilsl (.str s)).run h=some (.sl n 0 0 s.length 1,h.set n (.cells 0 (byV s))):=by
  have ho:=Qj6 s
  unfold byV at ho⊢
  simp only[aAppend,aSrc,if_true,slLen,Nat.zero_add,hk',Nat.mul_one]
  rw[if_pos ⟨by omega,by omega,ho⟩]
  simp[HM.new,HM.run,hn,hb]
 refine⟨_,_,?_,hk⟩
 show((aAppend .dyn n 1 1 .nilsl (.str s)).bind fun v=> .ret (tagT t v)).run h=_
 rw[Qfp e];rfl
theorem Qoa {t b g len:Nat} {s:List UInt8} {cs:List AV} (hb:h.get b=some (.cells g cs)) (hc:len+1=cs.length) (hl:len+1+s.length<=140737488355328) (hl2:b<1099511627775)
  (hk:wR P N r dead fs (n+1) (putD T d (.typed t 0 (.sl b (g+1) 0 (len+1+s.length) 1))) (h.set b (.cells (g+1) (cs++byV s))) Q):wM P N (aAppendT t .dyn n 1 1 (.typed t 0 (.sl b g 0 (len+1) 1)) (.str s)) d r dead fs n T h Q:=by
 have hb':Nat.blt b lim=true:=by simp[Nat.blt,lim];omega
 have e:(aAppend .dyn n 1 1 (.sl b g 0 (len+1) 1) (.str s)).run h=some (.sl b (g+1) 0 (len+1+s.length) 1,h.set b (.cells (g+1) (cs++byV s))):=by
  have ho:=Qj6 s
  unfold byV at ho⊢
  simp only[aAppend,aSrc,if_true,slLen,Nat.mul_one]
  rw[if_pos ⟨by omega,by omega,ho⟩]
  have ht:cs.take (len+1)=cs:=List.take_of_length_le (by omega)
  simp[HM.cells,HM.run,hb,hb',ht]
  rw[if_pos (by omega)];simp[HM.run,hb']
 refine⟨_,_,?_,hk⟩
 show(if t=t then _ else _:HM AV).run h=_
 rw[if_pos rfl,Qfp e];rfl
theorem Qnq {t b g len b2 g2:Nat} {x:UInt8} {cs:List AV} (hb:h.get b=some (.cells g cs)) (hc:len+1=cs.length) (h2:h.get b2=some (.cells g2 (byV [x]))) (hl:len+2<=140737488355328) (hl2:b<1099511627775)
  (hk:wR P N r dead fs (n+1) (putD T d (.typed t 0 (.sl b (g+1) 0 (len+2) 1))) (h.set b (.cells (g+1) (cs++byV [x]))) Q):wM P N (aAppendT t .dyn n 1 1 (.typed t 0 (.sl b g 0 (len+1) 1)) (.sl b2 g2 0 1 1)) d r dead fs n T h Q:=by
 have hb':Nat.blt b lim=true:=by simp[Nat.blt,lim];omega
 have e:(aAppend .dyn n 1 1 (.sl b g 0 (len+1) 1) (.sl b2 g2 0 1 1)).run h=some (.sl b (g+1) 0 (len+2) 1,h.set b (.cells (g+1) (cs++byV [x]))):=by
  have ht:cs.take (len+1)=cs:=List.take_of_length_le (by omega)
  simp only[aAppend,aSrc,if_true,slLen,Nat.mul_one]
  simp[HM.cells,HM.run,h2,hb,hb',ht,byV]
  rw[if_pos ⟨by omega,rfl⟩]
  simp only[HM.run,hb,Nat.beq_refl,cond_true]
  rw[if_pos (by omega)];simp[HM.run,hb',ht]
 refine⟨_,_,?_,hk⟩
 show(if t=t then _ else _:HM AV).run h=_
 rw[if_pos rfl,Qfp e];rfl
theorem Qob {t b g:Nat} {s:List UInt8} (hs:0<s.length) (hb:h.get b=some (.cells g (byV s))) (hl:s.length<=140737488355328) (hl2:b<1099511627775)
  (hk:wR P N r dead fs (n+1) (putD T d (.str s)) (h.set b (.dead g)) Q):wM P N (aUstr t (.typed t 0 (.ptr b g 0)) (.int .i64 s.length)) d r dead fs n T h Q:=by
 have hb':Nat.blt b lim=true:=by simp[Nat.blt,lim];omega
 refine⟨_,_,?_,hk⟩
 have ht:(byV s).take (s.length:Int).toNat=byV s:=List.take_of_length_le (by simp[byV])
 simp only[aUstr]
 rw[if_pos ⟨trivial,by omega,by omega⟩]
 simp only[HM.cells,HM.run,hb,Nat.beq_refl,cond_true,ht,Qmc]
 rw[if_pos (by omega)];simp[HM.run,hb']
theorem RB.deadB {m:Nat} {π:Nat->Option Src} {h:Heap} {b g:Nat} {r:HL} (hm:Nat.blt b m=true) (hg:h.get b=some (.dead g)) (hr:RB m π h r):RB m π h ((b,.dead g)::r):=⟨.inl ⟨by simpa using hm,hg⟩,hr⟩
theorem QaE {t:Nat} {x:AV}:wM P N (aBoxT t .dyn n x) d r dead fs n T h Q=if x.boxable=true then wN P N x.cells (.typed t x.cells.length (.ptr n 0 0)) d r dead fs n T h Q else False:=by
 unfold aBoxT
 rw[QcG,Qfd rfl]
 split<;>simp_all
end Go.AM
namespace Go.AM.SO
open Go.Proofs Go.AM.SD Go.AM.SE
abbrev bldP:AV:= .typed 238 2 (.ptr 50 0 0)
abbrev bufG (g n:Nat):AV:= .typed 5 0 (.sl 60 g 0 n 1)
abbrev bufV (n:Nat):AV:=bufG 0 n
theorem _root_.Go.AM.au13 {p:Prop} (h:p:=by repeat (first|exact RT.nil|(refine RT.cons ?_ ?_; · (first|exact Rn.any|exact Rn.x1 rfl rfl|exact Rn.x2 rfl rfl|exact Rn.x3 rfl rfl|exact Rn.x4 rfl rfl|exact Rn.x5 rfl|exact Rn.x6 rfl|exact Rn.x7 rfl|(refine Rn.slot ?_ ?_;(first|rfl|(rw[Int.natCast_add];rfl));(first|rfl|(simp only[noRef,noRefs,Qak,Bool.and_self,Bool.and_true,Bool.true_and,Qac,Qaq,Qab];done)))|(refine Rn.fn ?_ ?_<;>(repeat' (first|exact RnL.nil|refine RnL.cons ?_ ?_|exact Rn.same rfl|exact Rn.x6 rfl|exact Rn.x2 rfl rfl|exact Rn.x5 rfl|exact Rn.x1 rfl rfl))))))):p:=h
theorem copyCheck0:HSpec Tryz.prog 200 [bldP] (hp [(50,.cells 0 [.nilptr,.nilsl])]) (.tup []) (hp [(50,.cells 0 [bldP,.nilsl])]):=by
 refine HSpec.Qck (m:=51) 100 OK.ok200 rfl rfl rfl ?_
 simp(disch:=first|omega|exact PairsOK.mk rfl|(simp only[lenW]<;>omega)) only[OK.s200,Qar,QaG,Qax,QaH,QaC,Qan,QaI,tNil,tFA,tEq0,tEq1,tConv,tExt,tEqP,Qay,QaJ,QaK,tUsd,tLen,wW,wV,simprocAttr]
 refine⟨.inl trivial,_,rfl,rfl,?_⟩
 refine⟨[(50,.nil)],rfl,au0,?_,au13⟩
 exact RB.cellsB rfl gg (RnL.cons (Rn.typed (Rn.x6 rfl)) (RnL.cons (Rn.same rfl) RnL.nil)) RB.nil
theorem copyCheck1 (g n:Nat) (C:List AV) (hC:noRefs C=true):HSpec Tryz.prog 200 [bldP] (hp [(50,.cells 0 [bldP,bufG g n]),(60,.cells g C)]) (.tup []) (hp [(50,.cells 0 [bldP,bufG g n]),(60,.cells g C)]):=by
 refine HSpec.Qck (m:=61) 100 OK.ok200 rfl rfl rfl ?_
 simp(disch:=first|omega|exact PairsOK.mk rfl|(simp only[lenW]<;>omega)) only[OK.s200,Qar,QaG,Qax,QaH,QaC,Qan,QaI,tNil,tFA,tEq0,tEq1,tConv,tExt,tEqP,Qay,QaJ,QaK,tUsd,tLen,wW,wV,simprocAttr]
 refine⟨.inl trivial,_,rfl,rfl,?_⟩
 refine⟨[(50,.nil),(60,.nil)],rfl,au0,?_,au13⟩
 exact RB.cellsB rfl gg (RnL.cons (Rn.typed (Rn.x6 rfl)) (RnL.cons (Rn.typed (Rn.x5 rfl)) RnL.nil)) (RB.cellsB rfl gg (RnL.same hC) RB.nil)
theorem write0 (s:List UInt8) (hs:0<s.length) (hl:s.length<=1000000):HSpec Tryz.prog 154 [bldP,.str s] (hp [(50,.cells 0 [.nilptr,.nilsl])]) (.tup [.int .i64 s.length,.nilif]) (hp [(50,.cells 0 [bldP,bufV s.length]),(60,.cells 0 (byV s))]):=by
 have hC:=copyCheck0
 refine HSpec.Qck (m:=51) 100 OK.ok154 rfl rfl rfl ?_
 simp(disch:=first|omega|exact PairsOK.mk rfl|(simp only[lenW]<;>omega)) only[OK.s154,Qar,QaG,Qax,QaH,QaC,Qan,QaI,tNil,tFA,tEq0,tEq1,tConv,tExt,tEqP,Qay,QaJ,QaK,tUsd,tLen,wW,wV,simprocAttr]
 refine ch hC ?_
 simp(disch:=first|omega|exact PairsOK.mk rfl|(simp only[lenW]<;>omega)) only[Qar,QaG,Qax,QaH,QaC,Qan,QaI,tNil,tFA,tEq0,tEq1,tConv,tExt,tEqP,Qay,QaJ,QaK,tUsd,tLen,wW,wV,simprocAttr]
 refine Qnp hs (by omega) gg (by decide) ?_
 simp(disch:=first|omega|exact PairsOK.mk rfl|(simp only[lenW]<;>omega)) only[Qar,QaG,Qax,QaH,QaC,Qan,QaI,tNil,tFA,tEq0,tEq1,tConv,tExt,tEqP,Qay,QaJ,QaK,tUsd,tLen,wW,wV,simprocAttr]
 refine⟨.inr trivial,_,rfl,rfl,?_⟩
 refine⟨[(50,.nil),(60,.blk 110 0)],rfl,au0,?_,au13⟩
 exact RB.cellsB rfl gg (RnL.cons (Rn.typed (Rn.x6 rfl)) (RnL.cons (Rn.typed (Rn.x1 rfl rfl)) RnL.nil)) (RB.cells rfl rfl gg (RnL.same (Qbf _)) RB.nil)
theorem write1 (g n:Nat) (u s:List UInt8) (hn:u.length=n) (hu:0<n) (hl:n+s.length<=1000000):HSpec Tryz.prog 154 [bldP,.str s] (hp [(50,.cells 0 [bldP,bufG g n]),(60,.cells g (byV u))]) (.tup [.int .i64 s.length,.nilif])
  (hp [(50,.cells 0 [bldP,bufG (g+1) (n+s.length)]),(60,.cells (g+1) (byV (u++s)))]):=by
 obtain⟨k,rfl⟩:∃k,n=k+1:=⟨n-1,by omega⟩
 have hC:=copyCheck1 g (k+1) (byV u) (Qbf _)
 have hb:=QhK u
 rw[QlD]
 rw[hn]at hb
 refine HSpec.Qck (m:=61) 100 OK.ok154 rfl rfl rfl ?_
 simp(disch:=first|omega|exact PairsOK.mk rfl|(simp only[lenW]<;>omega)) only[OK.s154,Qar,QaG,Qax,QaH,QaC,Qan,QaI,tNil,tFA,tEq0,tEq1,tConv,tExt,tEqP,Qay,QaJ,QaK,tUsd,tLen,wW,wV,simprocAttr]
 refine ch hC ?_
 simp(disch:=first|omega|exact PairsOK.mk rfl|(simp only[lenW]<;>omega)) only[Qar,QaG,Qax,QaH,QaC,Qan,QaI,tNil,tFA,tEq0,tEq1,tConv,tExt,tEqP,Qay,QaJ,QaK,tUsd,tLen,wW,wV,simprocAttr]
 refine Qoa (cs:=byV u) gg hb.symm (by omega) (by decide) ?_
 simp(disch:=first|omega|exact PairsOK.mk rfl|(simp only[lenW]<;>omega)) only[Qar,QaG,Qax,QaH,QaC,Qan,QaI,tNil,tFA,tEq0,tEq1,tConv,tExt,tEqP,Qay,QaJ,QaK,tUsd,tLen,wW,wV,simprocAttr]
 refine⟨.inr trivial,_,rfl,rfl,?_⟩
 refine⟨[(50,.nil),(60,.nil)],rfl,au0,?_,au13⟩
 exact RB.cellsB rfl gg (RnL.cons (Rn.typed (Rn.x6 rfl)) (RnL.cons (Rn.typed (Rn.x5 rfl)) RnL.nil)) (RB.cellsB rfl gg (RnL.same (SU.QaF (Qbf _) (Qbf _))) RB.nil)
theorem writeB (g n:Nat) (u:List UInt8) (x:UInt8) (hn:u.length=n) (hu:0<n) (hl:n<=1000000):HSpec Tryz.prog 188 [bldP,.int .u8 x.toNat] (hp [(50,.cells 0 [bldP,bufG g n]),(60,.cells g (byV u))]) .nilif
  (hp [(50,.cells 0 [bldP,bufG (g+1) (n+1)]),(60,.cells (g+1) (byV (u++[x])))]):=by
 obtain⟨k,rfl⟩:∃k,n=k+1:=⟨n-1,by omega⟩
 have hC:=copyCheck1 g (k+1) (byV u) (Qbf _)
 have hb:=QhK u
 rw[QlD]
 rw[hn]at hb
 have e1:byV [x]=[.int .u8 x.toNat]:=rfl
 refine HSpec.Qck (m:=61) 100 OK.ok188 rfl rfl rfl ?_
 simp(disch:=first|omega|exact PairsOK.mk rfl|(simp only[lenW]<;>omega)) only[OK.s188,Qar,QaG,Qax,QaH,QaC,Qan,QaI,tNil,tFA,tEq0,tEq1,tConv,tExt,tEqP,Qay,QaJ,QaK,tUsd,tLen,wW,wV,simprocAttr]
 refine ch hC ?_
 simp(disch:=first|omega|exact PairsOK.mk rfl|(simp only[lenW]<;>omega)) only[Qar,QaG,Qax,QaH,QaC,Qan,QaI,tNil,tFA,tEq0,tEq1,tConv,tExt,tEqP,Qay,QaJ,QaK,tUsd,tLen,wW,wV,simprocAttr]
 refine Qnq (cs:=byV u) (x:=x) gg hb.symm gg (by omega) (by decide) ?_
 simp(disch:=first|omega|exact PairsOK.mk rfl|(simp only[lenW]<;>omega)) only[Qar,QaG,Qax,QaH,QaC,Qan,QaI,tNil,tFA,tEq0,tEq1,tConv,tExt,tEqP,Qay,QaJ,QaK,tUsd,tLen,wW,wV,simprocAttr]
 refine⟨.inr trivial,_,rfl,rfl,?_⟩
 refine⟨[(50,.nil),(60,.nil)],rfl,au0,?_,au13⟩
 exact RB.cellsB rfl gg (RnL.cons (Rn.typed (Rn.x6 rfl)) (RnL.cons (Rn.typed (Rn.x5 rfl)) RnL.nil)) (RB.cellsB rfl gg (RnL.same (SU.QaF (Qbf _) (Qbf _))) RB.nil)
theorem string1 (u:List UInt8) (hu:0<u.length) (hl:u.length<=1000000):HSpec Tryz.prog 156 [bldP] (hp [(50,.cells 0 [bldP,bufV u.length]),(60,.cells 0 (byV u))]) (.str u) (hp [(50,.cells 0 [bldP,bufV u.length]),(60,.dead 0)]):=by
 obtain⟨k,hk⟩:∃k,u.length=k+1:=⟨u.length-1,by omega⟩
 have hb:=QhK u
 rw[hk]
 refine HSpec.Qck (m:=61) 100 OK.ok156 rfl rfl rfl ?_
 simp(disch:=first|omega|exact PairsOK.mk rfl|(simp only[lenW]<;>omega)) only[OK.s156,Qar,QaG,Qax,QaH,QaC,Qan,QaI,tNil,tFA,tEq0,tEq1,tConv,tExt,tEqP,Qay,QaJ,QaK,tUsd,tLen,wW,wV,simprocAttr]
 rw[<-hk,show(k:Int)+1=(u.length:Int) by omega]
 refine Qob (s:=u) (b:=60) (g:=0) hu gg (by omega) (by decide) ?_
 simp(disch:=first|omega|exact PairsOK.mk rfl|(simp only[lenW]<;>omega)) only[Qar,QaG,Qax,QaH,QaC,Qan,QaI,tNil,tFA,tEq0,tEq1,tConv,tExt,tEqP,Qay,QaJ,QaK,tUsd,tLen,wW,wV,simprocAttr]
 refine⟨.inr trivial,_,rfl,rfl,?_⟩
 refine⟨[(50,.nil),(60,.nil)],rfl,au0,?_,au13⟩
 exact RB.cellsB rfl gg (RnL.cons (Rn.typed (Rn.x6 rfl)) (RnL.cons (Rn.typed (Rn.x5 rfl)) RnL.nil)) (RB.deadB rfl gg RB.nil)
theorem string0:HSpec Tryz.prog 156 [bldP] (hp [(50,.cells 0 [.nilptr,.nilsl])]) (.str []) (hp [(50,.cells 0 [.nilptr,.nilsl])]):=by
 refine HSpec.Qck (m:=51) 100 OK.ok156 rfl rfl rfl ?_
 simp(disch:=first|omega|exact PairsOK.mk rfl|(simp only[lenW]<;>omega)) only[OK.s156,show aUsd .nilsl=some .nilptr from rfl,show ∀t,aUstr t .nilptr (.int .i64 0)= .ret (.str []) from fun _=>rfl,Qar,QaG,Qax,QaH,QaC,Qan,QaI,tNil,tFA,tEq0,tEq1,tConv,tExt,tEqP,Qay,QaJ,QaK,tUsd,tLen,wW,wV,simprocAttr]
 refine⟨.inr trivial,_,rfl,rfl,?_⟩
 refine⟨[(50,.nil)],rfl,au0,?_,au13⟩
 exact RB.cellsB rfl gg (RnL.same rfl) RB.nil
end Go.AM.SO
namespace Go.AM.SO
open Go.Proofs Go.AM.SD Go.AM.SE
noncomputable section
def itoB (x:Nat):Bool:=callR ansB noOrc TK.ft.get (exR ansB noOrc TK.ft.get 1000) (.c .pure) 155 [.int .i64 (.ofNat x)] .e 64 (fun u _ _=>eqAV (.str [UInt8.ofNat (48+x)]) u)
def itoA:Nat->Bool:=@Nat.rec (fun _=>Bool) true fun n ih=>ifB ih (itoB n) false
theorem itoA10:itoA 10=true:=by kernel_rfl
theorem QlE:∀{n x:Nat},itoA n=true->x<n->itoB x=true
 | n + 1, x, h, hx => by
  have e:itoA (n+1)=ifB (itoA n) (itoB n) false:=rfl
  rw[e,Qaw]at h
  by_cases hn:itoA n=true
  ·rw [if_pos hn] at h
   by_cases e:x=n
   ·rw[e];exact h
   ·exact QlE hn (by omega)
  ·rw[if_neg hn]at h;cases h
theorem itoa155 {x:Nat} (h:x<10):PSpec Tryz.prog 155 [.int .i64 (x:Int)] (.str [UInt8.ofNat (48+x)]):=
 QeP (t:=TK.ft) TK.ft_ok QdM (d:=1000) (eqAV _) (fun u h=>(Qdq _ _ h).symm) (QlE itoA10 h)
end
def bldH (t:List Nat):Nat->HL
 |0=>[(50,.cells 0 [.nilptr,.nilsl])]
 |i+1=>[(50,.cells 0 [bldP,bufV (keyT (t.take (i+1))).length]),(60,.cells 0 (byV (keyT (t.take (i+1)))))]
theorem QbO (t:List Nat) {i:Nat} (h:0<i):bldH t i=[(50,.cells 0 [bldP,bufV (keyT (t.take i)).length]),(60,.cells 0 (byV (keyT (t.take i))))]:=by
 obtain⟨k,rfl⟩:∃k,i=k+1:=⟨i-1,by omega⟩
 rfl
theorem QeI (t:List Nat):(keyT t).length=t.length*2:=by
 induction t with
 |nil=>rfl
 |cons x t ih=>show(UInt8.ofNat (48+x)::32::keyT t).length=_;simp[ih];omega
theorem Qj7 {t:List Nat} {i x:Nat} (h:t[i]?=some x):keyT (t.take (i+1))=keyT (t.take i)++[UInt8.ofNat (48+x)]++[32]:=by
 unfold keyT;rw[take_succ' h,List.flatMap_append];simp
theorem key98W (t : List Nat) (h : ∀ x ∈ t, x < 10) (hl : t.length <= 1000) : PSpec Tryz.prog 98 [sliN t] (.str (keyT t)) := by
  refine PSpec.of_rn 51 OK.ok98 rfl (by(try simp only[noRefs,Qac,noRef,noRefs,Bool.and_self,Bool.and_true])<;>rfl) rfl ?_
  simp(disch:=first|omega|exact PairsOK.mk rfl|(simp only[lenW]<;>omega)) only[OK.s98,QaE,Qar,QaG,Qax,QaH,QaC,Qan,QaI,tNil,tFA,tEq0,tEq1,tConv,tExt,tEqP,Qay,QaJ,QaK,tUsd,tLen,wW,wV,simprocAttr]
  refine QaB 100 (fun i:Nat=>[(3,bldP),(6,sliN t),(7,.int .i64 t.length),(8,.int .i64 i)]) (bldH t) (fun i=>i<=t.length) (fun i=>t.length-i) 0 0 200
    (fun _:Unit=>[(3,bldP)]) (fun _=>bldH t t.length) (fun _=>True) ?_ (Nat.zero_le _) ?_ ?_
  · exact⟨[(50,.blk 52 0)],rfl,RO.zero,RB.cells rfl rfl gg (RnL.same rfl) RB.nil,RT.cons (Rn.typed (Rn.x2 rfl rfl)) au13⟩
  · rintro i hi
    by_cases hlt:i<t.length
    · obtain ⟨x, hx⟩ := Qal hlt
      have hI:=itoa155 (h x (List.mem_of_getElem? hx))
      have hs:=Qj7 hx
      have hkl:=QeI (t.take i)
      rw[List.length_take,Nat.min_eq_left (by omega)]at hkl
      by_cases hi0:i=0
      · subst hi0
        have h0:(ints (nz t)).head?=some (.int .i64 (x:Int)):=by simpa using Qa5 hx
        dsimp only[bldH]
        have hW:=write0 [UInt8.ofNat (48+x)] (by simp) (by simp)
        have hB:HSpec Tryz.prog 188 [bldP,.int .u8 32] _ _ _:=writeB 0 1 [UInt8.ofNat (48+x)] 32 rfl (by decide) (by decide)
        have e0:keyT (t.take 0)=[]:=rfl
        rw[e0,List.nil_append]at hs
        simp(disch:=first|omega|exact PairsOK.mk rfl|(simp only[lenW]<;>omega)) only[hlt,h0,QaE,Qar,QaG,Qax,QaH,QaC,Qan,QaI,tNil,tFA,tEq0,tEq1,tConv,tExt,tEqP,Qay,QaJ,QaK,tUsd,tLen,wW,wV,simprocAttr]
        refine cp hI ?_
        simp(disch:=first|omega|exact PairsOK.mk rfl|(simp only[lenW]<;>omega)) only[QaE,Qar,QaG,Qax,QaH,QaC,Qan,QaI,tNil,tFA,tEq0,tEq1,tConv,tExt,tEqP,Qay,QaJ,QaK,tUsd,tLen,wW,wV,simprocAttr]
        refine ch hW ?_
        simp(disch:=first|omega|exact PairsOK.mk rfl|(simp only[lenW]<;>omega)) only[QaE,Qar,QaG,Qax,QaH,QaC,Qan,QaI,tNil,tFA,tEq0,tEq1,tConv,tExt,tEqP,Qay,QaJ,QaK,tUsd,tLen,wW,wV,simprocAttr]
        refine ch hB ?_
        simp(disch:=first|omega|exact PairsOK.mk rfl|(simp only[lenW]<;>omega)) only[QaE,Qar,QaG,Qax,QaH,QaC,Qan,QaI,tNil,tFA,tEq0,tEq1,tConv,tExt,tEqP,Qay,QaJ,QaK,tUsd,tLen,wW,wV,simprocAttr]
        refine⟨0+1,by omega,by omega,?_⟩
        rw[QbO t (by omega),hs]
        exact⟨[(50,.blk 50 0),(60,.blk 60 1)],rfl,RO.zero,RB.cells rfl rfl gg (RnL.cons (Rn.typed (Rn.x2 rfl rfl)) (RnL.cons (Rn.typed (Rn.x1 rfl rfl)) RnL.nil)) (RB.cells rfl rfl gg (RnL.same (Qbf _)) RB.nil),RT.cons (Rn.typed (Rn.x2 rfl rfl)) au13⟩
      · rw [QbO t (by omega)]
        have hW:=write1 0 (keyT (t.take i)).length (keyT (t.take i)) [UInt8.ofNat (48+x)] rfl (by omega) (by simp;omega)
        have hB:HSpec Tryz.prog 188 [bldP,.int .u8 32] _ _ _:=writeB 1 ((keyT (t.take i)).length+1) (keyT (t.take i)++[UInt8.ofNat (48+x)]) 32 (by simp) (by omega) (by omega)
        simp(disch:=first|omega|exact PairsOK.mk rfl|(simp only[lenW]<;>omega)) only[hlt,Qa5 hx,QaE,Qar,QaG,Qax,QaH,QaC,Qan,QaI,tNil,tFA,tEq0,tEq1,tConv,tExt,tEqP,Qay,QaJ,QaK,tUsd,tLen,wW,wV,simprocAttr]
        refine cp hI ?_
        simp(disch:=first|omega|exact PairsOK.mk rfl|(simp only[lenW]<;>omega)) only[QaE,Qar,QaG,Qax,QaH,QaC,Qan,QaI,tNil,tFA,tEq0,tEq1,tConv,tExt,tEqP,Qay,QaJ,QaK,tUsd,tLen,wW,wV,simprocAttr]
        refine ch hW ?_
        simp(disch:=first|omega|exact PairsOK.mk rfl|(simp only[lenW]<;>omega)) only[QaE,Qar,QaG,Qax,QaH,QaC,Qan,QaI,tNil,tFA,tEq0,tEq1,tConv,tExt,tEqP,Qay,QaJ,QaK,tUsd,tLen,wW,wV,simprocAttr]
        refine ch hB ?_
        simp(disch:=first|omega|exact PairsOK.mk rfl|(simp only[lenW]<;>omega)) only[QaE,Qar,QaG,Qax,QaH,QaC,Qan,QaI,tNil,tFA,tEq0,tEq1,tConv,tExt,tEqP,Qay,QaJ,QaK,tUsd,tLen,wW,wV,simprocAttr]
        refine⟨i+1,by omega,by omega,?_⟩
        rw[QbO t (by omega),hs,List.length_append,List.length_append]
        exact⟨[(50,.blk 50 0),(60,.blk 60 2)],rfl,RO.zero,RB.cells rfl rfl gg (RnL.cons (Rn.typed (Rn.x2 rfl rfl)) (RnL.cons (Rn.typed (Rn.x1 rfl rfl)) RnL.nil)) (RB.cells rfl rfl gg (RnL.same (Qbf _)) RB.nil),RT.cons (Rn.typed (Rn.x2 rfl rfl)) au13⟩
    · have e : i = t.length := by omega
      subst e
      by_cases h0:t.length=0
      · rw [h0]
        dsimp only[bldH]
        simp(disch:=first|omega|exact PairsOK.mk rfl|(simp only[lenW]<;>omega)) only[hlt,h0,QaE,Qar,QaG,Qax,QaH,QaC,Qan,QaI,tNil,tFA,tEq0,tEq1,tConv,tExt,tEqP,Qay,QaJ,QaK,tUsd,tLen,wW,wV,simprocAttr]
        refine⟨(),?_⟩
        exact⟨[(50,.blk 50 0)],rfl,RO.zero,RB.cells rfl rfl gg (RnL.same rfl) RB.nil,RT.cons (Rn.typed (Rn.x2 rfl rfl)) RT.nil⟩
      · rw [QbO t (by omega)]
        simp(disch:=first|omega|exact PairsOK.mk rfl|(simp only[lenW]<;>omega)) only[hlt,QaE,Qar,QaG,Qax,QaH,QaC,Qan,QaI,tNil,tFA,tEq0,tEq1,tConv,tExt,tEqP,Qay,QaJ,QaK,tUsd,tLen,wW,wV,simprocAttr]
        refine⟨(),?_⟩
        exact⟨[(50,.blk 50 0),(60,.blk 60 0)],rfl,RO.zero,RB.cells rfl rfl gg (RnL.cons (Rn.typed (Rn.x2 rfl rfl)) (RnL.cons (Rn.typed (Rn.x1 rfl rfl)) RnL.nil)) (RB.cells rfl rfl gg (RnL.same (Qbf _)) RB.nil),RT.cons (Rn.typed (Rn.x2 rfl rfl)) RT.nil⟩
  rintro _ _
  have hkl:=QeI t
  by_cases h0:t.length=0
  · have e : t = [] := List.eq_nil_of_length_eq_zero h0
    subst e
    dsimp only[bldH,List.length_nil]
    simp(disch:=first|omega|exact PairsOK.mk rfl|(simp only[lenW]<;>omega)) only[QaE,Qar,QaG,Qax,QaH,QaC,Qan,QaI,tNil,tFA,tEq0,tEq1,tConv,tExt,tEqP,Qay,QaJ,QaK,tUsd,tLen,wW,wV,simprocAttr]
    refine ch string0 ?_
    simp(disch:=first|omega|exact PairsOK.mk rfl|(simp only[lenW]<;>omega)) only[QaE,Qar,QaG,Qax,QaH,QaC,Qan,QaI,tNil,tFA,tEq0,tEq1,tConv,tExt,tEqP,Qay,QaJ,QaK,tUsd,tLen,wW,wV,simprocAttr]
    exact⟨.inr trivial,_,rfl,Rn.same rfl⟩
  · rw [QbO t (by omega), List.take_length]
    have hS:=string1 (keyT t) (by omega) (by omega)
    simp(disch:=first|omega|exact PairsOK.mk rfl|(simp only[lenW]<;>omega)) only[QaE,Qar,QaG,Qax,QaH,QaC,Qan,QaI,tNil,tFA,tEq0,tEq1,tConv,tExt,tEqP,Qay,QaJ,QaK,tUsd,tLen,wW,wV,simprocAttr]
    refine ch hS ?_
    simp(disch:=first|omega|exact PairsOK.mk rfl|(simp only[lenW]<;>omega)) only[QaE,Qar,QaG,Qax,QaH,QaC,Qan,QaI,tNil,tFA,tEq0,tEq1,tConv,tExt,tEqP,Qay,QaJ,QaK,tUsd,tLen,wW,wV,simprocAttr]
    exact⟨.inr trivial,_,rfl,Rn.same rfl⟩
theorem key72W (t : List Nat) (h : ∀ x ∈ t, x < 10) (hl : t.length <= 1000) : PSpec Tryz.prog 72 [sliN t] (.str (keyT t)) := by
  refine PSpec.of_rn 51 OK.ok72 rfl (by(try simp only[noRefs,Qac,noRef,noRefs,Bool.and_self,Bool.and_true])<;>rfl) rfl ?_
  simp(disch:=first|omega|exact PairsOK.mk rfl|(simp only[lenW]<;>omega)) only[OK.s72,QaE,Qar,QaG,Qax,QaH,QaC,Qan,QaI,tNil,tFA,tEq0,tEq1,tConv,tExt,tEqP,Qay,QaJ,QaK,tUsd,tLen,wW,wV,simprocAttr]
  refine QaB 100 (fun i:Nat=>[(3,bldP),(6,sliN t),(7,.int .i64 t.length),(8,.int .i64 i)]) (bldH t) (fun i=>i<=t.length) (fun i=>t.length-i) 0 0 200
    (fun _:Unit=>[(3,bldP)]) (fun _=>bldH t t.length) (fun _=>True) ?_ (Nat.zero_le _) ?_ ?_
  · exact⟨[(50,.blk 52 0)],rfl,RO.zero,RB.cells rfl rfl gg (RnL.same rfl) RB.nil,RT.cons (Rn.typed (Rn.x2 rfl rfl)) au13⟩
  · rintro i hi
    by_cases hlt:i<t.length
    · obtain ⟨x, hx⟩ := Qal hlt
      have hI:=itoa155 (h x (List.mem_of_getElem? hx))
      have hs:keyT (t.take (i+1))=keyT (t.take i)++[UInt8.ofNat (48+x),32]:=by rw[Qj7 hx,List.append_assoc];rfl
      have hkl:=QeI (t.take i)
      rw[List.length_take,Nat.min_eq_left (by omega)]at hkl
      by_cases hi0:i=0
      · subst hi0
        have h0:(ints (nz t)).head?=some (.int .i64 (x:Int)):=by simpa using Qa5 hx
        dsimp only[bldH]
        have hW:=write0 [UInt8.ofNat (48+x),32] (by simp) (by simp)
        have e0:keyT (t.take 0)=[]:=rfl
        rw[e0,List.nil_append]at hs
        simp(disch:=first|omega|exact PairsOK.mk rfl|(simp only[lenW]<;>omega)) only[hlt,h0,QaE,Qar,QaG,Qax,QaH,QaC,Qan,QaI,tNil,tFA,tEq0,tEq1,tConv,tExt,tEqP,Qay,QaJ,QaK,tUsd,tLen,wW,wV,simprocAttr]
        refine cp hI ?_
        simp(disch:=first|omega|exact PairsOK.mk rfl|(simp only[lenW]<;>omega)) only[QdX,QaE,Qar,QaG,Qax,QaH,QaC,Qan,QaI,tNil,tFA,tEq0,tEq1,tConv,tExt,tEqP,Qay,QaJ,QaK,tUsd,tLen,wW,wV,simprocAttr]
        refine ch hW ?_
        simp(disch:=first|omega|exact PairsOK.mk rfl|(simp only[lenW]<;>omega)) only[QaE,Qar,QaG,Qax,QaH,QaC,Qan,QaI,tNil,tFA,tEq0,tEq1,tConv,tExt,tEqP,Qay,QaJ,QaK,tUsd,tLen,wW,wV,simprocAttr]
        refine⟨0+1,by omega,by omega,?_⟩
        rw[QbO t (by omega),hs]
        exact⟨[(50,.blk 50 0),(60,.blk 60 0)],rfl,RO.zero,RB.cells rfl rfl gg (RnL.cons (Rn.typed (Rn.x2 rfl rfl)) (RnL.cons (Rn.typed (Rn.x1 rfl rfl)) RnL.nil)) (RB.cells rfl rfl gg (RnL.same (Qbf _)) RB.nil),RT.cons (Rn.typed (Rn.x2 rfl rfl)) au13⟩
      · rw [QbO t (by omega)]
        have hW:=write1 0 (keyT (t.take i)).length (keyT (t.take i)) [UInt8.ofNat (48+x),32] rfl (by omega) (by simp;omega)
        simp(disch:=first|omega|exact PairsOK.mk rfl|(simp only[lenW]<;>omega)) only[hlt,Qa5 hx,QaE,Qar,QaG,Qax,QaH,QaC,Qan,QaI,tNil,tFA,tEq0,tEq1,tConv,tExt,tEqP,Qay,QaJ,QaK,tUsd,tLen,wW,wV,simprocAttr]
        refine cp hI ?_
        simp(disch:=first|omega|exact PairsOK.mk rfl|(simp only[lenW]<;>omega)) only[QdX,QaE,Qar,QaG,Qax,QaH,QaC,Qan,QaI,tNil,tFA,tEq0,tEq1,tConv,tExt,tEqP,Qay,QaJ,QaK,tUsd,tLen,wW,wV,simprocAttr]
        refine ch hW ?_
        simp(disch:=first|omega|exact PairsOK.mk rfl|(simp only[lenW]<;>omega)) only[QaE,Qar,QaG,Qax,QaH,QaC,Qan,QaI,tNil,tFA,tEq0,tEq1,tConv,tExt,tEqP,Qay,QaJ,QaK,tUsd,tLen,wW,wV,simprocAttr]
        refine⟨i+1,by omega,by omega,?_⟩
        rw[QbO t (by omega),hs,List.length_append]
        exact⟨[(50,.blk 50 0),(60,.blk 60 1)],rfl,RO.zero,RB.cells rfl rfl gg (RnL.cons (Rn.typed (Rn.x2 rfl rfl)) (RnL.cons (Rn.typed (Rn.x1 rfl rfl)) RnL.nil)) (RB.cells rfl rfl gg (RnL.same (Qbf _)) RB.nil),RT.cons (Rn.typed (Rn.x2 rfl rfl)) au13⟩
    · have e : i = t.length := by omega
      subst e
      by_cases h0:t.length=0
      · rw [h0]
        dsimp only[bldH]
        simp(disch:=first|omega|exact PairsOK.mk rfl|(simp only[lenW]<;>omega)) only[hlt,h0,QaE,Qar,QaG,Qax,QaH,QaC,Qan,QaI,tNil,tFA,tEq0,tEq1,tConv,tExt,tEqP,Qay,QaJ,QaK,tUsd,tLen,wW,wV,simprocAttr]
        refine⟨(),?_⟩
        exact⟨[(50,.blk 50 0)],rfl,RO.zero,RB.cells rfl rfl gg (RnL.same rfl) RB.nil,RT.cons (Rn.typed (Rn.x2 rfl rfl)) RT.nil⟩
      · rw [QbO t (by omega)]
        simp(disch:=first|omega|exact PairsOK.mk rfl|(simp only[lenW]<;>omega)) only[hlt,QaE,Qar,QaG,Qax,QaH,QaC,Qan,QaI,tNil,tFA,tEq0,tEq1,tConv,tExt,tEqP,Qay,QaJ,QaK,tUsd,tLen,wW,wV,simprocAttr]
        refine⟨(),?_⟩
        exact⟨[(50,.blk 50 0),(60,.blk 60 0)],rfl,RO.zero,RB.cells rfl rfl gg (RnL.cons (Rn.typed (Rn.x2 rfl rfl)) (RnL.cons (Rn.typed (Rn.x1 rfl rfl)) RnL.nil)) (RB.cells rfl rfl gg (RnL.same (Qbf _)) RB.nil),RT.cons (Rn.typed (Rn.x2 rfl rfl)) RT.nil⟩
  rintro _ _
  have hkl:=QeI t
  by_cases h0:t.length=0
  · have e : t = [] := List.eq_nil_of_length_eq_zero h0
    subst e
    dsimp only[bldH,List.length_nil]
    simp(disch:=first|omega|exact PairsOK.mk rfl|(simp only[lenW]<;>omega)) only[QaE,Qar,QaG,Qax,QaH,QaC,Qan,QaI,tNil,tFA,tEq0,tEq1,tConv,tExt,tEqP,Qay,QaJ,QaK,tUsd,tLen,wW,wV,simprocAttr]
    refine ch string0 ?_
    simp(disch:=first|omega|exact PairsOK.mk rfl|(simp only[lenW]<;>omega)) only[QaE,Qar,QaG,Qax,QaH,QaC,Qan,QaI,tNil,tFA,tEq0,tEq1,tConv,tExt,tEqP,Qay,QaJ,QaK,tUsd,tLen,wW,wV,simprocAttr]
    exact⟨.inr trivial,_,rfl,Rn.same rfl⟩
  · rw [QbO t (by omega), List.take_length]
    have hS:=string1 (keyT t) (by omega) (by omega)
    simp(disch:=first|omega|exact PairsOK.mk rfl|(simp only[lenW]<;>omega)) only[QaE,Qar,QaG,Qax,QaH,QaC,Qan,QaI,tNil,tFA,tEq0,tEq1,tConv,tExt,tEqP,Qay,QaJ,QaK,tUsd,tLen,wW,wV,simprocAttr]
    refine ch hS ?_
    simp(disch:=first|omega|exact PairsOK.mk rfl|(simp only[lenW]<;>omega)) only[QaE,Qar,QaG,Qax,QaH,QaC,Qan,QaI,tNil,tFA,tEq0,tEq1,tConv,tExt,tEqP,Qay,QaJ,QaK,tUsd,tLen,wW,wV,simprocAttr]
    exact⟨.inr trivial,_,rfl,Rn.same rfl⟩
end Go.AM.SO
namespace Go.AM.TX
open Go.Proofs
set_option maxHeartbeats 4000000
noncomputable section
def cf:YA.Cf:={most:= .pure}
def s101:SFn:=by
 refine(?f:YA.Yt Tryz.prog cf 101 [[1,2,6,7,8],[],[12,13,14],[5,15,16,17,18],[19,20]]) ?s ?h
 case h=>exact YA.rr
 exact fun s _=>s
def s102:SFn:=by
 refine(?f:YA.Yt Tryz.prog cf 102 [[0],[6,7],[1,2,8],[1,8],[9,10],[2,5,11,12],[13],[2,9]]) ?s ?h
 case h=>exact YA.rr
 exact fun s _=>s
def s104:SFn:=by
 refine(?f:YA.Yt Tryz.prog cf 104 [[1,2,6,7,8],[],[12,13,14],[5,15,16,17,18],[19,20]]) ?s ?h
 case h=>exact YA.rr
 exact fun s _=>s
def s135:SFn:=by
 refine(?f:YA.Yt Tryz.prog cf 135 [[2],[6],[],[9,10],[11,12,13],[14,15,16,19,20,27,28,31],[3,4,5,32,33,34],[0,7,8,44,41,43,42,40,37,39,38,36,35,30,29,26,23,25,24,22,21,18,17,53,52,51,45],[2,45,46],[0,7,8,44,41,43,42,40,37,39,38,36,35,30,29,26,23,25,24,22,21,18,17,53,52,51,47,48,49,50,54]]) ?s ?h
 case h=>exact YA.rr
 exact fun s _=>s
theorem ok101:okFn Tryz.prog 101 s101=true:=by kernel_rfl
theorem ok102:okFn Tryz.prog 102 s102=true:=by kernel_rfl
theorem ok104:okFn Tryz.prog 104 s104=true:=by kernel_rfl
theorem ok135:okFn Tryz.prog 135 s135=true:=by kernel_rfl
end
end Go.AM.TX
namespace Go.AM.SE
open Go.Proofs Go.AM.SD
def fe (f:Nat->Int):Nat->Int
 |0=>0
 |n+1=>if fe f n=0 then f n else fe f n
theorem QbH {f:Nat->Int}:∀{n:Nat},(∀j,j<n->f j=0)->fe f n=0
 |0,_=>rfl
 |n+1,h=>by
  rw[fe,if_pos (QbH fun j hj=>h j (by omega))]
  exact h n (Nat.lt_succ_self n)
theorem fe_at {f:Nat->Int} {i:Nat} {e:Int} (hf:f i=e) (he:e≠0) (hb:∀j,j<i->f j=0):∀{n:Nat},i<n->fe f n=e
  |0,h=>absurd h (Nat.not_lt_zero _)
  | n + 1, h => by
    rw[fe]
    by_cases e1:i=n
    · subst e1;rw[if_pos (QbH hb)];exact hf
    · have := fe_at hf he hb (n := n) (by omega)
      rw[if_neg (by rw[this];exact he)];exact this
theorem QhL {f:Nat->Int}:∀{n:Nat},fe f n=0->∀j,j<n->f j=0
 |0,_,j,hj=>absurd hj (Nat.not_lt_zero _)
 | n + 1, h, j, hj => by
  rw[fe]at h
  split at h
  ·rename_i h0
   by_cases e:j=n
   ·subst e;exact h
   ·exact QhL h0 j (by omega)
  ·rename_i h0;exact absurd h h0
theorem fe_up {f:Nat->Int} {i:Nat} (hb:∀j,j<i->f j=0) (h:f i=0):∀j,j<i+1->f j=0:=fun j hj=>by
 by_cases e:j=i
 ·subst e;exact h
 ·exact hb j (by omega)
def setE (l:List Int) (n:Int) (i:Nat):Int:=
 if l.getD i 0<0\/n<=l.getD i 0 then 2 else if 0<i/\l.getD i 0<=l.getD (i-1) 0 then 5 else 0
def setErr (l:List Int) (n:Int):Int:=fe (setE l n) l.length
theorem QaY {α:Type} {l:List α} {i:Nat} {x d:α} (h:l[i]?=some x):l.getD i d=x:=by rw[List.getD_eq_getElem?_getD,h];rfl
theorem set49X (l : List Int) (n : Int) (hl : l.length <= 9223372036854775807) : PSpec Tryz.prog 192 [sli l, .int .i64 n] (.int .i64 (setErr l n)) := by
  refine PSpec.Qau 64 ok192 rfl (by(try simp only[noRefs,Qac,Qat,Qaf,QaA,Qas,noRef,Bool.and_self,Bool.and_true])<;>rfl) rfl ?_
  simp(disch:=first|omega|(simp only[lenW]<;>omega)) only[s192,wV,simprocAttr]
  refine Qba 100 (fun i:Nat=>[(0,sli l),(1,.int .i64 n),(7,sli l),(8,.int .i64 l.length),(9,.int .i64 i)]) (fun _=>[]) (fun i=>i<=l.length/\∀j,j<i->setE l n j=0) (fun i=>l.length-i) 0 ⟨[],rfl,au0,au1,au2⟩ ⟨Nat.zero_le _,fun j hj=>absurd hj (Nat.not_lt_zero _)⟩ ?_
  rintro i ⟨hi,hb⟩
  by_cases hlt:i<l.length
  · obtain ⟨x, hx⟩ := Qal hlt
    have hgx:l.getD i 0=x:=QaY hx
    by_cases h1:x<0
    · simp (disch := first | omega | (simp only [lenW] <;> omega)) only [hlt, QaP hx, h1, wV, simprocAttr]
      exact⟨.inr trivial,_,rfl,by rw[setErr,fe_at (e:=2) (by unfold setE;rw[hgx,if_pos (.inl h1)]) (by decide) hb hlt];rfl⟩
    by_cases h2:n<=x
    · simp (disch := first | omega | (simp only [lenW] <;> omega)) only [hlt, QaP hx, h1, h2, wV, simprocAttr]
      exact⟨.inr trivial,_,rfl,by rw[setErr,fe_at (e:=2) (by unfold setE;rw[hgx,if_pos (.inr h2)]) (by decide) hb hlt];rfl⟩
    have h12:¬(x<0\/n<=x):=by omega
    by_cases h0:i=0
    · have h4 : ¬ (0 : Int) < (i : Int) := by omega
      simp(disch:=first|omega|(simp only[lenW]<;>omega)) only[hlt,QaP hx,h1,h2,h4,wV,simprocAttr]
      exact⟨i+1,by omega,⟨by omega,fe_up hb (by unfold setE;rw[hgx,if_neg h12,if_neg (by omega)])⟩,⟨[],rfl,au0,au1,au2⟩⟩
    · obtain ⟨y, hy⟩ := Qal (l := l) (i := i - 1) (by omega)
      have hgy:l.getD (i-1) 0=y:=QaY hy
      have h4:(0:Int)<(i:Int):=by omega
      have h5:(i:Int)-1=((i-1:Nat):Int):=by omega
      have h6:((i-1:Nat):Int)<l.length:=by omega
      by_cases h3:x<=y
      · simp (disch := first | omega | (simp only [lenW] <;> omega)) only [hlt, QaP hx, h1, h2, h4, h5, h6, QaP hy, h3, wV, simprocAttr]
        exact⟨.inr trivial,_,rfl,by rw[setErr,fe_at (e:=5) (by unfold setE;rw[hgx,hgy,if_neg h12,if_pos ⟨by omega,h3⟩]) (by decide) hb hlt];rfl⟩
      · simp (disch := first | omega | (simp only [lenW] <;> omega)) only [hlt, QaP hx, h1, h2, h4, h5, h6, QaP hy, h3, wV, simprocAttr]
        exact⟨i+1,by omega,⟨by omega,fe_up hb (by unfold setE;rw[hgx,hgy,if_neg h12,if_neg (by omega)])⟩,⟨[],rfl,au0,au1,au2⟩⟩
  · simp (disch := first | omega | (simp only [lenW] <;> omega)) only [hlt, wV, simprocAttr]
    exact⟨.inr trivial,_,rfl,by rw[setErr,QbH fun j hj=>hb j (by omega)];rfl⟩
theorem Qfq {l:List Int} {n:Int} (h:setErr l n=0):SetOk l n:=by
 have h0:=QhL h
 have h1:∀i x,l[i]?=some x->(0<=x/\x<n)/\(0<i->∀y,l[i-1]?=some y->y<x):=fun i x hx=>by
  have hi:=(List.getElem?_eq_some_iff.1 hx).1
  have:=h0 i hi
  unfold setE at this
  rw[QaY hx]at this
  split at this
  ·cases this
  ·split at this
   ·cases this
   ·rename_i q1 q2
    refine⟨by omega,fun hi y hy=>?_⟩
    rw[QaY hy]at q2
    omega
 refine⟨fun x hx=>?_,?_⟩
 ·obtain ⟨i, hi, rfl⟩ := List.getElem_of_mem hx
  exact(h1 i _ (List.getElem?_eq_getElem hi)).1
 ·have : ∀ k i, i + k + 1 < l.length -> l.getD i 0 < l.getD (i + k + 1) 0 := by
   intro k
   induction k with
   |zero=>
    intro i hi
    have:=(h1 (i+1) _ (List.getElem?_eq_getElem (by omega))).2 (by omega) _ (by rw[show i+1-1=i by omega];exact List.getElem?_eq_getElem (by omega))
    rw[List.getD_eq_getElem?_getD,List.getD_eq_getElem?_getD,List.getElem?_eq_getElem (by omega),List.getElem?_eq_getElem (by omega)]
    exact this
   |succ k ih=>
    intro i hi
    have q1:=ih i (by omega)
    have:=(h1 (i+(k+1)+1) _ (List.getElem?_eq_getElem (by omega))).2 (by omega) _ (by rw[show i+(k+1)+1-1=i+k+1 by omega];exact List.getElem?_eq_getElem (by omega))
    rw[List.getD_eq_getElem?_getD,List.getD_eq_getElem?_getD,List.getElem?_eq_getElem (by omega),List.getElem?_eq_getElem (by omega)]at q1⊢
    exact Int.lt_trans q1 this
  rw[List.pairwise_iff_getElem]
  intro i j hi hj hij
  have:=this (j-i-1) i (by omega)
  rw[show i+(j-i-1)+1=j by omega,List.getD_eq_getElem?_getD,List.getD_eq_getElem?_getD,List.getElem?_eq_getElem hi,List.getElem?_eq_getElem hj]at this
  exact this
def edgE (a:Au) (i:Nat):Int:=
 let x:=a.es.getD i ⟨0,0,0⟩
 let y:=a.es.getD (i-1) ⟨0,0,0⟩
 if x.fr<0\/a.n<=x.fr\/x.to<0\/a.n<=x.to then 2 else if x.ev∉a.al then 9
 else if 0<i/\(x.fr<y.fr\/(x.fr=y.fr/\x.ev<=y.ev))then 5 else 0
def edgErr (a:Au):Int:=fe (edgE a) a.es.length
theorem edges50X (a : Au) (hl : a.es.length <= 140737488355328) (hal : a.al.length <= 140737488355328) : PSpec Tryz.prog 193 [auV a] (.int .i64 (edgErr a)) := by
  refine PSpec.Qau 64 ok193 rfl (by(try simp only[noRefs,Qac,Qat,Qaf,QaA,Qas,noRef,Bool.and_self,Bool.and_true])<;>rfl) rfl ?_
  simp(disch:=first|omega|(simp only[lenW]<;>omega)) only[s193,wV,simprocAttr]
  refine Qba 100 (fun i:Nat=>[(1,.ptr 50 0 0),(7,egs a.es),(8,.int .i64 a.es.length),(9,.int .i64 i)]) (fun _=>[(50,.cells 0 [sli a.al,.int .i64 a.n,sli a.ms,egs a.es])]) (fun i=>i<=a.es.length/\∀j,j<i->edgE a j=0) (fun i=>a.es.length-i) 0 ⟨[(50,.blk 64 0)],rfl,au0,au1,au2⟩ ⟨Nat.zero_le _,fun j hj=>absurd hj (Nat.not_lt_zero _)⟩ ?_
  rintro i ⟨hi,hb⟩
  by_cases hlt:i<a.es.length
  · obtain ⟨x, hx⟩ := Qal hlt
    have hgx:a.es.getD i ⟨0,0,0⟩=x:=QaY hx
    by_cases f1:x.fr<0
    · simp (disch := first | omega | (simp only [lenW] <;> omega)) only [hlt, QaX hx, f1, wV, simprocAttr]
      exact⟨.inr trivial,_,rfl,by rw[edgErr,fe_at (e:=2) (by unfold edgE;dsimp only;rw[hgx,if_pos (by omega)]) (by decide) hb hlt];rfl⟩
    by_cases f2:a.n<=x.fr
    · simp (disch := first | omega | (simp only [lenW] <;> omega)) only [hlt, QaX hx, f1, f2, wV, simprocAttr]
      exact⟨.inr trivial,_,rfl,by rw[edgErr,fe_at (e:=2) (by unfold edgE;dsimp only;rw[hgx,if_pos (by omega)]) (by decide) hb hlt];rfl⟩
    by_cases t1:x.to<0
    · simp (disch := first | omega | (simp only [lenW] <;> omega)) only [hlt, QaX hx, f1, f2, t1, wV, simprocAttr]
      exact⟨.inr trivial,_,rfl,by rw[edgErr,fe_at (e:=2) (by unfold edgE;dsimp only;rw[hgx,if_pos (by omega)]) (by decide) hb hlt];rfl⟩
    by_cases t2:a.n<=x.to
    · simp (disch := first | omega | (simp only [lenW] <;> omega)) only [hlt, QaX hx, f1, f2, t1, t2, wV, simprocAttr]
      exact⟨.inr trivial,_,rfl,by rw[edgErr,fe_at (e:=2) (by unfold edgE;dsimp only;rw[hgx,if_pos (by omega)]) (by decide) hb hlt];rfl⟩
    have hc:=contains62 a.al x.ev hal
    simp(disch:=first|omega|(simp only[lenW]<;>omega)) only[hlt,QaX hx,f1,f2,t1,t2,wV,simprocAttr]
    refine cp hc ?_
    by_cases hev:x.ev∈a.al
    · rw [decide_eq_true hev]
      by_cases h0:i=0
      · have h4 : (i : Int) = 0 := by omega
        simp(disch:=first|omega|(simp only[lenW]<;>omega)) only[hlt,QaX hx,h4,wV,simprocAttr]
        exact⟨1,by omega,⟨by omega,fun j hj=>by rw[show j=i by omega];unfold edgE;dsimp only;rw[hgx,if_neg (by omega),if_neg (by simpa using hev),if_neg (by omega)]⟩,⟨[(50,.blk 50 0)],rfl,au0,au1,au2⟩⟩
      · obtain ⟨y, hy⟩ := Qal (l := a.es) (i := i - 1) (by omega)
        have hgy:a.es.getD (i-1) ⟨0,0,0⟩=y:=QaY hy
        have h4:¬(i:Int)=0:=by omega
        have h5:(i:Int)-1=((i-1:Nat):Int):=by omega
        have h6:((i-1:Nat):Int)<a.es.length:=by omega
        by_cases g1:x.fr<y.fr
        · simp (disch := first | omega | (simp only [lenW] <;> omega)) only [hlt, QaX hx, h4, h5, h6, QaX hy, g1, wV, simprocAttr]
          exact⟨.inr trivial,_,rfl,by rw[edgErr,fe_at (e:=5) (by unfold edgE;dsimp only;rw[hgx,hgy,if_neg (by omega),if_neg (by simpa using hev),if_pos (by omega)]) (by decide) hb hlt];rfl⟩
        by_cases g2:x.fr=y.fr
        · by_cases g3 : x.ev <= y.ev
          · simp (disch := first | omega | (simp only [lenW] <;> omega)) only [hlt, QaX hx, h4, h5, h6, QaX hy, g1, g2, g3, wV, simprocAttr]
            exact⟨.inr trivial,_,rfl,by rw[edgErr,fe_at (e:=5) (by unfold edgE;dsimp only;rw[hgx,hgy,if_neg (by omega),if_neg (by simpa using hev),if_pos (by omega)]) (by decide) hb hlt];rfl⟩
          · simp (disch := first | omega | (simp only [lenW] <;> omega)) only [hlt, QaX hx, h4, h5, h6, QaX hy, g1, g2, g3, wV, simprocAttr]
            exact⟨i+1,by omega,⟨by omega,fe_up hb (by unfold edgE;dsimp only;rw[hgx,hgy,if_neg (by omega),if_neg (by simpa using hev),if_neg (by omega)])⟩,⟨[(50,.blk 50 0)],rfl,au0,au1,au2⟩⟩
        · simp (disch := first | omega | (simp only [lenW] <;> omega)) only [hlt, QaX hx, h4, h5, h6, QaX hy, g1, g2, wV, simprocAttr]
          exact⟨i+1,by omega,⟨by omega,fe_up hb (by unfold edgE;dsimp only;rw[hgx,hgy,if_neg (by omega),if_neg (by simpa using hev),if_neg (by omega)])⟩,⟨[(50,.blk 50 0)],rfl,au0,au1,au2⟩⟩
    · rw [decide_eq_false hev]
      simp(disch:=first|omega|(simp only[lenW]<;>omega)) only[hlt,QaX hx,wV,simprocAttr]
      exact⟨.inr trivial,_,rfl,by rw[edgErr,fe_at (e:=9) (by unfold edgE;dsimp only;rw[hgx,if_neg (by omega),if_pos hev]) (by decide) hb hlt];rfl⟩
  · simp (disch := first | omega | (simp only [lenW] <;> omega)) only [hlt, wV, simprocAttr]
    exact⟨.inr trivial,_,rfl,by rw[edgErr,QbH fun j hj=>hb j (by omega)];rfl⟩
def auErr (a:Au):Int:=
 if setErr a.al 32≠0 then setErr a.al 32 else if a.n<0 then 2 else if 4096<a.n then 3 else if setErr a.ms a.n≠0 then setErr a.ms a.n else edgErr a
theorem SetOk.len {l:List Int} {n:Int} (h:SetOk l n):(l.length:Int)<=max n 0:=by
  have h1:(l.map Int.toNat).Pairwise (· < ·):=by
    rw[List.pairwise_map]
    refine h.2.imp_of_mem fun{x y} hx hy hxy=>?_
    have:=(h.1 x hx).1
    omega
  have:=Qbk n.toNat (l.map Int.toNat) (by rw[List.nodup_iff_pairwise_ne];exact h1.imp fun h=>by omega) fun x hx=>by
    obtain⟨y,hy,rfl⟩:=List.mem_map.1 hx
    have:=h.1 y hy
    omega
  rw[List.length_map]at this
  omega
theorem check37X (a : Au) (h1 : a.al.length <= 9223372036854775807) (h2 : a.ms.length <= 9223372036854775807) (h3 : a.es.length <= 140737488355328) : PSpec Tryz.prog 112 [auV a] (.int .i64 (auErr a)) := by
  refine PSpec.Qau 64 ok112 rfl (by(try simp only[noRefs,Qac,Qat,Qaf,QaA,Qas,noRef,Bool.and_self,Bool.and_true])<;>rfl) rfl ?_
  have e1:=set49X a.al 32 h1
  have e2:=set49X a.ms a.n h2
  have e3:setErr a.al 32=0->_:=fun h=>edges50X a h3 (by have:=(Qfq h).len;omega)
  unfold auErr
  generalize setErr a.al 32=v1 at*
  generalize setErr a.ms a.n=v2 at*
  generalize edgErr a=v3 at*
  simp(disch:=first|omega|(simp only[lenW]<;>omega)) only[s112,wV,simprocAttr]
  refine cp e1 ?_
  by_cases q1:v1=0
  · have e3 := e3 q1
    simp(disch:=first|omega|(simp only[lenW]<;>omega)) only[q1,wV,simprocAttr]
    by_cases q2:a.n<0
    · simp (disch := first | omega | (simp only [lenW] <;> omega)) only [q2, wV, simprocAttr]
      exact⟨.inr trivial,_,rfl,rfl⟩
    · by_cases q3 : 4096 < a.n
      · simp (disch := first | omega | (simp only [lenW] <;> omega)) only [q2, q3, wV, simprocAttr]
        exact⟨.inr trivial,_,rfl,rfl⟩
      · simp (disch := first | omega | (simp only [lenW] <;> omega)) only [q2, q3, wV, simprocAttr]
        refine cp e2 ?_
        by_cases q4:v2=0
        · simp (disch := first | omega | (simp only [lenW] <;> omega)) only [q4, wV, simprocAttr]
          refine cp e3 ?_
          simp(disch:=first|omega|(simp only[lenW]<;>omega)) only[wV,simprocAttr]
          exact⟨.inr trivial,_,rfl,rfl⟩
        · simp (disch := first | omega | (simp only [lenW] <;> omega)) only [q4, wV, simprocAttr]
          exact⟨.inr trivial,_,rfl,rfl⟩
  · simp (disch := first | omega | (simp only [lenW] <;> omega)) only [q1, wV, simprocAttr]
    exact⟨.inr trivial,_,rfl,rfl⟩
end Go.AM.SE
namespace Go.AM.SO
open Go.Proofs Go.AM.SD Go.AM.SE
theorem Qmd {s:List UInt8} {i:Nat} {b:UInt8} (h:s[i]?=some b):aIndex none (.str s) (.int .i64 (i:Int))=some (.int .u8 ((b.toNat:Nat):Int)):=by
 simp[aIndex,h]
def okC (i n:Nat):Bool:=decide (97<=n/\n<=122\/65<=n/\n<=90\/n=95\/0<i/\48<=n/\n<=57)
def nmOk (s:List UInt8):Bool:=(List.range s.length).all (fun i=>okC i (s.getD i 0).toNat)&&decide (0<s.length)&&decide (s.length<=32)
theorem Qoc {s:List UInt8} {i:Nat} {b:UInt8} (h:s[i]?=some b) (hb:okC i b.toNat=false):nmOk s=false:=by
 have:(List.range s.length).all (fun i=>okC i (s.getD i 0).toNat)=false:=by
  rw[List.all_eq_false]
  exact⟨i,List.mem_range.2 (List.getElem?_eq_some_iff.1 h).1,by rw[QaY h,hb];simp⟩
 unfold nmOk
 rw[this];rfl
theorem Qod {s:List UInt8} (h:∀(i:Nat) b,s[i]?=some b->okC i b.toNat=true):nmOk s=(decide (0<s.length)&&decide (s.length<=32)):=by
 have:(List.range s.length).all (fun i=>okC i (s.getD i 0).toNat)=true:=by
  rw[List.all_eq_true]
  intro i hi
  obtain⟨b,hb⟩:=Qal (List.mem_range.1 hi)
  rw[QaY hb];exact h i b hb
 unfold nmOk
 rw[this];rfl
theorem _root_.Go.AM.au14 {p:Prop} (h:p:=by repeat' (first|exact RB.nil|(refine RnL.same ?_;first|rfl|(simp only[noRef,noRefs,Qak,Bool.and_self,Bool.and_true,Bool.true_and,Qac,Qaq,Qab];done))|exact RnM.keyM rfl|exact RnL.nil|exact(True.intro:RnM _ _ _ [] [])|refine RnL.cons ?_ ?_|(refine Rn.same ?_;first|rfl|(simp only[noRef,noRefs,Qak,Bool.and_self,Bool.and_true,Bool.true_and,Qac,Qaq,Qab];done))|exact Rn.x1 rfl rfl|exact Rn.x2 rfl rfl|exact Rn.x3 rfl rfl|exact Rn.x4 rfl rfl|exact Rn.x5 rfl|exact Rn.x6 rfl|exact Rn.x7 rfl|refine RB.newnil rfl rfl ?_|refine RB.cells rfl rfl rfl ?_ ?_|refine RB.map rfl rfl rfl ?_ ?_|refine RB.cellsB rfl rfl ?_ ?_|refine RB.mapB rfl rfl ?_ ?_)):p:=h
theorem name135 (s : List UInt8) (hl : s.length <= 9223372036854775807) : PSpec Tryz.prog 135 [.str s] (.bool (nmOk s)) := by
  refine PSpec.Qau 64 TX.ok135 rfl rfl rfl ?_
  simp(disch:=first|omega|exact PairsOK.mk rfl|(simp only[lenW]<;>omega)) only[TX.s135,wV,simprocAttr]
  refine Qba 100 (fun i:Nat=>[(0,.str s),(7,.int .i64 s.length),(8,.int .i64 i)]) (fun _=>[]) (fun i=>i<=s.length/\∀(j:Nat) b,j<i->s[j]?=some b->okC j b.toNat=true) (fun i=>s.length-i) 0 ⟨[],rfl,au0,au14,au13⟩ ⟨Nat.zero_le _,fun j b hj=>absurd hj (Nat.not_lt_zero _)⟩ ?_
  rintro i ⟨hi,hb⟩
  by_cases hlt:i<s.length
  · obtain ⟨b, hx⟩ := Qal hlt
    have hix:=Qmd hx
    have go:okC i b.toNat=true->∀j c,j<i+1->s[j]?=some c->okC j c.toNat=true:=fun h j c hj hc=>by
      by_cases e:j=i
      · subst e;rw[hx]at hc;cases hc;exact h
      · exact hb j c (by omega) hc
    have bad:=fun h=>Qoc hx h
    have ke:okC i b.toNat=decide (97<=b.toNat/\b.toNat<=122\/65<=b.toNat/\b.toNat<=90\/b.toNat=95\/0<i/\48<=b.toNat/\b.toNat<=57):=rfl
    have go:=fun h=>go (ke.trans (decide_eq_true h))
    have bad:=fun h=>bad (ke.trans (decide_eq_false h))
    clear ke
    generalize b.toNat=n at*
    have hcls:97<=n/\n<=122\/97<=n/\122<n\/n<97/\65<=n/\n<=90\/n<97/\90<n/\n=95\/n<97/\90<n/\n≠95\/n<65/\57<n\/n<65/\n<48\/48<=n/\n<=57:=by omega
    by_cases h0:(i:Int)=0
    · rcases hcls with h | h | h | h | h | h | h | h
      all_goals
        simp(disch:=first|omega|exact PairsOK.mk rfl|(simp only[lenW]<;>omega)) only[hlt,hix,decide_eq_true,decide_eq_false,wV,simprocAttr]
        first
          |exact⟨.inr trivial,_,rfl,by rw[bad (by omega)];rfl⟩
          |exact⟨i+1,by omega,⟨by omega,go (by omega)⟩,⟨[],rfl,au0,au14,au13⟩⟩
    · rcases hcls with h | h | h | h | h | h | h | h
      all_goals
        simp(disch:=first|omega|exact PairsOK.mk rfl|(simp only[lenW]<;>omega)) only[hlt,hix,decide_eq_true,decide_eq_false,wV,simprocAttr]
        first
          |exact⟨.inr trivial,_,rfl,by rw[bad (by omega)];rfl⟩
          |exact⟨i+1,by omega,⟨by omega,go (by omega)⟩,⟨[],rfl,au0,au14,au13⟩⟩
  · have hA := Qod fun j b hj => hb j b (by have := (List.getElem?_eq_some_iff.1 hj).1; omega) hj
    rw[hA]
    by_cases h0:0<s.length
    · by_cases h3 : s.length <= 32
      · simp (disch := first | omega | exact PairsOK.mk rfl | (simp only [lenW] <;> omega)) only [hlt, decide_eq_true, decide_eq_false, wV, simprocAttr]
        exact⟨.inr trivial,_,rfl,by simp[h0,h3,resOf,QaD]⟩
      · simp (disch := first | omega | exact PairsOK.mk rfl | (simp only [lenW] <;> omega)) only [hlt, decide_eq_true, decide_eq_false, wV, simprocAttr]
        exact⟨.inr trivial,_,rfl,by simp[h0,h3,resOf,QaD]⟩
    · simp (disch := first | omega | exact PairsOK.mk rfl | (simp only [lenW] <;> omega)) only [hlt, decide_eq_true, decide_eq_false, wV, simprocAttr]
      exact⟨.inr trivial,_,rfl,by simp[h0,resOf,QaD]⟩
end Go.AM.SO
namespace Go.AM.SO
open Go.Proofs Go.AM.SD Go.AM.SE
structure Evn where
 nm:List UInt8
 c:Bool
 o:Bool
 f:Bool
 flt:Int
def evnC (e:Evn):List AV:=[.str e.nm,.bool e.c,.bool e.o,.bool e.f,.int .i64 e.flt]
abbrev evns (l:List Evn):AV:= .fsl (l.flatMap evnC) l.length 5
theorem Qme (l:List Evn):noRefs (l.flatMap evnC)=true:=QaR (fun _=>rfl) l
theorem QbY (l:List Evn):noRef (evns l)=true:=by rw[evns,noRef];exact Qme l
theorem Qoe {l:List Evn} {i:Nat} {x:Evn} (h:l[i]?=some x):(l.flatMap evnC).drop (i*5)= .str x.nm:: .bool x.c:: .bool x.o:: .bool x.f:: .int .i64 x.flt::(l.drop (i+1)).flatMap evnC:=Qbe (f:=evnC) (k:=5) (fun _=>rfl) h
def ev0:Evn:=⟨[],false,false,false,0⟩
def evnE (l:List Evn) (i:Nat):Int:=
 let x:=l.getD i ev0
 if nmOk x.nm=false then 7 else if x.nm∈(l.take i).map Evn.nm then 8 else if x.flt<0\/4<x.flt then 2 else if x.flt≠0/\(x.c=true\/x.o=true)then 13 else 0
def evErr (l:List Evn):Int:=if 32<l.length then 3 else fe (evnE l) l.length
theorem QoT {l:List Evn} {i:Nat} {x:Evn} (h:l[i]?=some x):(l.take (i+1)).map Evn.nm=(l.take i).map Evn.nm++[x.nm]:=by
 rw[List.take_add_one,h,List.map_append];rfl
theorem check82X (l : List Evn) (hl : l.length <= 9223372036854775807) (hn : ∀ x ∈ l, x.nm.length <= 9223372036854775807) : PSpec Tryz.prog 82 [evns l] (.int .i64 (evErr l)) := by
  refine PSpec.Qau 64 ok82 rfl (by rw[noRefs,QbY];rfl) rfl ?_
  have hno:=QbY l
  unfold evErr
  by_cases h32:32<l.length
  · have q : (32 : Int) < (l.length : Int) := by omega
    rw[if_pos h32]
    simp(disch:=first|omega|exact PairsOK.mk rfl|(simp only[lenW]<;>omega)) only[s82,q,wW,wV,simprocAttr]
    exact⟨.inr trivial,_,rfl,rfl⟩
  have q:¬(32:Int)<(l.length:Int):=by omega
  rw[if_neg h32]
  simp(disch:=first|omega|exact PairsOK.mk rfl|(simp only[lenW]<;>omega)) only[s82,q,wW,wV,simprocAttr]
  refine Qba 100 (fun i:Nat=>[(10,evns l),(11,.int .i64 l.length),(12,.int .i64 i),(3,.map 68 0)]) (fun i=>[(68,.map 0 (mapS yes ((l.take i).map Evn.nm)))]) (fun i=>i<=l.length/\∀j,j<i->evnE l j=0) (fun i=>l.length-i) 0 ?_ ⟨Nat.zero_le _,fun j hj=>absurd hj (Nat.not_lt_zero _)⟩ ?_
  · refine⟨[(68,.blk 68 0)],rfl,RO.zero,RB.map rfl rfl rfl trivial RB.nil,RT.cons (Rn.same hno) au13⟩
  rintro i ⟨hi,hb⟩
  by_cases hlt:i<l.length
  · obtain ⟨x, hx⟩ := Qal hlt
    have hdr:=Qoe hx
    have hdl:5<=((l.flatMap evnC).drop (i*5)).length:=by rw[hdr];simp
    have hN:=name135 x.nm (hn x (List.mem_of_getElem? hx))
    have hs:=QoT hx
    have at0:∀e:Int,evnE l i=e->e≠0->fe (evnE l) l.length=e:=fun e h h0=>fe_at h h0 hb hlt
    have up:evnE l i=0->∀j,j<i+1->evnE l j=0:=fe_up hb
    have ke:evnE l i=if nmOk x.nm=false then 7 else if x.nm∈(l.take i).map Evn.nm then 8 else if x.flt<0\/4<x.flt then 2 else if x.flt≠0/\(x.c=true\/x.o=true)then 13 else 0:=by unfold evnE;rw[QaY hx]
    rw[ke]at at0 up
    clear ke
    generalize hnms:(l.take i).map Evn.nm=N at*
    obtain⟨nm,c,o,f,flt⟩:=x
    dsimp only at*
    simp(disch:=first|omega|exact PairsOK.mk rfl|(simp only[lenW]<;>omega)) only[hlt,hdr,hdl,wW,wV,simprocAttr]
    refine cp hN ?_
    cases ho:nmOk nm with
    | false =>
      simp(disch:=first|omega|exact PairsOK.mk rfl|(simp only[lenW]<;>omega)) only[wW,wV,simprocAttr]
      exact⟨.inr trivial,_,rfl,by rw[at0 7 (by rw[if_pos ho]) (by decide)];rfl⟩
    | true =>
      have ho':¬nmOk nm=false:=by rw[ho];decide
      simp(disch:=first|omega|exact PairsOK.mk rfl|(simp only[lenW]<;>omega)) only[wW,wV,simprocAttr]
      by_cases hm:nm∈N
      · refine Qf9 rfl hm ?_
        simp(disch:=first|omega|exact PairsOK.mk rfl|(simp only[lenW]<;>omega)) only[yes,wW,wV,simprocAttr]
        exact⟨.inr trivial,_,rfl,by rw[at0 8 (by rw[if_neg ho',if_pos hm]) (by decide)];rfl⟩
      refine Qfk rfl hm ?_
      by_cases k1:flt<0
      · simp (disch := first | omega | exact PairsOK.mk rfl | (simp only [lenW] <;> omega)) only [k1, wW, wV, simprocAttr]
        exact⟨.inr trivial,_,rfl,by rw[at0 2 (by rw[if_neg ho',if_neg hm,if_pos (by omega)]) (by decide)];rfl⟩
      by_cases k2:4<flt
      · simp (disch := first | omega | exact PairsOK.mk rfl | (simp only [lenW] <;> omega)) only [k1, k2, wW, wV, simprocAttr]
        exact⟨.inr trivial,_,rfl,by rw[at0 2 (by rw[if_neg ho',if_neg hm,if_pos (by omega)]) (by decide)];rfl⟩
      by_cases k3:flt=0
      · simp (disch := first | omega | exact PairsOK.mk rfl | (simp only [lenW] <;> omega)) only [k1, k2, k3, wW, wV, simprocAttr]
        refine QdN gg hm (by omega) ?_
        simp(disch:=first|omega|exact PairsOK.mk rfl|(simp only[lenW]<;>omega)) only[QgB,wW,wV,simprocAttr]
        refine⟨i+1,by omega,⟨by omega,up (by rw[if_neg ho',if_neg hm,if_neg (by omega),if_neg (fun h=>h.1 k3)])⟩,?_⟩
        rw[hs]
        refine⟨[(68,.blk 68 0)],rfl,RO.zero,?_,RT.cons (Rn.same hno) au13⟩
        exact RB.map rfl rfl gg (RnM.mapS fun _ _=>Rn.same rfl) RB.nil
      · cases c with
        | true =>
          simp(disch:=first|omega|exact PairsOK.mk rfl|(simp only[lenW]<;>omega)) only[k1,k2,k3,wW,wV,simprocAttr]
          exact⟨.inr trivial,_,rfl,by rw[at0 13 (by rw[if_neg ho',if_neg hm,if_neg (by omega),if_pos ⟨k3,.inl rfl⟩]) (by decide)];rfl⟩
        | false =>
          cases o with
          | true =>
            simp(disch:=first|omega|exact PairsOK.mk rfl|(simp only[lenW]<;>omega)) only[k1,k2,k3,wW,wV,simprocAttr]
            exact⟨.inr trivial,_,rfl,by rw[at0 13 (by rw[if_neg ho',if_neg hm,if_neg (by omega),if_pos ⟨k3,.inr rfl⟩]) (by decide)];rfl⟩
          | false =>
            simp(disch:=first|omega|exact PairsOK.mk rfl|(simp only[lenW]<;>omega)) only[k1,k2,k3,wW,wV,simprocAttr]
            refine QdN gg hm (by omega) ?_
            simp(disch:=first|omega|exact PairsOK.mk rfl|(simp only[lenW]<;>omega)) only[QgB,wW,wV,simprocAttr]
            refine⟨i+1,by omega,⟨by omega,up (by rw[if_neg ho',if_neg hm,if_neg (by omega),if_neg (fun h=>h.2.elim (fun h=>by cases h) fun h=>by cases h)])⟩,?_⟩
            rw[hs]
            refine⟨[(68,.blk 68 0)],rfl,RO.zero,?_,RT.cons (Rn.same hno) au13⟩
            exact RB.map rfl rfl gg (RnM.mapS fun _ _=>Rn.same rfl) RB.nil
  · simp (disch := first | omega | exact PairsOK.mk rfl | (simp only [lenW] <;> omega)) only [hlt, wW, wV, simprocAttr]
    exact⟨.inr trivial,_,rfl,by rw[QbH fun j hj=>hb j (by omega)];rfl⟩
end Go.AM.SO
namespace Go.AM.SO
open Go.Proofs Go.AM.SD Go.AM.SE
def natA (a:Au):Aut:=⟨a.al.map Int.toNat,a.n.toNat,a.ms.map Int.toNat,a.es.map fun e=>(e.fr.toNat,e.ev.toNat,e.to.toNat)⟩
theorem Qj8 {l:List Int} (h:∀x∈l,0<=x):nz (l.map Int.toNat)=l:=by
 rw[nz,List.map_map]
 conv=>rhs;rw[<-List.map_id l]
 refine List.map_congr_left fun x hx=>?_
 have:=h x hx
 simp;omega
theorem Qfr {l:List Int} {n:Int} (h:SetOk l n):(l.map Int.toNat).Pairwise (· < ·):=by
 rw[List.pairwise_map]
 refine h.2.imp_of_mem fun{x y} hx hy hxy=>?_
 have:=(h.1 x hx).1
 omega
theorem Qps {a:Au} (h:edgErr a=0) {i:Nat} {x:Eg} (hx:a.es[i]?=some x):(0<=x.fr/\x.fr<a.n/\0<=x.to/\x.to<a.n/\x.ev∈a.al)/\∀y,0<i->a.es[i-1]?=some y->y.fr<x.fr\/y.fr=x.fr/\y.ev<x.ev:=by
 have:=QhL h i (List.getElem?_eq_some_iff.1 hx).1
 unfold edgE at this
 dsimp only at this
 rw[QaY hx]at this
 split at this
 ·cases this
 ·split at this
  ·cases this
  ·split at this
   ·cases this
   ·rename_i q1 q2 q3
    refine⟨⟨by omega,by omega,by omega,by omega,by simpa using q2⟩,fun y h0 hy=>?_⟩
    rw[QaY hy]at q3
    omega
theorem Qnr {α:Type} {R:α->α->Prop} (ht:∀a b c,R a b->R b c->R a c):∀{l:List α},(∀(i:Nat) x y,l[i]?=some x->l[i+1]?=some y->R x y)->l.Pairwise R
 |[],_=>List.Pairwise.nil
 |[x],_=>by simp
 |x::y::l,h=>by
  have ih:=Qnr ht (l:=y::l) fun i a b ha hb=>h (i+1) a b (by simpa using ha) (by simpa using hb)
  rw[List.pairwise_cons]
  refine⟨fun z hz=>?_,ih⟩
  have hxy:=h 0 x y rfl rfl
  rcases List.mem_cons.1 hz with rfl|hz
  ·exact hxy
  ·exact ht _ _ _ hxy ((List.pairwise_cons.1 ih).1 z hz)
theorem QgG {a : Au} (h : auErr a = 0) (hn : a.n <= 1000) : au (natA a) = a /\ WfA (natA a) := by
  unfold auErr at h
  split at h
  · rename_i q;exact absurd h q
  rename_i h1
  split at h
  · cases h
  rename_i h2
  split at h
  · cases h
  rename_i h3
  split at h
  · rename_i q;exact absurd h q
  rename_i h4
  have s1:=Qfq (by simpa using h1)
  have s2:=Qfq (by simpa using h4)
  have he:=fun(i:Nat) x hx=>Qps h (i:=i) (x:=x) hx
  have hem:∀x∈a.es,0<=x.fr/\x.fr<a.n/\0<=x.to/\x.to<a.n/\x.ev∈a.al:=fun x hx=>by
    obtain⟨i,hi,rfl⟩:=List.getElem_of_mem hx
    exact(he i _ (List.getElem?_eq_getElem hi)).1
  have hev:∀x∈a.es,0<=x.ev:=fun x hx=>(s1.1 x.ev (hem x hx).2.2.2.2).1
  constructor
  · show (⟨nz _, _, nz _, _⟩ : Au) = a
    obtain⟨al,n,ms,es⟩:=a
    simp only[natA,Au.mk.injEq]at*
    refine⟨Qj8 fun x hx=>(s1.1 x hx).1,by omega,Qj8 fun x hx=>(s2.1 x hx).1,?_⟩
    rw[List.map_map]
    conv=>rhs;rw[<-List.map_id es]
    refine List.map_congr_left fun x hx=>?_
    have q:=hem x hx
    have q2:=hev x hx
    obtain⟨f,v,t⟩:=x
    simp only[Function.comp,eg,id,Eg.mk.injEq]at*
    omega
  · refine ⟨Qfr s1, fun x hx => ?_, by show a.n.toNat <= 4096; omega, Qfr s2, fun x hx => ?_, ?_, fun e hx => ?_, fun e hx => ?_⟩
    · obtain ⟨y, hy, rfl⟩ := List.mem_map.1 (show x ∈ a.al.map Int.toNat from hx)
      have:=s1.1 y hy
      omega
    · obtain ⟨y, hy, rfl⟩ := List.mem_map.1 (show x ∈ a.ms.map Int.toNat from hx)
      have:=s2.1 y hy
      show y.toNat<a.n.toNat
      omega
    · show (a.es.map _).Pairwise _
      rw[List.pairwise_map]
      have hp:a.es.Pairwise fun x y=>x.fr<y.fr\/x.fr=y.fr/\x.ev<y.ev:=Qnr (fun a b c h1 h2=>by omega) fun i x y hx hy=>by
        have:=(he (i+1) y hy).2 x (by omega) (by simpa using hx)
        omega
      refine hp.imp_of_mem fun{x y} hx hy hxy=>?_
      have q1:=hem x hx
      have q2:=hem y hy
      have q3:=hev x hx
      have q4:=hev y hy
      show x.fr.toNat<y.fr.toNat\/x.fr.toNat=y.fr.toNat/\x.ev.toNat<y.ev.toNat
      omega
    · obtain ⟨y, hy, rfl⟩ := List.mem_map.1 (show e ∈ a.es.map _ from hx)
      have q:=hem y hy
      show y.fr.toNat<a.n.toNat/\y.to.toNat<a.n.toNat
      omega
    · obtain ⟨y, hy, rfl⟩ := List.mem_map.1 (show e ∈ a.es.map _ from hx)
      exact List.mem_map.2 ⟨y.ev,(hem y hy).2.2.2.2,rfl⟩
theorem QkI {a:Aut} (h:WfA a):AOk (restr a tru):=by
 have w:=Qn1 (left:=tru) h
 have:=QbA w.al w.al5
 have:=QbA w.ms w.msn
 have:=WfA.el1 w
 have:=w.n5
 exact⟨by omega,by omega,by omega⟩
def caB (a:Au):Bool:=decide (auErr a=0)&&autB (natA a) (restr (natA a) tru)
theorem isCanon60X (a:Au) (h1:a.al.length<=9223372036854775807) (h2:a.ms.length<=9223372036854775807) (h3:a.es.length<=9000) (hn:a.n<=1000):PSpec Tryz.prog 60 [auV a] (.bool (caB a)):=by
  refine PSpec.Qau 64 ok60 rfl (by(try simp only[noRefs,Qac,Qat,Qaf,QaA,Qas,noRef,Bool.and_self,Bool.and_true])<;>rfl) rfl ?_
  have hC:=check37X a h1 h2 (by omega)
  unfold caB
  by_cases h0:auErr a=0
  · obtain ⟨e, hw⟩ := QgG h0 hn
    have hel:(natA a).es.length<=9000:=by show(a.es.map _).length<=_;rw[List.length_map];exact h3
    have hml:(natA a).ms.length<=(natA a).n:=Qbk _ _ hw.nd hw.msn
    have hal:=QbA hw.al hw.al5
    have hn5:=hw.n5
    have hk:=canonical44 (natA a) hw (by omega)
    have hq:=eq43 (natA a) (restr (natA a) tru) ⟨by omega,by omega,by omega⟩ (QkI hw)
    have ea:aV (natA a)=auV a:=by rw[<-Qm7,e]
    rw[ea]at hk hq
    rw[h0]at hC
    simp(disch:=first|omega|exact PairsOK.mk rfl|(simp only[lenW]<;>omega)) only[s60,wV,simprocAttr]
    refine cp hC ?_
    simp(disch:=first|omega|exact PairsOK.mk rfl|(simp only[lenW]<;>omega)) only[wV,simprocAttr]
    refine cp hk ?_
    simp(disch:=first|omega|exact PairsOK.mk rfl|(simp only[lenW]<;>omega)) only[wV,simprocAttr]
    refine cp hq ?_
    simp(disch:=first|omega|exact PairsOK.mk rfl|(simp only[lenW]<;>omega)) only[wV,simprocAttr]
    exact⟨.inr trivial,_,rfl,by simp[h0,resOf,QaD]⟩
  · simp (disch := first | omega | exact PairsOK.mk rfl | (simp only [lenW] <;> omega)) only [s60, wV, simprocAttr]
    refine cp hC ?_
    simp(disch:=first|omega|exact PairsOK.mk rfl|(simp only[lenW]<;>omega)) only[h0,wV,simprocAttr]
    exact⟨.inr trivial,_,rfl,by simp[h0,resOf,QaD]⟩
end Go.AM.SO
namespace Go.AM.SO
open Go.Proofs Go.AM.SD Go.AM.SE
abbrev Itn:=List UInt8×Au
def itV (x:Itn):List AV:=[.str x.1,sli x.2.al,.int .i64 x.2.n,sli x.2.ms,egs x.2.es]
structure ItOk (x:Itn):Prop where
 nm:x.1.length<=9223372036854775807
 al:x.2.al.length<=9223372036854775807
 ms:x.2.ms.length<=9223372036854775807
 es:x.2.es.length<=9000
 n:x.2.n<=1000
def minB (A B:List Nat):Bool:=decide ((mrg (fun a b=>a&& !b) A B).length=0)
def itE2 (E:Int) (B:List Nat) (a:Au):Int:=
 if auErr a≠0 then auErr a else if caB a=false then 6 else if a.n=0 then 12 else if(natA a).al.any (fun x=>decide (E<=(x:Int)))=true then 2 else if minB (natA a).al B=false then 9 else 0
def itEr (E:Int) (B:List Nat) (N:List (List UInt8)) (x:Itn):Int:=if nmOk x.1=false then 7 else if x.1∈N then 8 else itE2 E B x.2
def itNs (N:List (List UInt8)) (x:Itn):List (List UInt8):=if nmOk x.1=false\/x.1∈N then N else N++[x.1]
theorem Qns {E:Int} {B:List Nat} {N:List (List UInt8)} {x:Itn} (h:nmOk x.1=false):itEr E B N x=7/\itNs N x=N:=⟨if_pos h,if_pos (.inl h)⟩
theorem Qnt {E:Int} {B:List Nat} {N:List (List UInt8)} {x:Itn} (h:nmOk x.1=true) (hm:x.1∈N):itEr E B N x=8/\itNs N x=N:=by
 have h':¬nmOk x.1=false:=by rw[h];decide
 exact⟨(if_neg h').trans (if_pos hm),if_pos (.inr hm)⟩
theorem Qnu {E:Int} {B:List Nat} {N:List (List UInt8)} {x:Itn} (h:nmOk x.1=true) (hm:x.1∉N):itEr E B N x=itE2 E B x.2/\itNs N x=N++[x.1]:=by
 have h':¬nmOk x.1=false:=by rw[h];decide
 exact⟨(if_neg h').trans (if_neg hm),if_neg fun k=>k.elim h' hm⟩
theorem ge166X (x:Nat) (E:Int):PSpec Tryz.prog 166 [.int .i64 (x:Int),.fptr [.int .i64 E]] (.bool (decide (E<=(x:Int)))):=by
 refine PSpec.Qau 64 ok166 rfl rfl rfl ?_
 simp(disch:=first|omega|exact PairsOK.mk rfl|(simp only[lenW]<;>omega)) only[s166,wW,wV,simprocAttr]
 exact⟨.inr trivial,_,rfl,rfl⟩
theorem Qhp (x:Itn):noRefs (itV x)=true:=by
 unfold itV;simp only[noRefs,noRef,Qaq,Qbr,Qac,Qat,Bool.and_true,Bool.true_and]
theorem _root_.Go.AM.au15 {p:Prop} (h:p:=by repeat (first|exact RT.nil|(refine RT.cons ?_ ?_; · (first|exact Rn.any|exact Rn.x1 rfl rfl|exact Rn.x2 rfl rfl|exact Rn.x3 rfl rfl|exact Rn.x4 rfl rfl|exact Rn.x5 rfl|exact Rn.x6 rfl|exact Rn.x7 rfl|(refine Rn.slot ?_ ?_;(first|rfl|(rw[Int.natCast_add];rfl));(first|rfl|(simp only[noRef,noRefs,Qak,Bool.and_self,Bool.and_true,Bool.true_and,Qac,Qaq,Qab,Qbr];done)))|(refine Rn.fn ?_ ?_<;>(repeat' (first|exact RnL.nil|refine RnL.cons ?_ ?_|exact Rn.same rfl|exact Rn.x6 rfl|exact Rn.x2 rfl rfl|exact Rn.x5 rfl|exact Rn.x1 rfl rfl))))))):p:=h
theorem item83X (x : Itn) (E : Int) (B : List Nat) (N : List (List UInt8)) (h : ItOk x) (hnl : N.length <= 100) (hBl : B.length <= 1000000) :
    HSpec Tryz.prog 83 [.agg (itV x),.int .i64 E,sliN B,.map 68 0] (hp [(68,nmsB N)]) (.int .i64 (itEr E B N x)) (hp [(68,nmsB (itNs N x))]):=by
  obtain⟨nm,a⟩:=x
  have hN:=name135 nm h.nm
  have hC:=check37X a h.al h.ms (by have:=h.es;dsimp only at this;omega)
  have hI:=isCanon60X a h.al h.ms h.es h.n
  refine HSpec.Qck (m:=69) 100 SR.ok83 rfl rfl rfl ?_
  have k7:=@Qns E B N (nm,a)
  have k8:=@Qnt E B N (nm,a)
  have k9:=@Qnu E B N (nm,a)
  dsimp only[itV]at*
  generalize itEr E B N (nm,a)=rE at*
  generalize itNs N (nm,a)=rN at*
  simp(disch:=first|omega|exact PairsOK.mk rfl|(simp only[lenW]<;>omega)) only[SR.s83,wW,wV,simprocAttr]
  refine cp hN ?_
  cases ho:nmOk nm with
  | false =>
    obtain⟨rfl,rfl⟩:=k7 ho
    simp(disch:=first|omega|exact PairsOK.mk rfl|(simp only[lenW]<;>omega)) only[wW,wV,simprocAttr]
    refine⟨.inr trivial,_,rfl,rfl,?_⟩
    refine⟨[(68,.nil)],rfl,au0,?_,au15⟩
    exact RB.mapB rfl gg (RnM.mapS fun _ _=>Rn.same rfl) RB.nil
  | true =>
    simp(disch:=first|omega|exact PairsOK.mk rfl|(simp only[lenW]<;>omega)) only[wW,wV,simprocAttr]
    by_cases hn:nm∈N
    · obtain ⟨rfl, rfl⟩ := k8 ho hn
      refine Qf9 gg hn ?_
      simp(disch:=first|omega|exact PairsOK.mk rfl|(simp only[lenW]<;>omega)) only[yes,wW,wV,simprocAttr]
      refine⟨.inr trivial,_,rfl,rfl,?_⟩
      refine⟨[(68,.nil)],rfl,au0,?_,au15⟩
      exact RB.mapB rfl gg (RnM.mapS fun _ _=>Rn.same rfl) RB.nil
    obtain⟨rfl,rfl⟩:=k9 ho hn
    refine Qfk gg hn ?_
    simp(disch:=first|omega|exact PairsOK.mk rfl|(simp only[lenW]<;>omega)) only[wW,wV,simprocAttr]
    refine QdN gg hn (by omega) ?_
    simp(disch:=first|omega|exact PairsOK.mk rfl|(simp only[lenW]<;>omega)) only[QgB,wW,wV,simprocAttr]
    refine cp hC ?_
    unfold itE2
    by_cases h0:auErr a=0
    · obtain ⟨ea, hw⟩ := QgG h0 h.n
      rw[h0]
      simp(disch:=first|omega|exact PairsOK.mk rfl|(simp only[lenW]<;>omega)) only[wW,wV,simprocAttr]
      refine cp hI ?_
      cases hc:caB a with
      | false =>
        simp(disch:=first|omega|exact PairsOK.mk rfl|(simp only[lenW]<;>omega)) only[wW,wV,simprocAttr]
        refine⟨.inr trivial,_,rfl,rfl,?_⟩
        refine⟨[(68,.nil)],rfl,au0,?_,au15⟩
        exact RB.mapB rfl gg (RnM.mapS fun _ _=>Rn.same rfl) RB.nil
      | true =>
        by_cases hz:a.n=0
        · simp (disch := first | omega | exact PairsOK.mk rfl | (simp only [lenW] <;> omega)) only [hz, wW, wV, simprocAttr]
          refine⟨.inr trivial,_,rfl,rfl,?_⟩
          refine⟨[(68,.nil)],rfl,au0,?_,au15⟩
          exact RB.mapB rfl gg (RnM.mapS fun _ _=>Rn.same rfl) RB.nil
        · have hal := QbA hw.al hw.al5
          have h36:=contains36 (K:=166) (cap:=[.fptr [.int .i64 E]]) (fun x=>decide (E<=(x:Int))) (natA a).al (by omega) rfl (fun x _=>ge166X x E)
          have eal:sli a.al=sliN (natA a).al:=by rw[<-Qdc];exact congrArg (fun b=>sli b.al) ea.symm
          rw[<-eal]at h36
          have hsub:=subset167 (natA a).al B (by omega) hBl
          rw[<-eal]at hsub
          cases hq:(natA a).al.any (fun x=>decide (E<=(x:Int)))with
          | true =>
            rw[hq]at h36
            simp(disch:=first|omega|exact PairsOK.mk rfl|(simp only[lenW]<;>omega)) only[hz,wW,wV,simprocAttr]
            refine SU.chc (HSpec.lend (FrzL.cons (FrzTo.same _) (FrzL.cons (FrzTo.fn FrzL.nil (FrzL.cons (FrzTo.ptr (g:=0) (cs:=[.int .i64 E]) gg (FrzL.same _)) FrzL.nil)) FrzL.nil)) h36 rfl) ?_
            simp(disch:=first|omega|exact PairsOK.mk rfl|(simp only[lenW]<;>omega)) only[wW,wV,simprocAttr]
            refine⟨.inr trivial,_,rfl,rfl,?_⟩
            refine⟨[(68,.nil)],rfl,au0,?_,au15⟩
            exact RB.mapB rfl gg (RnM.mapS fun _ _=>Rn.same rfl) RB.nil
          | false =>
            rw[hq]at h36
            simp(disch:=first|omega|exact PairsOK.mk rfl|(simp only[lenW]<;>omega)) only[hz,wW,wV,simprocAttr]
            refine SU.chc (HSpec.lend (FrzL.cons (FrzTo.same _) (FrzL.cons (FrzTo.fn FrzL.nil (FrzL.cons (FrzTo.ptr (g:=0) (cs:=[.int .i64 E]) gg (FrzL.same _)) FrzL.nil)) FrzL.nil)) h36 rfl) ?_
            simp(disch:=first|omega|exact PairsOK.mk rfl|(simp only[lenW]<;>omega)) only[wW,wV,simprocAttr]
            refine cp hsub ?_
            unfold minB
            generalize decide ((mrg (fun a b=>a&& !b) (natA a).al B).length=0)=bb at*
            cases bb with
            | false =>
              simp(disch:=first|omega|exact PairsOK.mk rfl|(simp only[lenW]<;>omega)) only[wW,wV,simprocAttr]
              refine⟨.inr trivial,_,rfl,rfl,?_⟩
              refine⟨[(68,.nil)],rfl,au0,?_,au15⟩
              exact RB.mapB rfl gg (RnM.mapS fun _ _=>Rn.same rfl) RB.nil
            | true =>
              simp(disch:=first|omega|exact PairsOK.mk rfl|(simp only[lenW]<;>omega)) only[wW,wV,simprocAttr]
              refine⟨.inr trivial,_,rfl,rfl,?_⟩
              refine⟨[(68,.nil)],rfl,au0,?_,au15⟩
              exact RB.mapB rfl gg (RnM.mapS fun _ _=>Rn.same rfl) RB.nil
    · simp (disch := first | omega | exact PairsOK.mk rfl | (simp only [lenW] <;> omega)) only [h0, wW, wV, simprocAttr]
      refine⟨.inr trivial,_,rfl,rfl,?_⟩
      refine⟨[(68,.nil)],rfl,au0,?_,au15⟩
      exact RB.mapB rfl gg (RnM.mapS fun _ _=>Rn.same rfl) RB.nil
theorem item83XF {h:Heap} (x:Itn) (E:Int) (B:List Nat) (N:List (List UInt8)) (hx:ItOk x) (hnl:N.length<=100) (hBl:B.length<=1000000) (h68:h.get 68=some (nmsB N)):
  HSpec Tryz.prog 83 [.agg (itV x),.int .i64 E,sliN B,.map 68 0] h (.int .i64 (itEr E B N x)) (h.set 68 (nmsB (itNs N x))):=by
 have hm:∀(l:List (List UInt8)),∀e∈mapS yes l,noRef e.1=true/\noRef e.2=true:=fun l e he=>by
  unfold mapS at he
  obtain⟨x,_,rfl⟩:=List.mem_map.1 he
  exact⟨rfl,rfl⟩
 exact HSpec.frameM (item83X x E B N hx hnl hBl) (OnlyD.cons (OnlyD.same (by rw[noRef];exact Qhp x)) (OnlyD.cons (OnlyD.same rfl) (OnlyD.cons (OnlyD.same (Qab _)) (OnlyD.cons (OnlyD.map rfl) OnlyD.nil)))) (OnlyD.same rfl) (hm _) (hm _) h68 rfl
end Go.AM.SO
namespace Go.AM.SO
open Go.Proofs Go.AM.SD Go.AM.SE
def prZ (x:Int×Int):List AV:=[.int .i64 x.1,.int .i64 x.2]
abbrev prs (l:List (Int×Int)):AV:= .fsl (l.flatMap prZ) l.length 2
theorem Qd1 (l:List (Int×Int)):noRefs (l.flatMap prZ)=true:=QaR (fun _=>rfl) l
theorem Qbo (l:List (Int×Int)):noRef (prs l)=true:=by rw[prs,noRef];exact Qd1 l
theorem Qde (l:List (Int×Int)):(l.flatMap prZ).length=l.length*2:=Qbg (k:=2) (fun _=>rfl) l
theorem QfC {l:List (Int×Int)} {i:Nat} {x:Int×Int} (h:l[i]?=some x):(l.flatMap prZ).drop (i*2)= .int .i64 x.1:: .int .i64 x.2::(l.drop (i+1)).flatMap prZ:=Qbe (f:=prZ) (k:=2) (fun _=>rfl) h
theorem QlF (l:List (Int×Int)):flatVs (l.flatMap prZ)=true:=by
 induction l with
 |nil=>rfl
 |cons x l ih=>rw[List.flatMap_cons];simp only[prZ,List.cons_append,List.nil_append,flatVs,ih,Bool.and_true];rfl
theorem Qj9:aEqN false .nilsl= .ret (.bool true):=rfl
theorem Qka:aEqN false .nsl= .ret (.bool false):=rfl
theorem _root_.Go.AM.au16 {p:Prop} (h:p:=by repeat' (first|exact RB.nil|(refine RnL.same ?_;first|rfl|(simp only[noRef,noRefs,Qak,Bool.and_self,Bool.and_true,Bool.true_and,Qac,Qaq,Qab,Qc6,QbZ,Qb0];done))|exact RnM.keyM rfl|exact RnL.nil|exact(True.intro:RnM _ _ _ [] [])|refine RnL.cons ?_ ?_|(refine Rn.same ?_;first|rfl|(simp only[noRef,noRefs,Qak,Bool.and_self,Bool.and_true,Bool.true_and,Qac,Qaq,Qab,Qc6,QbZ,Qb0];done))|exact Rn.x1 rfl rfl|exact Rn.x2 rfl rfl|exact Rn.x3 rfl rfl|exact Rn.x4 rfl rfl|exact Rn.x5 rfl|exact Rn.x6 rfl|exact Rn.x7 rfl|refine RB.newnil rfl rfl ?_|refine RB.cells rfl rfl rfl ?_ ?_|refine RB.map rfl rfl rfl ?_ ?_|refine RB.cellsB rfl rfl ?_ ?_|refine RB.mapB rfl rfl ?_ ?_)):p:=h
theorem _root_.Go.AM.au17 {p:Prop} (h:p:=by repeat (first|exact RT.nil|(refine RT.cons ?_ ?_; · (first|exact Rn.any|exact Rn.x1 rfl rfl|exact Rn.x2 rfl rfl|exact Rn.x3 rfl rfl|exact Rn.x4 rfl rfl|exact Rn.x5 rfl|exact Rn.x6 rfl|exact Rn.x7 rfl|(refine Rn.slot ?_ ?_;(first|rfl|(rw[Int.natCast_add];rfl));(first|rfl|(simp only[noRef,noRefs,Qak,Bool.and_self,Bool.and_true,Bool.true_and,Qac,Qaq,Qab,Qc6,QbZ,Qb0];done)))|(refine Rn.fn ?_ ?_<;>(repeat' (first|exact RnL.nil|refine RnL.cons ?_ ?_|exact Rn.same rfl|exact Rn.x6 rfl|exact Rn.x2 rfl rfl|exact Rn.x5 rfl|exact Rn.x1 rfl rfl))))))):p:=h
theorem Qkb:HSpec Tryz.prog 148 [.nilsl] .e (.sl 83 0 0 0 2) (hp [(83,.cells 0 [])]):=by
 refine HSpec.QbP 100 ok148 rfl ?_
 simp(disch:=first|omega|exact PairsOK.mk rfl|(simp only[lenW]<;>omega)) only[s148,Qj9,wW,wV,simprocAttr]
 exact⟨.inr trivial,_,rfl,⟨[(83,.nil)],rfl,au0,au16,au17⟩⟩
theorem Qkc:HSpec Tryz.prog 148 [.nsl] .e (.sl 83 0 0 0 2) (hp [(83,.cells 0 [])]):=by
 refine HSpec.QbP 100 ok148 rfl ?_
 simp(disch:=first|omega|exact PairsOK.mk rfl|(simp only[lenW]<;>omega)) only[s148,Qka,Qc5,wW,wV,simprocAttr]
 exact⟨.inr trivial,_,rfl,⟨[(83,.blk 103 1)],rfl,au0,au16,au17⟩⟩
theorem clone148H (l:List (Int×Int)) (hl:l.length<=8796093021952):HSpec Tryz.prog 148 [prs l] .e (.sl 83 0 0 l.length 2) (hp [(83,.cells 0 (l.flatMap prZ))]):=by
 cases l with
 |nil=>exact HSpec.empty Qkb Qkc
 |cons x l=>
  refine HSpec.QbP 100 ok148 rfl ?_
  have hq:aEqN false (prs (x::l))= .ret (.bool false):=rfl
  have hone:((x::l).flatMap prZ).all AV.one=true:=QeF (fun _=>rfl) _
  have hn:=Qbo (x::l)
  have hnl:=Qd1 (x::l)
  have hln:=Qde (x::l)
  generalize x::l=q at*
  simp(disch:=first|omega|exact PairsOK.mk rfl|(simp only[lenW]<;>omega)) only[s148,hq,hone,hln,wW,wV,simprocAttr]
  refine⟨.inr trivial,_,rfl,?_⟩
  refine⟨[(83,.blk 103 1)],rfl,au0,?_,au17⟩
  exact RB.cells rfl rfl gg (RnL.same hnl) RB.nil
theorem clone148X (l:List (Int×Int)) (hl:l.length<=8796093021952):PSpec Tryz.prog 148 [prs l] (prs l):=by
 have h:=(clone148H l hl).freeze (b:=83) (g:=0) (ds:=l.flatMap prZ) gg (QlF l) (by rw[Qde];exact Nat.le_refl _) rfl
 have e:(l.flatMap prZ).take (l.length*2)=l.flatMap prZ:=by rw[List.take_of_length_le (by rw[Qde];exact Nat.le_refl _)]
 rw[e]at h
 exact⟨by rw[noRefs,Qbo];rfl,Qbo l,_,h⟩
theorem Qkd:HSpec Tryz.prog 149 [.nilsl] .e (.sl 83 0 0 0 2) (hp [(83,.cells 0 [])]):=by
 refine HSpec.QbP 100 ok149 rfl ?_
 simp(disch:=first|omega|exact PairsOK.mk rfl|(simp only[lenW]<;>omega)) only[s149,Qj9,wW,wV,simprocAttr]
 exact⟨.inr trivial,_,rfl,⟨[(83,.nil)],rfl,au0,au16,au17⟩⟩
theorem Qke:HSpec Tryz.prog 149 [.nsl] .e (.sl 83 0 0 0 2) (hp [(83,.cells 0 [])]):=by
 refine HSpec.QbP 100 ok149 rfl ?_
 simp(disch:=first|omega|exact PairsOK.mk rfl|(simp only[lenW]<;>omega)) only[s149,Qka,Qc5,wW,wV,simprocAttr]
 exact⟨.inr trivial,_,rfl,⟨[(83,.blk 103 1)],rfl,au0,au16,au17⟩⟩
theorem clone149H (l:List (Int×Int)) (hl:l.length<=8796093021952):HSpec Tryz.prog 149 [prs l] .e (.sl 83 0 0 l.length 2) (hp [(83,.cells 0 (l.flatMap prZ))]):=by
 cases l with
 |nil=>exact HSpec.empty Qkd Qke
 |cons x l=>
  refine HSpec.QbP 100 ok149 rfl ?_
  have hq:aEqN false (prs (x::l))= .ret (.bool false):=rfl
  have hone:((x::l).flatMap prZ).all AV.one=true:=QeF (fun _=>rfl) _
  have hn:=Qbo (x::l)
  have hnl:=Qd1 (x::l)
  have hln:=Qde (x::l)
  generalize x::l=q at*
  simp(disch:=first|omega|exact PairsOK.mk rfl|(simp only[lenW]<;>omega)) only[s149,hq,hone,hln,wW,wV,simprocAttr]
  refine⟨.inr trivial,_,rfl,?_⟩
  refine⟨[(83,.blk 103 1)],rfl,au0,?_,au17⟩
  exact RB.cells rfl rfl gg (RnL.same hnl) RB.nil
theorem clone149X (l:List (Int×Int)) (hl:l.length<=8796093021952):PSpec Tryz.prog 149 [prs l] (prs l):=by
 have h:=(clone149H l hl).freeze (b:=83) (g:=0) (ds:=l.flatMap prZ) gg (QlF l) (by rw[Qde];exact Nat.le_refl _) rfl
 have e:(l.flatMap prZ).take (l.length*2)=l.flatMap prZ:=by rw[List.take_of_length_le (by rw[Qde];exact Nat.le_refl _)]
 rw[e]at h
 exact⟨by rw[noRefs,Qbo];rfl,Qbo l,_,h⟩
abbrev Exn:=List UInt8×List (Int×Int)
abbrev Con:=List UInt8×List (Int×Int)×Int
structure CelN where
 ev:List Evn
 cs:List Itn
 rs:List Itn
 xs:List Exn
 ks:List Con
abbrev itsV (l:List Itn):AV:= .fsl (l.flatMap itV) l.length 5
theorem Qc6 (l:List Itn):noRefs (l.flatMap itV)=true:=QaR Qhp l
theorem Qhq (l:List Itn):noRef (itsV l)=true:=by rw[itsV,noRef];exact Qc6 l
theorem QoU (l:List Itn):(l.flatMap itV).length=l.length*5:=Qbg (k:=5) (fun _=>rfl) l
theorem QgH {l:List Itn} {i:Nat} {x:Itn} (h:l[i]?=some x):(l.flatMap itV).drop (i*5)= .str x.1::sli x.2.al:: .int .i64 x.2.n::sli x.2.ms::egs x.2.es::(l.drop (i+1)).flatMap itV:=Qbe (f:=itV) (k:=5) (fun _=>rfl) h
def exZ (x:Exn):List AV:=[.str x.1,prs x.2]
abbrev exsZ (l:List Exn):AV:= .fsl (l.flatMap exZ) l.length 2
theorem QbZ (l:List Exn):noRefs (l.flatMap exZ)=true:=QaR (fun x=>by unfold exZ;rw[noRefs,noRefs,Qbo];rfl) l
theorem Qcg (l:List Exn):noRef (exsZ l)=true:=by rw[exsZ,noRef];exact QbZ l
theorem QfD (l:List Exn):(l.flatMap exZ).length=l.length*2:=Qbg (k:=2) (fun _=>rfl) l
theorem QgI {l:List Exn} {i:Nat} {x:Exn} (h:l[i]?=some x):(l.flatMap exZ).drop (i*2)= .str x.1::prs x.2::(l.drop (i+1)).flatMap exZ:=Qbe (f:=exZ) (k:=2) (fun _=>rfl) h
theorem QoV {x:Exn}:List.flatMap exZ [x]=[.str x.1,prs x.2]:=rfl
def coZ (x:Con):List AV:=[.str x.1,prs x.2.1,.int .i64 x.2.2]
abbrev cosZ (l:List Con):AV:= .fsl (l.flatMap coZ) l.length 3
theorem Qb0 (l:List Con):noRefs (l.flatMap coZ)=true:=QaR (fun x=>by unfold coZ;rw[noRefs,noRefs,Qbo];rfl) l
theorem QeJ (l:List Con):noRef (cosZ l)=true:=by rw[cosZ,noRef];exact Qb0 l
theorem QfE (l:List Con):(l.flatMap coZ).length=l.length*3:=Qbg (k:=3) (fun _=>rfl) l
theorem QgJ {l:List Con} {i:Nat} {x:Con} (h:l[i]?=some x):(l.flatMap coZ).drop (i*3)= .str x.1::prs x.2.1:: .int .i64 x.2.2::(l.drop (i+1)).flatMap coZ:=Qbe (f:=coZ) (k:=3) (fun _=>rfl) h
theorem QoW {x:Con}:List.flatMap coZ [x]=[.str x.1,prs x.2.1,.int .i64 x.2.2]:=rfl
abbrev celZ (c:CelN):AV:= .agg [evns c.ev,itsV c.cs,itsV c.rs,exsZ c.xs,cosZ c.ks]
theorem Qgd (c:CelN):noRefs [evns c.ev,itsV c.cs,itsV c.rs,exsZ c.xs,cosZ c.ks]=true:=by
 rw[noRefs,noRefs,noRefs,noRefs,noRefs,QbY,Qhq,Qhq,Qcg,QeJ];rfl
def szZ (c:CelN):List Int:=c.cs.map (·.2.n)
abbrev cdK (S:List Int) (xs:List Exn) (ks:List Con):List AV:=[sli S,exsZ xs,cosZ ks]
abbrev cdZ (S:List Int) (xs:List Exn) (ks:List Con):AV:= .agg (cdK S xs ks)
theorem QcK {S:List Int} {xs:List Exn} {ks:List Con}:noRefs (cdK S xs ks)=true:=by
 rw[cdK,noRefs,noRefs,noRefs,Qaq,Qcg,QeJ];rfl
theorem conds85X (c:CelN) (hc3:c.cs.length<=1000) (hx2:c.xs.length<=1000) (hk1:c.ks.length<=1000) (hxl:∀x∈c.xs,x.2.length<=8796093021952) (hkl:∀x∈c.ks,x.2.1.length<=8796093021952):PSpec Tryz.prog 85 [celZ c] (cdZ (szZ c) c.xs c.ks):=by
  have hnr:=Qgd c
  refine PSpec.of_rn 64 ok85 rfl (by rw[noRefs,celZ,noRef,hnr];rfl) (by rw[noRef];exact QcK) ?_
  have hci:=QoU c.cs
  have hxi:=QfD c.xs
  have hki:=QfE c.ks
  have hsz:(szZ c).length=c.cs.length:=by simp[szZ]
  simp(disch:=first|omega|exact PairsOK.mk rfl|(simp only[lenW]<;>omega)) only[s85,wW,wV,simprocAttr]
  refine QaB 100 (fun i:Nat=>[(1,.ptr 50 0 0),(2,.ptr 51 0 0),(3,.ptr 52 0 0),(12,itsV c.cs),(13,.int .i64 c.cs.length),(14,.int .i64 i)]) (fun i=>[(50,.cells 0 [evns c.ev,itsV c.cs,itsV c.rs,exsZ c.xs,cosZ c.ks]),(51,.cells 0 [.nilsl,.nilsl,.nilsl]),(52,.cells 0 [.sl 76 0 0 ((szZ c).take i).length 1,.nilsl,.nilsl]),(76,.cells 0 (ints ((szZ c).take i)))]) (fun i=>i<=c.cs.length) (fun i=>c.cs.length-i) 0 0 160
    (fun _:Unit=>[(1,.ptr 50 0 0),(2,.ptr 51 0 0),(3,.ptr 52 0 0)]) (fun _=>[(50,.cells 0 [evns c.ev,itsV c.cs,itsV c.rs,exsZ c.xs,cosZ c.ks]),(51,.cells 0 [.nilsl,.nilsl,.nilsl]),(52,.cells 0 [sli (szZ c),.nilsl,.nilsl])]) (fun _=>True) ⟨[(50,.blk 64 0),(51,.blk 65 0),(52,.blk 67 0),(76,.nil)],rfl,au0,?_,au17⟩ (Nat.zero_le _) ?_ ?_
  · exact RB.cells rfl rfl gg (RnL.same hnr) (RB.cells rfl rfl gg (RnL.same rfl) (RB.cells rfl rfl gg (RnL.cons (Rn.x4 rfl rfl) (RnL.same rfl)) (RB.newnil rfl rfl RB.nil)))
  · rintro i hi
    by_cases hlt:i<c.cs.length
    · obtain ⟨x, hx⟩ := Qal hlt
      have hdr:=QgH hx
      have hdl:5<=((c.cs.flatMap itV).drop (i*5)).length:=by rw[hdr];simp
      have hsx:(szZ c)[i]?=some x.2.n:=by unfold szZ;rw[List.getElem?_map,hx];rfl
      have hsuc:=take_succ' hsx
      have htl:((szZ c).take i).length=i:=by rw[List.length_take,hsz];omega
      simp(disch:=first|omega|exact PairsOK.mk rfl|(simp only[lenW]<;>omega)) only[hlt,hdr,hdl,htl,wW,wV,simprocAttr]
      refine⟨i+1,by omega,by omega,?_⟩
      rw[hsuc,List.length_append,Qa3,htl]
      refine⟨[(50,.blk 50 0),(51,.blk 51 0),(52,.blk 52 0),(76,.blk 76 1)],rfl,au0,?_,au17⟩
      exact RB.cells rfl rfl gg (RnL.same hnr) (RB.cells rfl rfl gg (RnL.same rfl) (RB.cells rfl rfl gg (RnL.cons (Rn.x1 rfl rfl) (RnL.same rfl)) (RB.cells rfl rfl gg (RnL.same (SU.QaF (Qac _) rfl)) RB.nil)))
    · have e : i = c.cs.length := by omega
      subst e
      have hta:(szZ c).take c.cs.length=szZ c:=by rw[<-hsz,List.take_length]
      simp(disch:=first|omega|exact PairsOK.mk rfl|(simp only[lenW]<;>omega)) only[hlt,hta,wW,wV,simprocAttr]
      refine⟨(),?_⟩
      refine⟨[(50,.blk 50 0),(51,.blk 51 0),(52,.blk 52 0)],rfl,au0,?_,au17⟩
      exact RB.cells rfl rfl gg (RnL.same hnr) (RB.cells rfl rfl gg (RnL.same rfl) (RB.cells rfl rfl gg (RnL.cons (Rn.fzm rfl rfl rfl rfl (by simp[ints]) (RnL.same (Qac _))) (RnL.same rfl)) RB.nil))
  rintro _ _
  simp(disch:=first|omega|exact PairsOK.mk rfl|(simp only[lenW]<;>omega)) only[wW,wV,simprocAttr]
  refine QaB 200 (fun i:Nat=>[(1,.ptr 50 0 0),(2,.ptr 51 0 0),(3,.ptr 52 0 0),(28,exsZ c.xs),(29,.int .i64 c.xs.length),(30,.int .i64 i)]) (fun i=>[(50,.cells 0 [evns c.ev,itsV c.cs,itsV c.rs,exsZ c.xs,cosZ c.ks]),(51,.cells 0 [.nilsl,.nilsl,.nilsl]),(52,.cells 0 [sli (szZ c),.sl 77 0 0 (c.xs.take i).length 2,.nilsl]),(77,.cells 0 ((c.xs.take i).flatMap exZ))]) (fun i=>i<=c.xs.length) (fun i=>c.xs.length-i) 0 2 260
    (fun _:Unit=>[(1,.ptr 50 0 0),(2,.ptr 51 0 0),(3,.ptr 52 0 0)]) (fun _=>[(50,.cells 0 [evns c.ev,itsV c.cs,itsV c.rs,exsZ c.xs,cosZ c.ks]),(51,.cells 0 [.nilsl,.nilsl,.nilsl]),(52,.cells 0 [sli (szZ c),exsZ c.xs,.nilsl])]) (fun _=>True) ⟨[(50,.blk 50 0),(51,.blk 51 0),(52,.blk 52 0),(77,.nil)],rfl,au0,?_,au17⟩ (Nat.zero_le _) ?_ ?_
  · exact RB.cells rfl rfl gg (RnL.same hnr) (RB.cells rfl rfl gg (RnL.same rfl) (RB.cells rfl rfl gg (RnL.cons (Rn.same (Qaq _)) (RnL.cons (Rn.x4 rfl rfl) (RnL.same rfl))) (RB.newnil rfl rfl RB.nil)))
  · rintro i hi
    by_cases hlt:i<c.xs.length
    · obtain ⟨x, hx⟩ := Qal hlt
      have hxm:=List.mem_of_getElem? hx
      have hdr:=QgI hx
      have hdl:2<=((c.xs.flatMap exZ).drop (i*2)).length:=by rw[hdr];simp
      have hsuc:=take_succ' hx
      have htl:(c.xs.take i).length=i:=by rw[List.length_take];omega
      have hcl:=clone148X x.2 (hxl x hxm)
      have hxl:=QfD (c.xs.take i)
      rw[htl]at hxl
      simp(disch:=first|omega|exact PairsOK.mk rfl|(simp only[lenW]<;>omega)) only[hlt,hdr,hdl,htl,wW,wV,simprocAttr]
      refine cp hcl ?_
      simp(disch:=first|omega|exact PairsOK.mk rfl|(simp only[lenW]<;>omega)) only[hxl,wW,wV,simprocAttr]
      refine⟨i+1,by omega,by omega,?_⟩
      rw[hsuc,List.length_append,List.flatMap_append,htl,QoV]
      refine⟨[(50,.blk 50 0),(51,.blk 51 0),(52,.blk 52 0),(77,.blk 77 1)],rfl,au0,?_,au17⟩
      exact RB.cells rfl rfl gg (RnL.same hnr) (RB.cells rfl rfl gg (RnL.same rfl) (RB.cells rfl rfl gg (RnL.cons (Rn.same (Qaq _)) (RnL.cons (Rn.x1 rfl rfl) (RnL.same rfl))) (RB.cells rfl rfl gg (RnL.same (SU.QaF (QbZ _) (by rw[noRefs,noRefs,Qbo];rfl))) RB.nil)))
    · have e : i = c.xs.length := by omega
      subst e
      simp(disch:=first|omega|exact PairsOK.mk rfl|(simp only[lenW]<;>omega)) only[hlt,List.take_length,wW,wV,simprocAttr]
      refine⟨(),?_⟩
      refine⟨[(50,.blk 50 0),(51,.blk 51 0),(52,.blk 52 0)],rfl,au0,?_,au17⟩
      exact RB.cells rfl rfl gg (RnL.same hnr) (RB.cells rfl rfl gg (RnL.same rfl) (RB.cells rfl rfl gg (RnL.cons (Rn.same (Qaq _)) (RnL.cons (Rn.fzm rfl rfl rfl rfl (QfD _) (RnL.same (QbZ _))) (RnL.same rfl))) RB.nil))
  rintro _ _
  simp(disch:=first|omega|exact PairsOK.mk rfl|(simp only[lenW]<;>omega)) only[wW,wV,simprocAttr]
  refine QaB 300 (fun i:Nat=>[(2,.ptr 51 0 0),(3,.ptr 52 0 0),(47,cosZ c.ks),(48,.int .i64 c.ks.length),(49,.int .i64 i)]) (fun i=>[(51,.cells 0 [.nilsl,.nilsl,.nilsl]),(52,.cells 0 [sli (szZ c),exsZ c.xs,.sl 78 0 0 (c.ks.take i).length 3]),(78,.cells 0 ((c.ks.take i).flatMap coZ))]) (fun i=>i<=c.ks.length) (fun i=>c.ks.length-i) 0 4 360
    (fun _:Unit=>[(2,.ptr 51 0 0),(3,.ptr 52 0 0)]) (fun _=>[(51,.cells 0 [.nilsl,.nilsl,.nilsl]),(52,.cells 0 [sli (szZ c),exsZ c.xs,cosZ c.ks])]) (fun _=>True) ⟨[(51,.blk 51 0),(52,.blk 52 0),(78,.nil)],rfl,au0,?_,au17⟩ (Nat.zero_le _) ?_ ?_
  · exact RB.cells rfl rfl gg (RnL.same rfl) (RB.cells rfl rfl gg (RnL.cons (Rn.same (Qaq _)) (RnL.cons (Rn.same (Qcg _)) (RnL.cons (Rn.x4 rfl rfl) RnL.nil))) (RB.newnil rfl rfl RB.nil))
  · rintro i hi
    by_cases hlt:i<c.ks.length
    · obtain ⟨x, hx⟩ := Qal hlt
      have hxm:=List.mem_of_getElem? hx
      have hdr:=QgJ hx
      have hdl:3<=((c.ks.flatMap coZ).drop (i*3)).length:=by rw[hdr];simp
      have hsuc:=take_succ' hx
      have htl:(c.ks.take i).length=i:=by rw[List.length_take];omega
      have hcl:=clone149X x.2.1 (hkl x hxm)
      have hxl:=QfE (c.ks.take i)
      rw[htl]at hxl
      simp(disch:=first|omega|exact PairsOK.mk rfl|(simp only[lenW]<;>omega)) only[hlt,hdr,hdl,htl,wW,wV,simprocAttr]
      refine cp hcl ?_
      simp(disch:=first|omega|exact PairsOK.mk rfl|(simp only[lenW]<;>omega)) only[hxl,wW,wV,simprocAttr]
      refine⟨i+1,by omega,by omega,?_⟩
      rw[hsuc,List.length_append,List.flatMap_append,htl,QoW]
      refine⟨[(51,.blk 51 0),(52,.blk 52 0),(78,.blk 78 1)],rfl,au0,?_,au17⟩
      exact RB.cells rfl rfl gg (RnL.same rfl) (RB.cells rfl rfl gg (RnL.cons (Rn.same (Qaq _)) (RnL.cons (Rn.same (Qcg _)) (RnL.cons (Rn.x1 rfl rfl) RnL.nil))) (RB.cells rfl rfl gg (RnL.same (SU.QaF (Qb0 _) (by rw[noRefs,noRefs,Qbo];rfl))) RB.nil))
    · have e : i = c.ks.length := by omega
      subst e
      simp(disch:=first|omega|exact PairsOK.mk rfl|(simp only[lenW]<;>omega)) only[hlt,List.take_length,wW,wV,simprocAttr]
      refine⟨(),?_⟩
      refine⟨[(51,.blk 51 0),(52,.blk 52 0)],rfl,au0,?_,au17⟩
      exact RB.cells rfl rfl gg (RnL.same rfl) (RB.cells rfl rfl gg (RnL.cons (Rn.same (Qaq _)) (RnL.cons (Rn.same (Qcg _)) (RnL.cons (Rn.fzm rfl rfl rfl rfl (QfE _) (RnL.same (Qb0 _))) RnL.nil))) RB.nil)
  rintro _ _
  simp(disch:=first|omega|exact PairsOK.mk rfl|(simp only[lenW]<;>omega)) only[wW,wV,simprocAttr]
  refine⟨.inr trivial,_,rfl,?_⟩
  exact Rn.same (by rw[noRef];exact QcK)
end Go.AM.SO
