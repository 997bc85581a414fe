/- A part of the proof of SynthesisChecksSaid: lemmas on the way (AmTq, AnBp, AnBk, AnBl, AnBo, AnBw, AnBy, AnRa, AnRe, AnEc, AnEd, AnEk, AnEe, AnOd, AnOr, AnOs, AnOx, AnOy, AnOw, AnOz, AnEf, AnEg). Conditions: none of ours. -/
import Derived.Shelf.SlSortCmp.NoneTotal
import Derived.Test.YtgfnbkngfedlkaaProg
import Derived.KernelRfl
import Derived.Test.YtgfnbkngfedlkaaAmW10
set_option linter.unusedSectionVars false
set_option maxHeartbeats 32000000
set_option maxRecDepth 100000
set_option linter.unusedVariables false
set_option linter.unusedSimpArgs false
set_option linter.unusedSectionVars false
namespace Go.AM
open Go.Proofs Go.Shelf Go.Sort
variable {P:Program} {ρ:Ren} {α:Type} [Inhabited α]
abbrev encI (ci:α->List Int) (x:α):List Value:=(ci x).map (Value.int .i64)
abbrev avI (ci:α->List Int) (x:α):List AV:=(ci x).map (AV.int .i64)
theorem Qhs {ok:Okc} {c:Ctx ok} {w:World}:∀{ns:List Int} {vs:List Value},VPre c w (ns.map (AV.int .i64)) vs->∃r,vs=ns.map (Value.int .i64)++r
 |[],vs,_=>⟨vs,rfl⟩
 |n::ns,vs,h=>by
  simp only[List.map_cons,VPre]at h
  obtain⟨v,vs',rfl,hv,hr⟩:=h
  obtain⟨r,rfl⟩:=Qhs hr
  simp only[VRel]at hv
  simp_all
theorem Qfb {ok:Okc} {c:Ctx ok} {w:World}:∀{ns:List Int} {r:List Value},VPre c w (ns.map (AV.int .i64)) (ns.map (Value.int .i64)++r)
 |[],r=>by simp[VPre]
 |n::ns,r=>by
  simp only[List.map_cons,VPre,List.cons_append]
  exact⟨_,_,rfl,by simp[VRel],Qfb⟩
theorem Qkc (ci:α->List Int) (l:List α):l.flatMap (avI ci)=(l.flatMap ci).map (AV.int .i64):=by rw[List.map_flatMap]
theorem QiX (ci:α->List Int) (l:List α):l.flatMap (encI ci)=(l.flatMap ci).map (Value.int .i64):=by rw[List.map_flatMap]
theorem Qfc {β γ:Type} {f:β->List γ} {k:Nat} (hk:∀x,(f x).length=k) (h0:0<k):∀{l:List β} {t:Nat},(l.flatMap f)[t]?=(l[t/k]?).bind fun x=>(f x)[t % k]?
  |[],t=>by simp
  | x :: l, t => by
    rw[List.flatMap_cons]
    by_cases h:t<k
    · simp_all [List.getElem?_append_left,Nat.div_eq_of_lt,Nat.mod_eq_of_lt]
    · rw [List.getElem?_append_right (by rw [hk]; omega), hk, Qfc hk h0 (l := l)]
      simp_all [Nat.div_eq_sub_div,Nat.mod_eq_sub_mod]
theorem Qgd {enc:α->List Value} {k:Nat} (hk:∀x,(enc x).length=k) (h0:0<k) (l:List α):Go.Sort.flatK enc k l.toArray=(l.flatMap enc).toArray:=by
 refine ext_get! ?_ fun t ht=>?_
 ·simp_all [List.map_const']
 ·have ht' : t < l.length * k := by simpa using ht
  have hd:t/k<l.length:=by simp_all [Nat.div_lt_iff_lt_mul]
  grind [get_flatK,Qfc]
theorem QhE {F:List Value} {C:Array Value} {o:Nat} (h:o+F.length<=C.size):(putCells id o F.toArray C).toList.drop o=F++C.toList.drop (o+F.length):=by
 apply List.ext_getElem?
 grind [putCells]
theorem HSpec.sortK {f g b γ : Nat} (L : SlLaysF0.n6 P ρ) (hf : ρ.f 6 = f) (hcall : Callable P f) (k : Nat) (h0 : 0 < k) (aE : ∀ w, (isAgg (ρ.t 24)).run P w = .ok true w) (zE : ∀ w, (Go.sizeOf (ρ.t 24)).run P w = .ok k w)
    (ci:α->List Int) (hk:∀x,(ci x).length=k) (cf:α->α->Int) (hO:SWO (ltOf cf)) (eg:∀args w,(callFunc g args).run P w= .ok (.enter g args) w)
    (hcmp:∀x y w,Calls P g #[.agg (encI ci x).toArray,.agg (encI ci y).toArray] w fun e w'=>e= .returned (.int .i64 (cf x y))/\∃q os',w'=grow (w.drewN q) os')
    (l:List α) (hl:l.length<4611686018427387904) {h:Heap} (hb:h.get b=some (.cells γ (l.flatMap (avI ci)))) (hlim:b<1099511627775):
    ∃l':List α,l'.Perm l/\l'.Pairwise (fun x y=>ltOf cf y x=false)/\HSpec P f [.sl b γ 0 l.length k,.fn g [] []] h (.tup []) (h.set b (.cells γ (l'.flatMap (avI ci)))):=by
  obtain⟨d',hd'⟩:∃d',d'=pdq (ltOf cf) l.toArray 0 l.length (Lib.bitLen l.length) true true:=⟨_,rfl⟩
  have hs:=pdq_sorts (ltOf cf) hO l.toArray 0 l.length (Lib.bitLen l.length) true true (Nat.zero_le _) (by simp) (Or.inl rfl)
  rw[<-hd']at hs
  obtain⟨⟨hsz,_,hperm⟩,hsort⟩:=hs
  have hsz':d'.size=l.length:=by simpa using hsz
  have hext:(d'.extract 0 l.length).toList=d'.toList:=by rw[<-hsz'];simp
  have hext2:(l.toArray.extract 0 l.length).toList=l:=by simp
  rw[hext,hext2]at hperm
  have henc:∀x,(encI ci x).length=k:=fun x=>by simp[hk]
  have hone:∀x,∀v∈encI ci x,v.oneCell'=true:=fun x v hv=>by
    obtain⟨n,_,rfl⟩:=List.mem_map.1 hv;rfl
  refine⟨d'.toList,hperm,?_,hcall,?_⟩
  · rw [List.pairwise_iff_getElem]
    intro i j hi hj hij
    have:=hsort i j (Nat.zero_le _) hij (by simp_all)
    grind
  intro c w cargs H ha
  have hget:∀x j,(h.set b x).get j=if j=b then some x else h.get j:=fun x j=>Tr.QaF h (by simp_all [lim]) j x
  obtain⟨v1,v2,hca,hv1,hv2⟩:∃v1 v2,cargs.toList=[v1,v2]/\VRel c w (.sl b γ 0 l.length k) v1/\v2= .func (.func g) #[] #[]:=by
    simp_all [VRels,VRel]
  have hca':cargs= #[v1,v2]:=Array.toList_inj.1 (by rw[hca])
  subst hca' hv2
  have none:l=[]->∀p cap,v1= .slice p 0 cap->Calls P f #[v1,.func (.func g) #[] #[]] w fun e w'=>∃cv c',e= .returned cv/\Evo c w c' w'/\HRel c' (h.set b (.cells γ (d'.toList.flatMap (avI ci)))) w'/\VRel c' w' (.tup []) cv:=by
    rintro e p cap rfl
    have hn:=AnyF.slices_SortFunc_none {L with} p cap (.func (.func g) #[] #[]) w
    rw[hf]at hn
    refine hn.mono ?_
    rintro e1 w' ⟨rfl,rfl⟩
    refine⟨_,c,rfl,Evo.refl c _,QbP (fun j=>?_) H,by simp[VRel,VRels]⟩
    simp_all
  simp only[VRel]at hv1
  rcases hv1 with⟨_,h1,_,rfl⟩|⟨cb,base,o,cap,C,e,fr,hp,rfl,hlc,hC,hcap⟩
  · simp_all
  by_cases hl0:l.length=0
  · simp_all
  obtain⟨ho,hbd⟩:=hcap.resolve_left (by omega)
  have ho':base=o:=ho.symm
  subst ho'
  obtain⟨C',e',fr',hcO,hC',hfr,hbs,hpre⟩:=H.here hb hp
  rw[hC]at hC';cases hC'
  have hlen:(l.flatMap ci).length=l.length*k:=by simp[List.length_flatMap,hk,List.map_const',List.sum_replicate_nat]
  have hlen':(d'.toList.flatMap ci).length=l.length*k:=by grind
  have hlk:l.length*k<=cap*k:=Nat.mul_le_mul_right k hlc
  rw[Qkc]at hpre
  obtain⟨r,hr⟩:=Qhs hpre
  have hfl:Go.Sort.flatK (encI ci) k l.toArray=((l.flatMap ci).map (Value.int .i64)).toArray:=by rw[Qgd henc h0,QiX]
  have hfl':Go.Sort.flatK (encI ci) k d'=((d'.toList.flatMap ci).map (Value.int .i64)).toArray:=by
    have:=Qgd henc h0 d'.toList
    rw[QiX]at this
    exact this
  have hblk:=QaL hC
  have hH:HoldsK (encI ci) k w cb base l.toArray:=by
    unfold HoldsK
    rw[hfl]
    intro j hj
    have hj':j<l.length*k:=by grind
    have hjC:base+j<C.size:=by omega
    refine⟨?_,?_⟩
    · simp only [World.cell?, hC]
      have h2:C.toList[base+j]?=some (((l.flatMap ci).map (Value.int .i64))[j]'(by omega)):=by
        rw[<-List.getElem?_drop,hr,List.getElem?_append_left (by omega),List.getElem?_eq_getElem]
      grind
    · simp only [World.frozen?, hC]
      have:=hfr (base+j) hjC
      grind
  have hcon:=AnyQ.slices_SortFunc_eq L k aE zE (encI ci) henc hone cf hO g #[] cb base cap l.toArray w eg (fun m os dk _ x y=>hcmp x y _) hH hblk (by simpa using hl)
  rw[hf]at hcon
  have e0:(base+0:Nat)=base:=rfl
  have esz:(l.toArray).size=l.length:=by simp
  rw[esz,<-hd']at hcon
  refine hcon.mono ?_
  rintro e1 w' ⟨rfl,n,os,rfl⟩
  have hheap:∀j,j<w.heap.size->(sortWorldK (encI ci) k w cb base n d' os).heap[j]?=if j=cb then some (.cells (putCells id base ((d'.toList.flatMap ci).map (Value.int .i64)).toArray C) e fr)else w.heap[j]?:=fun j hj=>by
    unfold sortWorldK putRowK
    rw[heap_grow_old _ _ (by grind [putRow,mapBlock,Sort.ahead]),hfl']
    show(w.heap.modify cb _)[j]?=_
    rw[Array.getElem?_modify]
    by_cases e2:cb=j
    · subst e2;rw[if_pos rfl,if_pos rfl,hC];rfl
    grind
  have hszw:w.heap.size<=(sortWorldK (encI ci) k w cb base n d' os).heap.size:=by
    grind
  have hcb:=hheap cb hblk
  rw[if_pos rfl]at hcb
  obtain⟨E,H2⟩:=H.put (w':=sortWorldK (encI ci) k w cb base n d' os) (b:=b) (cb:=cb) (base:=base) (x:= .cells γ (d'.toList.flatMap (avI ci))) (by grind [lim]) (fun y hy=>H.later b _ hb y hy) (.inr hp) (.inr ⟨γ,base,⟨_,hb,rfl,fun k=>by simp⟩,hp⟩) rfl rfl rfl hszw (by omega)
    (fun j hj hne=>by grind) (fun C2 e2 fr2 h2=>by
      grind [putCells]) (fun E=> .inr ⟨cb,base,_,_,_,by show(if b=b/\γ=γ then _ else _)=_;grind,.inr rfl,hcb,by grind [putCells],by grind [putCells],by
        grind [QhE,Qkc,Qfb]⟩)
  exact⟨_,_,rfl,E,H2,by simp[VRel,VRels]⟩
end Go.AM
namespace Go.Proofs
open Go.Shelf Go.RowKit Go.Lib Go.Sort
def Try.QkJ:Go.Shelf.Ren:=⟨fun|6=>31|15=>39|14=>38|28=>50|29=>51|20=>42|21=>43|22=>44|23=>45|24=>46|25=>47|26=>48|27=>49|46=>52|47=>53|48=>54|49=>55|50=>56|57=>57|n=>n,fun|22=>35|24=>52|25=>69|3=>3|39=>75|0=>0|53=>89|55=>91|4=>4|46=>83|45=>82|50=>79|5=>5|9=>9|66=>92|70=>96|76=>98|77=>99|n=>n,fun|n=>n⟩
theorem Try.sortRm:Go.Proofs.SlLaysF0.n6 Try.prog Try.QkJ:={
 mixed:=by kernel_rfl
 f6:=⟨Try.f31.name,by decide,Try.func31.trans (congrArg some (by kernel_rfl))⟩
 f14:=⟨Try.f38.name,by decide,Try.func38.trans (congrArg some (by kernel_rfl))⟩
 f15:=Try.func39.trans (congrArg some (by kernel_rfl))
 f20:=⟨Try.f42.name,by decide,Try.func42.trans (congrArg some (by kernel_rfl))⟩
 f21:=⟨Try.f43.name,by decide,Try.func43.trans (congrArg some (by kernel_rfl))⟩
 f22:=⟨Try.f44.name,by decide,Try.func44.trans (congrArg some (by kernel_rfl))⟩
 f23:=⟨Try.f45.name,by decide,Try.func45.trans (congrArg some (by kernel_rfl))⟩
 f24:=⟨Try.f46.name,by decide,Try.func46.trans (congrArg some (by kernel_rfl))⟩
 f25:=⟨Try.f47.name,by decide,Try.func47.trans (congrArg some (by kernel_rfl))⟩
 f26:=⟨Try.f48.name,by decide,Try.func48.trans (congrArg some (by kernel_rfl))⟩
 f27:=⟨Try.f49.name,by decide,Try.func49.trans (congrArg some (by kernel_rfl))⟩
 f28:=Try.func50.trans (congrArg some (by kernel_rfl))
 f29:=Try.func51.trans (congrArg some (by kernel_rfl))
 f46:=⟨Try.f52.name,by decide,Try.func52.trans (congrArg some (by kernel_rfl))⟩
 f47:=Try.func53.trans (congrArg some (by kernel_rfl))
 f48:=Try.func54.trans (congrArg some (by kernel_rfl))
 f49:=⟨Try.f55.name,by decide,Try.func55.trans (congrArg some (by kernel_rfl))⟩
 f50:=⟨Try.f56.name,by decide,Try.func56.trans (congrArg some (by kernel_rfl))⟩
 f57:=⟨Try.f57.name,by decide,Try.func57.trans (congrArg some (by kernel_rfl))⟩
 t0:=Try.underlying0
 a0:=Try.isAgg0
 z0:=Try.sizeOf0
 v0:=Try.zeroValue0
 t3:=Try.underlying3
 a3:=Try.isAgg3
 z3:=Try.sizeOf3
 v3:=Try.zeroValue3
 t4:=Try.underlying4
 a4:=Try.isAgg4
 z4:=Try.sizeOf4
 v4:=Try.zeroValue4
 t5:=Try.underlying5
 a5:=Try.isAgg5
 z5:=Try.sizeOf5
 v5:=Try.zeroValue5
 t9:=Try.underlying9
 a9:=Try.isAgg9
 z9:=Try.sizeOf9
 v9:=Try.zeroValue9
 t22:=Try.underlying35
 a22:=Try.isAgg35
 z22:=Try.sizeOf35
 v22:=Try.zeroValue35
 t25:=Try.underlying69
 a25:=Try.isAgg69
 z25:=Try.sizeOf69
 v25:=Try.zeroValue69
 t39:=Try.underlying75
 a39:=Try.isAgg75
 z39:=Try.sizeOf75
 v39:=Try.zeroValue75
 t45:=Try.underlying82
 a45:=Try.isAgg82
 z45:=Try.sizeOf82
 v45:=Try.zeroValue82
 t46:=Try.underlying83
 a46:=Try.isAgg83
 z46:=Try.sizeOf83
 v46:=Try.zeroValue83
 t50:=Try.underlying79
 a50:=Try.isAgg79
 z50:=Try.sizeOf79
 v50:=Try.zeroValue79
 t53:=Try.underlying89
 a53:=Try.isAgg89
 z53:=Try.sizeOf89
 v53:=Try.zeroValue89
 t55:=Try.underlying91
 a55:=Try.isAgg91
 z55:=Try.sizeOf91
 v55:=Try.zeroValue91
 t66:=Try.underlying92
 a66:=Try.isAgg92
 z66:=Try.sizeOf92
 v66:=Try.zeroValue92
 t70:=Try.underlying96
 a70:=Try.isAgg96
 z70:=Try.sizeOf96
 v70:=Try.zeroValue96
 t76:=Try.underlying98
 a76:=Try.isAgg98
 z76:=Try.sizeOf98
 v76:=Try.zeroValue98
 t77:=Try.underlying99
 a77:=Try.isAgg99
 z77:=Try.sizeOf99
 v77:=Try.zeroValue99}
abbrev Rm4:=Fin 1048576×Int×Int×Int
def ciR (x:Rm4):List Int:=[(x.1.val:Int),x.2.1,x.2.2.1,x.2.2.2]
def cfR (x y:Rm4):Int:=(x.1.val:Int)-(y.1.val:Int)
theorem Try.cmp180 (x y:Rm4) (W:World):Calls Try.prog 32 #[.agg #[.int .i64 (x.1.val:Int),.int .i64 x.2.1,.int .i64 x.2.2.1,.int .i64 x.2.2.2],.agg #[.int .i64 (y.1.val:Int),.int .i64 y.2.1,.int .i64 y.2.2.1,.int .i64 y.2.2.2]] W fun e w'=>e= .returned (.int .i64 (cfR x y))/\∃q os',w'=grow (W.drewN q) os':=by
 obtain⟨⟨a,ha⟩,b,c,d⟩:=x
 obtain⟨⟨a',ha'⟩,b',c',d'⟩:=y
 unfold cfR
 go_enter Try.func32,Try.ntmps32
 go_wp2
 go_ret
 exact⟨rfl,0,_,by rw[alloc_eq_grow,alloc_eq_grow,grow_grow];rfl⟩
theorem Qet (x y:Rm4):ltOf cfR x y=decide (x.1.val<y.1.val):=by
 unfold ltOf cfR
 grind
theorem QmX:SWO (ltOf cfR) where
 irrefl x:=by rw[Qet];simp
 trans x y z h1 h2:=by rw[Qet,decide_eq_true_eq]at*;omega
 ntrans x y z h1 h2:=by grind [Qet]
end Go.Proofs
namespace Go.AM.SE
open Go.Proofs Go.AM.SD Go.Sort Go.Shelf
def toR (r:Rm):Rm4:=(⟨r.st % 1048576,Nat.mod_lt _ (by decide)⟩,r.rank,(r.reason:Int),r.ev)
theorem Qnp {r:Rm} (h:r.st<=4096):avI ciR (toR r)=rmC r:=by
 simp[avI,ciR,toR,rmC,Nat.mod_eq_of_lt (show r.st<1048576 by omega)]
theorem QfB:∀{l:List Rm},(∀r∈l,r.st<=4096)->(l.map toR).flatMap (avI ciR)=l.flatMap rmC
 |[],_=>rfl
 |e::l,h=>by
  rw[List.map_cons,List.flatMap_cons,List.flatMap_cons,Qnp (h e (by simp)),QfB fun x hx=>h x (by simp[hx])]
theorem call179:Callable Try.prog 31:=⟨_,Try.func31,by kernel_rfl,by kernel_rfl⟩
theorem sortH {l:List Rm} {h:Heap} (hst:∀r∈l,r.st<=4096) (hl:l.length<1000000000) (hd:(l.map (·.st)).Nodup) (hg:h.get 74=some (.cells 0 (l.flatMap rmC))):
  HSpec Try.prog 31 [.sl 74 0 0 l.length 4,.fn 32 [] []] h (.tup []) (h.set 74 (.cells 0 ((srtR l).flatMap rmC))):=by
 have hM:=Qhp l
 have hbM:∀r∈srtR l,r.st<=4096:=fun r hr=>hst r (hM.mem_iff.1 hr)
 obtain⟨l',hp,hsrt,hsp⟩:=HSpec.sortK (f:=31) (g:=32) (γ:=0) (h:=h) (b:=74) Try.sortRm rfl call179 4 (by decide) Try.isAgg52 Try.sizeOf52 ciR (fun _=>rfl) cfR QmX (enters_of Try.func32 (by kernel_rfl) rfl) (fun x y w=>Try.cmp180 x y w) (l.map toR) (by rw[List.length_map];omega) (by rw[hg,QfB hst]) (by decide)
 have e:l'=(srtR l).map toR:=by
  refine List.Perm.eq_of_pairwise (le:=fun x y=>ltOf cfR y x=false) ?_ hsrt ?_ (hp.trans (hM.map toR).symm)
  ·intro x y hx hy h1 h2
   obtain⟨m1,hm1,rfl⟩:=List.mem_map.1 (hp.mem_iff.1 hx)
   obtain⟨m2,hm2,rfl⟩:=List.mem_map.1 hy
   have hm2:=hM.mem_iff.1 hm2
   have b1:=hst m1 hm1
   have b2:=hst m2 hm2
   rw[Qet,decide_eq_false_iff_not]at h1 h2
   simp only[toR]at h1 h2
   have e:m1.st=m2.st:=by omega
   obtain⟨i,hi,rfl⟩:=List.getElem_of_mem hm1
   obtain⟨j,hj,rfl⟩:=List.getElem_of_mem hm2
   have:i=j:=(List.getElem_inj hd (h₀:=by simpa using hi) (h₁:=by simpa using hj)).1 (by simpa using e)
   subst this;rfl
  ·rw [List.pairwise_map]
   refine(Qhq l).imp_of_mem fun{x y} hx hy h=>?_
   have b1:=hbM x hx
   have b2:=hbM y hy
   rw[Qet,decide_eq_false_iff_not]
   simp only[toR]
   omega
 simp_all [QfB]
end Go.AM.SE
namespace Go.AM.SE
open Go.Proofs Go.AM.SD
theorem Agr0 {n:Nat} {f:List Nat} (hf:∀x∈f,x<n) (hnd:f.Nodup):Agr n (left0 n f) (f.map rm0) ((List.range n).map rm0):=by
 refine⟨by simp,fun i r h=>?_,?_,fun r=>?_⟩
 ·rw [List.getElem?_map] at h
  by_cases hi:i<n
  ·rw[List.getElem?_range hi]at h;cases h;rfl
  ·rw[List.getElem?_eq_none (by simpa using hi)]at h;cases h
 ·rw [List.map_map]
  have:(fun x:Rm=>x.st)∘rm0=id:=rfl
  rw[this,List.map_id];exact hnd
 ·constructor
  ·intro h
   obtain⟨x,hx,rfl⟩:=List.mem_map.1 h
   have hxn:=hf x hx
   refine⟨hxn,?_,?_⟩
   ·rw [Bool.eq_false_iff]
    intro h2
    exact(Qfo.1 h2).2 hx
   ·show ((List.range n).map rm0)[x]? = _
    rw[List.getElem?_map,List.getElem?_range hxn];rfl
  ·rintro ⟨h1, h2, h3⟩
   rw[List.getElem?_map,List.getElem?_range h1]at h3
   have h3:rm0 r.st=r:=by simpa using h3
   refine List.mem_map.2 ⟨r.st,?_,h3⟩
   refine Classical.byContradiction fun h4=>?_
   have:=Qfo.2 ⟨h1,h4⟩
   rw[this]at h2;cases h2
theorem QiY {n:Nat} {l:LB} {rs rr:List Rm} (h:Agr n l rs rr):rs.length<=n:=by
 have:=QaP n (rs.map (·.st)) h.nd fun x hx=>by
  obtain⟨r,hr,rfl⟩:=List.mem_map.1 hx
  exact((h.mem r).1 hr).1
 simpa using this
theorem Qht {l:LB} {xs:List Nat} {i x:Nat} (h:xs[i]?=some x):offs l (xs.take (i+1))=(offs l (xs.take i)).set x false:=by
 unfold offs
 rw[List.take_add_one,h,Option.toList,List.foldl_append];rfl
def dists (n:Nat) (l:LB) (d:List Int):List Int:=(kept n l).map fun i=>d.getD i 0
theorem Qeu {i:Nat} {l:LB}:kept (i+1) l=kept i l++if lf l i=true then[i]else[]:=by
 unfold kept
 rw[List.range_succ,List.filter_append]
 congr 1
 rw[List.filter_cons];rfl
theorem QfC {i:Nat} {l:LB}:(kept i l).length<=i:=by
 unfold kept;exact Nat.le_trans (List.length_filter_le _ _) (by simp)
structure Res where
 kept:List Nat
 dist:List Int
 rem:List Rm
 rounds:Nat
 sup:Aut
 orig:List Nat
abbrev rsV (r:Res):AV:= .agg [sliN r.kept,sli r.dist,rms r.rem,.int .i64 (r.rounds:Int),sliN r.sup.al,.int .i64 (r.sup.n:Int),sliN r.sup.ms,egsN r.sup.es,sliN r.orig]
theorem QcE (r:Res):noRef (rsV r)=true:=by simp only[noRef,noRefs,Qaa,Qad,Qac];rfl
def pRes (a:Aut) (f u:List Nat) (all:Bool):Res:=
 let F:=fin a.n a.es a.ms f u all
 ⟨kept a.n F.1,dists a.n F.1 (pDist a.n a.es a.ms (lf F.1)),srtR F.2.1,F.2.2,restr a (lf F.1),(sAll a (lf F.1)).1⟩
abbrev nine:List AV:=[.nilsl,.nilsl,.nilsl,.int .i64 0,.nilsl,.int .i64 0,.nilsl,.nilsl,.nilsl]
def rnd0 (i:Nat):Nat:=if i=0 then 0 else 1
theorem Qnq (l:List Rm):(l.flatMap rmC).all AV.one=true:=by
 induction l with
 |nil=>rfl
 |cons x l ih=>rw[List.flatMap_cons,List.all_append,ih];rfl
theorem Qge {i:Nat} {l:LB} {d:List Int}:dists (i+1) l d=dists i l d++if lf l i=true then[d.getD i 0]else[]:=by
 unfold dists
 rw[Qeu,List.map_append]
 congr 1
 split<;>rfl
theorem QcF {i:Nat} {l:LB} {d:List Int}:(dists i l d).length=(kept i l).length:=by unfold dists;simp
abbrev St4:=Nat×LB×List Rm×Nat
abbrev rkH (a:Aut) (u:List Nat) (t:St4):HL:=[(41,.cells 0 nine),(61,.cells 0 [.nilsl,.nilsl,.sl 74 0 0 t.2.2.1.length 4,.int .i64 (t.2.2.2:Int),.nilsl,.int .i64 0,.nilsl,.nilsl,.nilsl]),(70,.cells 0 (pblk a u)),(71,.map 0 (mapF .i64 (backF a.es) (keysR a.es))),(72,.cells 0 (bls t.2.1)),(74,.cells 0 (t.2.2.1.flatMap rmC))]
theorem result39 (a : Aut) (f u : List Nat) (all : Bool) (h : WfA a) (hq : QOk a f u) (hel : a.es.length <= 1000000) : PSpec Try.prog 21 [aV a, sliN f, sliN u, .bool all] (rsV (pRes a f u all)) := by
  have hn5:=h.n5
  have hfl:=Qa1 hq.fS hq.fn
  have hul:=Qa1 hq.uS hq.un
  have hml:a.ms.length<=a.n:=QaP a.n a.ms h.nd h.msn
  refine PSpec.of_rn 40 ok21 rfl (by(try simp only[noRefs,Qae,Qag,Qaa,Qaf,Qac,Qad,Qak,Qab,noRef,Bool.and_self,Bool.and_true])<;>rfl) (QcE _) ?_
  simp(disch:=first|omega|exact PairsOK.mk rfl|(simp only[lenW]<;>omega)) only[s21,wW,wV,simprocAttr]
  refine ch (HSpec.of_O (b:=70) (by(try simp only[noRefs,Qae,Qag,Qaa,Qaf,Qac,Qad,Qak,Qab,noRef,Bool.and_self,Bool.and_true])<;>rfl) (start34 a f u h.esn hq.fn (by omega) hel (by omega)) (by repeat (first|exact Fresh.e|exact Fresh.le (by assumption) (by omega)|refine Fresh.set ?_ (by omega) (by omega))) rfl) ?_
  simp(disch:=first|omega|exact PairsOK.mk rfl|(simp only[lenW]<;>omega)) only[wW,wV,simprocAttr]
  refine Qay 100 (fun i:Nat=>[(3,.bool all),(8,.ptr 41 0 0),(9,.ptr 70 0 0),(10,.ptr 61 0 0),(23,sliN f),(24,.int .i64 f.length),(25,.int .i64 i)])
    (fun i=>rkH a u (2,left0 a.n f,(f.take i).map rm0,rnd0 i))
    (fun i=>i<=f.length) (fun i=>f.length-i) 0 0 160
    (fun _:Unit=>[(3,.bool all),(8,.ptr 41 0 0),(9,.ptr 70 0 0),(10,.ptr 61 0 0)])
    (fun _=>rkH a u (2,left0 a.n f,f.map rm0,rnd0 f.length)) (fun _=>True) ?_ (Nat.zero_le _) ?_ ?_
  · refine ⟨[(41, .blk 41 0), (61, .blk 47 0), (70, .blk 70 0), (71, .blk 71 0), (72, .blk 72 0), (74, .nil)], rfl, RO.zero, ?_, au7⟩
    repeat' (first|exact RB.nil|(refine RnL.same ?_;first|rfl|(simp only[noRef,noRefs,Qah,Bool.and_self,Bool.and_true,Bool.true_and,Qaa,Qaf,Qac,Qad,Qak,Qap,Qab,Qam,Qai,Qal,Qaj,Qae,Qag,Qao];done))|exact RnM.keyM rfl|exact RnL.nil|exact(True.intro:RnM _ _ _ [] [])|refine RnL.cons ?_ ?_|(refine Rn.same ?_;first|rfl|(simp only[noRef,noRefs,Qah,Bool.and_self,Bool.and_true,Bool.true_and,Qaa,Qaf,Qac,Qad,Qak,Qap,Qab,Qam,Qai,Qal,Qaj,Qae,Qag,Qao];done))|exact Rn.x1 rfl rfl|exact Rn.x2 rfl rfl|exact Rn.x3 rfl rfl|exact Rn.x4 rfl rfl|exact Rn.x5 rfl|exact Rn.x6 rfl|exact Rn.x7 rfl|refine RB.newnil rfl rfl ?_|refine RB.cells rfl rfl rfl ?_ ?_|refine RB.map rfl rfl rfl ?_ ?_|refine RB.cellsB rfl rfl ?_ ?_|refine RB.mapB rfl rfl ?_ ?_)
    · exact RnM.mapF fun x _=>Rn.same (Qai _)
  · rintro i hi
    by_cases hlt:i<f.length
    · obtain ⟨x, hx⟩ := Qax hlt
      have hll:=QbA ((f.take i).map rm0)
      rw[List.length_map,List.length_take,Nat.min_eq_left (by omega)]at hll
      have htk:((f.take (i+1)).map rm0)=(f.take i).map rm0++[rm0 x]:=by rw[List.take_add_one,hx,Option.toList,List.map_append];rfl
      have hlm:((f.take i).map rm0).length=i:=by rw[List.length_map,List.length_take];omega
      generalize hF:(f.take i).map rm0=G at*
      simp(disch:=first|omega|exact PairsOK.mk rfl|(simp only[lenW]<;>omega)) only[hlt,Qbp hx,hll,hlm,wW,wV,simprocAttr]
      refine⟨i+1,by omega,by omega,?_⟩
      rw[htk]
      dsimp only[rkH]
      rw[List.flatMap_append,List.length_append,hlm]
      refine⟨[(41,.blk 41 0),(61,.blk 61 0),(70,.blk 70 0),(71,.blk 71 0),(72,.blk 72 0),(74,.blk 74 1)],rfl,au0,?_,au7⟩
      repeat' (first|exact RB.nil|(refine RnL.same ?_;first|rfl|(simp only[noRef,noRefs,Qah,Bool.and_self,Bool.and_true,Bool.true_and,Qaa,Qaf,Qac,Qad,Qak,Qap,Qab,Qam,Qai,Qal,Qaj,Qae,Qag,Qao];done))|exact RnM.keyM rfl|exact RnL.nil|exact(True.intro:RnM _ _ _ [] [])|refine RnL.cons ?_ ?_|(refine Rn.same ?_;first|rfl|(simp only[noRef,noRefs,Qah,Bool.and_self,Bool.and_true,Bool.true_and,Qaa,Qaf,Qac,Qad,Qak,Qap,Qab,Qam,Qai,Qal,Qaj,Qae,Qag,Qao];done))|exact Rn.x1 rfl rfl|exact Rn.x2 rfl rfl|exact Rn.x3 rfl rfl|exact Rn.x4 rfl rfl|exact Rn.x5 rfl|exact Rn.x6 rfl|exact Rn.x7 rfl|refine RB.newnil rfl rfl ?_|refine RB.cells rfl rfl rfl ?_ ?_|refine RB.map rfl rfl rfl ?_ ?_|refine RB.cellsB rfl rfl ?_ ?_|refine RB.mapB rfl rfl ?_ ?_)
      · exact RnM.mapF fun x _=>Rn.same (Qai _)
    · have e : i = f.length := by omega
      subst e
      dsimp only[rkH]
      simp(disch:=first|omega|exact PairsOK.mk rfl|(simp only[lenW]<;>omega)) only[hlt,wW,wV,simprocAttr]
      refine⟨(),?_⟩
      refine⟨[(41,.blk 41 0),(61,.blk 61 0),(70,.blk 70 0),(71,.blk 71 0),(72,.blk 72 0),(74,.blk 74 0)],rfl,au0,?_,au7⟩
      repeat' (first|exact RB.nil|(refine RnL.same ?_;first|rfl|(simp only[noRef,noRefs,Qah,Bool.and_self,Bool.and_true,Bool.true_and,Qaa,Qaf,Qac,Qad,Qak,Qap,Qab,Qam,Qai,Qal,Qaj,Qae,Qag,Qao];done))|exact RnM.keyM rfl|exact RnL.nil|exact(True.intro:RnM _ _ _ [] [])|refine RnL.cons ?_ ?_|(refine Rn.same ?_;first|rfl|(simp only[noRef,noRefs,Qah,Bool.and_self,Bool.and_true,Bool.true_and,Qaa,Qaf,Qac,Qad,Qak,Qap,Qab,Qam,Qai,Qal,Qaj,Qae,Qag,Qao];done))|exact Rn.x1 rfl rfl|exact Rn.x2 rfl rfl|exact Rn.x3 rfl rfl|exact Rn.x4 rfl rfl|exact Rn.x5 rfl|exact Rn.x6 rfl|exact Rn.x7 rfl|refine RB.newnil rfl rfl ?_|refine RB.cells rfl rfl rfl ?_ ?_|refine RB.map rfl rfl rfl ?_ ?_|refine RB.cellsB rfl rfl ?_ ?_|refine RB.mapB rfl rfl ?_ ?_)
      · exact RnM.mapF fun x _=>Rn.same (Qai _)
  rintro _ _
  have hrn0:rnd0 f.length=if f.length=0 then 0 else 1:=rfl
  have hc0:cntL a.n (left0 a.n f)<a.n+1:=by
    have:cntL a.n (left0 a.n f)<=a.n:=by unfold cntL;exact Nat.le_trans List.countP_le_length (by simp)
    omega
  have hA0:=Agr0 (n:=a.n) hq.fn (by rw[List.nodup_iff_pairwise_ne];exact hq.fS.imp fun h=>by omega)
  dsimp only[rkH]
  simp(disch:=first|omega|exact PairsOK.mk rfl|(simp only[lenW]<;>omega)) only[wW,wV,simprocAttr]
  refine Qay 170 (fun t:St4=>[(3,.bool all),(8,.ptr 41 0 0),(9,.ptr 70 0 0),(10,.ptr 61 0 0),(13,.int .i64 t.1)]) (rkH a u)
    (fun t=>t.2.1.length=a.n/\(∃rr,Agr a.n t.2.1 t.2.2.1 rr)/\t.1+cntL a.n t.2.1<=a.n+2/\∃fu,cntL a.n t.2.1<fu/\pRounds a.n a.es a.ms u all fu t.1 t.2.1 t.2.2.1 t.2.2.2=fin a.n a.es a.ms f u all)
    (fun t=>cntL a.n t.2.1) (2,left0 a.n f,f.map rm0,rnd0 f.length) 2 260
    (fun t:St4=>[(8,.ptr 41 0 0),(9,.ptr 70 0 0),(10,.ptr 61 0 0)]) (rkH a u) (fun t=>t.2=fin a.n a.es a.ms f u all/\t.2.1.length=a.n/\∃rr,Agr a.n t.2.1 t.2.2.1 rr) ?_ ⟨QbK,⟨_,hA0⟩,by dsimp only;omega,a.n+1,hc0,rfl⟩ ?_ ?_
  · dsimp only [rkH]
    rw[List.length_map]
    refine⟨[(41,.blk 41 0),(61,.blk 61 0),(70,.blk 70 0),(71,.blk 71 0),(72,.blk 72 0),(74,.blk 74 0)],rfl,au0,?_,au7⟩
    repeat' (first|exact RB.nil|(refine RnL.same ?_;first|rfl|(simp only[noRef,noRefs,Qah,Bool.and_self,Bool.and_true,Bool.true_and,Qaa,Qaf,Qac,Qad,Qak,Qap,Qab,Qam,Qai,Qal,Qaj,Qae,Qag,Qao];done))|exact RnM.keyM rfl|exact RnL.nil|exact(True.intro:RnM _ _ _ [] [])|refine RnL.cons ?_ ?_|(refine Rn.same ?_;first|rfl|(simp only[noRef,noRefs,Qah,Bool.and_self,Bool.and_true,Bool.true_and,Qaa,Qaf,Qac,Qad,Qak,Qap,Qab,Qam,Qai,Qal,Qaj,Qae,Qag,Qao];done))|exact Rn.x1 rfl rfl|exact Rn.x2 rfl rfl|exact Rn.x3 rfl rfl|exact Rn.x4 rfl rfl|exact Rn.x5 rfl|exact Rn.x6 rfl|exact Rn.x7 rfl|refine RB.newnil rfl rfl ?_|refine RB.cells rfl rfl rfl ?_ ?_|refine RB.map rfl rfl rfl ?_ ?_|refine RB.cellsB rfl rfl ?_ ?_|refine RB.mapB rfl rfl ?_ ?_)
    · exact RnM.mapF fun x _=>Rn.same (Qai _)
  · rintro ⟨rank, l, rs, k⟩ ⟨hl, ⟨rr, hA⟩, hrk, fu, hfu, hpr⟩
    dsimp only at hl hA hrk hfu hpr⊢
    dsimp only[rkH]
    have hN:=next35 a u l rank all h.inN h.nd hl (by omega) hel (by omega) (by omega)
    have hst:=Qfm (left:=lf l) (unc:=u) (rank:=rank) (all:=all) h.inN h.nd h.srt
    obtain⟨fu,rfl⟩:∃m,fu=m+1:=⟨fu-1,by omega⟩
    have hdec:∀r∈pNext a.n a.es a.ms (lf l) u rank all,cntL a.n (offs l ((pNext a.n a.es a.ms (lf l) u rank all).map (·.st)))<cntL a.n l:=fun r hr=>by
      obtain⟨h1,h2⟩:=hst.2 r hr
      refine Qjx (fun i _ hi=>?_) h1 h2 ?_
      · rw[QcO]at hi;simp only[Bool.and_eq_true]at hi;exact hi.1
      · rw[QcO,Qdc (List.mem_map.2 ⟨r,hr,rfl⟩)];simp
    unfold pRounds at hpr
    have hrl:=QiY hA
    have hA2:=hA.step hl hst.1 hst.2
    generalize pNext a.n a.es a.ms (lf l) u rank all=nx at*
    simp(disch:=first|omega|exact PairsOK.mk rfl|(simp only[lenW]<;>omega)) only[wW,wV,simprocAttr]
    refine ch (HSpec.of_F (FrzL.cons (frzP (a:=a) (u:=u) (l:=l) gg gg gg hl) (FrzL.cons (FrzTo.same _) (FrzL.cons (FrzTo.same _) FrzL.nil))) (FSpec.Qba hN (by(try simp only[noRefs,Qae,Qag,Qaa,Qaf,Qac,Qad,Qak,Qab,noRef,Bool.and_self,Bool.and_true])<;>rfl) (Qgs _) (QbA _) rfl)) ?_
    by_cases h0:nx.length=0
    · rw [if_pos h0] at hpr
      simp(disch:=first|omega|exact PairsOK.mk rfl|(simp only[lenW]<;>omega)) only[h0,wW,wV,simprocAttr]
      refine⟨(rank,l,rs,k),⟨hpr,hl,rr,hA⟩,?_⟩
      refine⟨[(41,.blk 41 0),(61,.blk 61 0),(70,.blk 70 0),(71,.blk 71 0),(72,.blk 72 0),(74,.blk 74 0)],rfl,au0,?_,au7⟩
      repeat' (first|exact RB.nil|(refine RnL.same ?_;first|rfl|(simp only[noRef,noRefs,Qah,Bool.and_self,Bool.and_true,Bool.true_and,Qaa,Qaf,Qac,Qad,Qak,Qap,Qab,Qam,Qai,Qal,Qaj,Qae,Qag,Qao];done))|exact RnM.keyM rfl|exact RnL.nil|exact(True.intro:RnM _ _ _ [] [])|refine RnL.cons ?_ ?_|(refine Rn.same ?_;first|rfl|(simp only[noRef,noRefs,Qah,Bool.and_self,Bool.and_true,Bool.true_and,Qaa,Qaf,Qac,Qad,Qak,Qap,Qab,Qam,Qai,Qal,Qaj,Qae,Qag,Qao];done))|exact Rn.x1 rfl rfl|exact Rn.x2 rfl rfl|exact Rn.x3 rfl rfl|exact Rn.x4 rfl rfl|exact Rn.x5 rfl|exact Rn.x6 rfl|exact Rn.x7 rfl|refine RB.newnil rfl rfl ?_|refine RB.cells rfl rfl rfl ?_ ?_|refine RB.map rfl rfl rfl ?_ ?_|refine RB.cellsB rfl rfl ?_ ?_|refine RB.mapB rfl rfl ?_ ?_)
      · exact RnM.mapF fun x _=>Rn.same (Qai _)
    · rw [if_neg h0] at hpr
      have hnl:=QiY hA2
      rw[List.length_append]at hnl
      obtain⟨r0,hr0⟩:∃r,r∈nx:=by
        cases nx with
        |nil=>exact absurd rfl h0
        |cons r _=>exact⟨r,by simp⟩
      have hd0:=hdec r0 hr0
      have h0':¬(nx.length:Int)=0:=by omega
      simp(disch:=first|omega|exact PairsOK.mk rfl|(simp only[lenW]<;>omega)) only[h0',wW,wV,simprocAttr]
      refine Qay 300 (fun j:Nat=>[(49,rms nx),(50,.int .i64 nx.length),(51,.int .i64 j),(3,.bool all),(8,.ptr 41 0 0),(9,.ptr 70 0 0),(10,.ptr 61 0 0),(13,.int .i64 rank),(14,rms nx)])
        (fun j=>rkH a u (rank,offs l ((nx.map (·.st)).take j),rs,k)) (fun j=>j<=nx.length) (fun j=>nx.length-j) 0 4 400
        (fun _:Unit=>[(3,.bool all),(8,.ptr 41 0 0),(9,.ptr 70 0 0),(10,.ptr 61 0 0),(13,.int .i64 rank),(14,rms nx)])
        (fun _=>rkH a u (rank,offs l (nx.map (·.st)),rs,k)) (fun _=>True) ?_ (Nat.zero_le _) ?_ ?_
      · refine ⟨[(41, .blk 41 0), (61, .blk 61 0), (70, .blk 70 0), (71, .blk 71 0), (72, .blk 72 0), (74, .blk 74 0)], rfl, au0, ?_, au7⟩
        repeat' (first|exact RB.nil|(refine RnL.same ?_;first|rfl|(simp only[noRef,noRefs,Qah,Bool.and_self,Bool.and_true,Bool.true_and,Qaa,Qaf,Qac,Qad,Qak,Qap,Qab,Qam,Qai,Qal,Qaj,Qae,Qag,Qao];done))|exact RnM.keyM rfl|exact RnL.nil|exact(True.intro:RnM _ _ _ [] [])|refine RnL.cons ?_ ?_|(refine Rn.same ?_;first|rfl|(simp only[noRef,noRefs,Qah,Bool.and_self,Bool.and_true,Bool.true_and,Qaa,Qaf,Qac,Qad,Qak,Qap,Qab,Qam,Qai,Qal,Qaj,Qae,Qag,Qao];done))|exact Rn.x1 rfl rfl|exact Rn.x2 rfl rfl|exact Rn.x3 rfl rfl|exact Rn.x4 rfl rfl|exact Rn.x5 rfl|exact Rn.x6 rfl|exact Rn.x7 rfl|refine RB.newnil rfl rfl ?_|refine RB.cells rfl rfl rfl ?_ ?_|refine RB.map rfl rfl rfl ?_ ?_|refine RB.cellsB rfl rfl ?_ ?_|refine RB.mapB rfl rfl ?_ ?_)
        · exact RnM.mapF fun x _=>Rn.same (Qai _)
      · rintro j hj
        dsimp only[rkH]
        by_cases hjl:j<nx.length
        · obtain ⟨r, hr⟩ := Qax hjl
          have hrn:=(hst.2 r (List.mem_of_getElem? hr)).1
          have hst2:=Qht (l:=l) (xs:=nx.map (·.st)) (i:=j) (x:=r.st) (by rw[List.getElem?_map,hr];rfl)
          have hol:(offs l ((nx.map (·.st)).take j)).length=a.n:=by rw[Qck];exact hl
          generalize offs l ((nx.map (·.st)).take j)=L at*
          have h1:r.st+1<=L.length:=by omega
          simp(disch:=first|omega|exact PairsOK.mk rfl|(simp only[lenW]<;>omega)) only[hjl,QbU hr,hrn,h1,Qb4,wW,wV,simprocAttr]
          refine⟨j+1,by omega,by omega,?_⟩
          rw[hst2]
          refine⟨[(41,.blk 41 0),(61,.blk 61 0),(70,.blk 70 0),(71,.blk 71 0),(72,.blk 72 0),(74,.blk 74 0)],rfl,au0,?_,au7⟩
          repeat' (first|exact RB.nil|(refine RnL.same ?_;first|rfl|(simp only[noRef,noRefs,Qah,Bool.and_self,Bool.and_true,Bool.true_and,Qaa,Qaf,Qac,Qad,Qak,Qap,Qab,Qam,Qai,Qal,Qaj,Qae,Qag,Qao];done))|exact RnM.keyM rfl|exact RnL.nil|exact(True.intro:RnM _ _ _ [] [])|refine RnL.cons ?_ ?_|(refine Rn.same ?_;first|rfl|(simp only[noRef,noRefs,Qah,Bool.and_self,Bool.and_true,Bool.true_and,Qaa,Qaf,Qac,Qad,Qak,Qap,Qab,Qam,Qai,Qal,Qaj,Qae,Qag,Qao];done))|exact Rn.x1 rfl rfl|exact Rn.x2 rfl rfl|exact Rn.x3 rfl rfl|exact Rn.x4 rfl rfl|exact Rn.x5 rfl|exact Rn.x6 rfl|exact Rn.x7 rfl|refine RB.newnil rfl rfl ?_|refine RB.cells rfl rfl rfl ?_ ?_|refine RB.map rfl rfl rfl ?_ ?_|refine RB.cellsB rfl rfl ?_ ?_|refine RB.mapB rfl rfl ?_ ?_)
          · exact RnM.mapF fun x _=>Rn.same (Qai _)
        · have e : j = nx.length := by omega
          have e2:(nx.map (·.st)).take j=nx.map (·.st):=by rw[List.take_of_length_le];simp;omega
          rw[e2]
          simp(disch:=first|omega|exact PairsOK.mk rfl|(simp only[lenW]<;>omega)) only[hjl,wW,wV,simprocAttr]
          refine⟨(),?_⟩
          refine⟨[(41,.blk 41 0),(61,.blk 61 0),(70,.blk 70 0),(71,.blk 71 0),(72,.blk 72 0),(74,.blk 74 0)],rfl,au0,?_,au7⟩
          repeat' (first|exact RB.nil|(refine RnL.same ?_;first|rfl|(simp only[noRef,noRefs,Qah,Bool.and_self,Bool.and_true,Bool.true_and,Qaa,Qaf,Qac,Qad,Qak,Qap,Qab,Qam,Qai,Qal,Qaj,Qae,Qag,Qao];done))|exact RnM.keyM rfl|exact RnL.nil|exact(True.intro:RnM _ _ _ [] [])|refine RnL.cons ?_ ?_|(refine Rn.same ?_;first|rfl|(simp only[noRef,noRefs,Qah,Bool.and_self,Bool.and_true,Bool.true_and,Qaa,Qaf,Qac,Qad,Qak,Qap,Qab,Qam,Qai,Qal,Qaj,Qae,Qag,Qao];done))|exact Rn.x1 rfl rfl|exact Rn.x2 rfl rfl|exact Rn.x3 rfl rfl|exact Rn.x4 rfl rfl|exact Rn.x5 rfl|exact Rn.x6 rfl|exact Rn.x7 rfl|refine RB.newnil rfl rfl ?_|refine RB.cells rfl rfl rfl ?_ ?_|refine RB.map rfl rfl rfl ?_ ?_|refine RB.cellsB rfl rfl ?_ ?_|refine RB.mapB rfl rfl ?_ ?_)
          · exact RnM.mapF fun x _=>Rn.same (Qai _)
      rintro _ _
      have hrsl:=QbA rs
      have hon:=Qnq nx
      dsimp only[rkH]
      simp(disch:=first|omega|exact PairsOK.mk rfl|(simp only[lenW]<;>omega)) only[hrsl,hon,wW,wV,simprocAttr]
      refine⟨(rank+1,offs l (nx.map (·.st)),rs++nx,rank),by dsimp only;exact hd0,⟨by dsimp only;rw[Qck];exact hl,⟨_,hA2⟩,by dsimp only;omega,fu,by dsimp only;omega,hpr⟩,?_⟩
      dsimp only[rkH]
      rw[List.flatMap_append,List.length_append]
      refine⟨[(41,.blk 41 0),(61,.blk 61 0),(70,.blk 70 0),(71,.blk 71 0),(72,.blk 72 0),(74,.blk 74 1)],rfl,au0,?_,au7⟩
      repeat' (first|exact RB.nil|(refine RnL.same ?_;first|rfl|(simp only[noRef,noRefs,Qah,Bool.and_self,Bool.and_true,Bool.true_and,Qaa,Qaf,Qac,Qad,Qak,Qap,Qab,Qam,Qai,Qal,Qaj,Qae,Qag,Qao];done))|exact RnM.keyM rfl|exact RnL.nil|exact(True.intro:RnM _ _ _ [] [])|refine RnL.cons ?_ ?_|(refine Rn.same ?_;first|rfl|(simp only[noRef,noRefs,Qah,Bool.and_self,Bool.and_true,Bool.true_and,Qaa,Qaf,Qac,Qad,Qak,Qap,Qab,Qam,Qai,Qal,Qaj,Qae,Qag,Qao];done))|exact Rn.x1 rfl rfl|exact Rn.x2 rfl rfl|exact Rn.x3 rfl rfl|exact Rn.x4 rfl rfl|exact Rn.x5 rfl|exact Rn.x6 rfl|exact Rn.x7 rfl|refine RB.newnil rfl rfl ?_|refine RB.cells rfl rfl rfl ?_ ?_|refine RB.map rfl rfl rfl ?_ ?_|refine RB.cellsB rfl rfl ?_ ?_|refine RB.mapB rfl rfl ?_ ?_)
      · exact RnM.mapF fun x _=>Rn.same (Qai _)
  rintro⟨rank,l,rs,k⟩ ⟨hfin,hl,rr,hA⟩
  dsimp only at hfin hl hA⊢
  have hrl:=QiY hA
  have hpd:=Qhm (left:=lf l) h.inN h.nd
  have hsup:=super54 a u l h hl hel (by omega)
  have hdi:=dist53 a u l h.inN h.nd hl (by omega) hel (by omega)
  have hres:pRes a f u all=⟨kept a.n l,dists a.n l (pDist a.n a.es a.ms (lf l)),srtR rs,k,restr a (lf l),(sAll a (lf l)).1⟩:=by
    unfold pRes;rw[<-hfin]
  rw[hres]
  have hsr:=Qms rs
  have hsrl:=QbA (srtR rs)
  generalize pDist a.n a.es a.ms (lf l)=d at*
  dsimp only[rkH]
  simp(disch:=first|omega|exact PairsOK.mk rfl|(simp only[lenW]<;>omega)) only[wW,wV,simprocAttr]
  refine ch (sortH (l:=rs) (fun r hr=>by have:=((hA.mem r).1 hr).1;omega) (by omega) hA.nd gg) ?_
  simp(disch:=first|omega|exact PairsOK.mk rfl|(simp only[lenW]<;>omega)) only[wW,wV,simprocAttr]
  refine ch (HSpec.of_F (FrzL.cons (frzP (a:=a) (u:=u) (l:=l) gg gg gg hl) FrzL.nil) (FSpec.Qba hdi (by(try simp only[noRefs,Qae,Qag,Qaa,Qaf,Qac,Qad,Qak,Qab,noRef,Bool.and_self,Bool.and_true])<;>rfl) (QbL _) (by rw[Qbx,hpd,Nat.mul_one]) rfl)) ?_
  simp(disch:=first|omega|exact PairsOK.mk rfl|(simp only[lenW]<;>omega)) only[wW,wV,simprocAttr]
  refine Qay 500 (fun i:Nat=>[(8,.ptr 41 0 0),(9,.ptr 70 0 0),(10,.ptr 61 0 0),(77,.fsl (ints d) a.n 1),(78,.int .i64 a.n),(79,.int .i64 i)])
    (fun i=>[(41,.cells 0 nine),(61,.cells 0 [.sl 76 0 0 (kept i l).length 1,.sl 77 0 0 (kept i l).length 1,.sl 74 0 0 rs.length 4,.int .i64 (k:Int),.nilsl,.int .i64 0,.nilsl,.nilsl,.nilsl]),(70,.cells 0 (pblk a u)),(71,.map 0 (mapF .i64 (backF a.es) (keysR a.es))),(72,.cells 0 (bls l)),(74,.cells 0 ((srtR rs).flatMap rmC)),(76,.cells 0 (ints (nz (kept i l)))),(77,.cells 0 (ints (dists i l d)))])
    (fun i=>i<=a.n) (fun i=>a.n-i) 0 6 600
    (fun _:Unit=>[(8,.ptr 41 0 0),(9,.ptr 70 0 0),(10,.ptr 61 0 0)])
    (fun _=>[(41,.cells 0 nine),(61,.cells 0 [.sl 76 0 0 (kept a.n l).length 1,.sl 77 0 0 (kept a.n l).length 1,.sl 74 0 0 rs.length 4,.int .i64 (k:Int),.nilsl,.int .i64 0,.nilsl,.nilsl,.nilsl]),(70,.cells 0 (pblk a u)),(71,.map 0 (mapF .i64 (backF a.es) (keysR a.es))),(72,.cells 0 (bls l)),(74,.cells 0 ((srtR rs).flatMap rmC)),(76,.cells 0 (ints (nz (kept a.n l)))),(77,.cells 0 (ints (dists a.n l d)))]) (fun _=>True) ?_ (Nat.zero_le _) ?_ ?_
  · refine ⟨[(41, .blk 41 0), (61, .blk 61 0), (70, .blk 70 0), (71, .blk 71 0), (72, .blk 72 0), (74, .blk 74 0), (76, .nil), (77, .nil)], rfl, au0, ?_, au7⟩
    repeat' (first|exact RB.nil|(refine RnL.same ?_;first|rfl|(simp only[noRef,noRefs,Qah,Bool.and_self,Bool.and_true,Bool.true_and,Qaa,Qaf,Qac,Qad,Qak,Qap,Qab,Qam,Qai,Qal,Qaj,Qae,Qag,Qao];done))|exact RnM.keyM rfl|exact RnL.nil|exact(True.intro:RnM _ _ _ [] [])|refine RnL.cons ?_ ?_|(refine Rn.same ?_;first|rfl|(simp only[noRef,noRefs,Qah,Bool.and_self,Bool.and_true,Bool.true_and,Qaa,Qaf,Qac,Qad,Qak,Qap,Qab,Qam,Qai,Qal,Qaj,Qae,Qag,Qao];done))|exact Rn.x1 rfl rfl|exact Rn.x2 rfl rfl|exact Rn.x3 rfl rfl|exact Rn.x4 rfl rfl|exact Rn.x5 rfl|exact Rn.x6 rfl|exact Rn.x7 rfl|refine RB.newnil rfl rfl ?_|refine RB.cells rfl rfl rfl ?_ ?_|refine RB.map rfl rfl rfl ?_ ?_|refine RB.cellsB rfl rfl ?_ ?_|refine RB.mapB rfl rfl ?_ ?_)
    · exact RnM.mapF fun x _=>Rn.same (Qai _)
  · rintro i hi
    by_cases hlt:i<a.n
    · have hks := Qeu (i := i) (l := l)
      have hds:=Qge (i:=i) (l:=l) (d:=d)
      have hkl:=@QfC i l
      have hdl:=@QcF i l d
      generalize kept i l=K at*
      generalize dists i l d=D at*
      have hil:i<l.length:=by omega
      have hid:i<d.length:=by omega
      have hdx:d[i]?=some (d.getD i 0):=by rw[List.getElem?_eq_getElem hid];simp[hid]
      by_cases h1:lf l i=true
      · rw [if_pos h1] at hks hds
        simp(disch:=first|omega|exact PairsOK.mk rfl|(simp only[lenW]<;>omega)) only[hlt,Qdx hil,Qas hdx,h1,hdl,wW,wV,simprocAttr]
        refine⟨i+1,by omega,by omega,?_⟩
        rw[hks,hds,List.length_append,Qa2,QaK,QaK]
        refine⟨[(41,.blk 41 0),(61,.blk 61 0),(70,.blk 70 0),(71,.blk 71 0),(72,.blk 72 0),(74,.blk 74 0),(76,.blk 76 1),(77,.blk 77 1)],rfl,au0,?_,au7⟩
        repeat' (first|exact RB.nil|(refine RnL.same ?_;first|rfl|(simp only[noRef,noRefs,Qah,Bool.and_self,Bool.and_true,Bool.true_and,Qaa,Qaf,Qac,Qad,Qak,Qap,Qab,Qam,Qai,Qal,Qaj,Qae,Qag,Qao];done))|exact RnM.keyM rfl|exact RnL.nil|exact(True.intro:RnM _ _ _ [] [])|refine RnL.cons ?_ ?_|(refine Rn.same ?_;first|rfl|(simp only[noRef,noRefs,Qah,Bool.and_self,Bool.and_true,Bool.true_and,Qaa,Qaf,Qac,Qad,Qak,Qap,Qab,Qam,Qai,Qal,Qaj,Qae,Qag,Qao];done))|exact Rn.x1 rfl rfl|exact Rn.x2 rfl rfl|exact Rn.x3 rfl rfl|exact Rn.x4 rfl rfl|exact Rn.x5 rfl|exact Rn.x6 rfl|exact Rn.x7 rfl|refine RB.newnil rfl rfl ?_|refine RB.cells rfl rfl rfl ?_ ?_|refine RB.map rfl rfl rfl ?_ ?_|refine RB.cellsB rfl rfl ?_ ?_|refine RB.mapB rfl rfl ?_ ?_)
        · exact RnM.mapF fun x _=>Rn.same (Qai _)
      · rw [if_neg h1, List.append_nil] at hks hds
        rw[Bool.not_eq_true]at h1
        simp(disch:=first|omega|exact PairsOK.mk rfl|(simp only[lenW]<;>omega)) only[hlt,Qdx hil,Qas hdx,h1,wW,wV,simprocAttr]
        refine⟨i+1,by omega,by omega,?_⟩
        rw[hks,hds]
        refine⟨[(41,.blk 41 0),(61,.blk 61 0),(70,.blk 70 0),(71,.blk 71 0),(72,.blk 72 0),(74,.blk 74 0),(76,.blk 76 0),(77,.blk 77 0)],rfl,au0,?_,au7⟩
        repeat' (first|exact RB.nil|(refine RnL.same ?_;first|rfl|(simp only[noRef,noRefs,Qah,Bool.and_self,Bool.and_true,Bool.true_and,Qaa,Qaf,Qac,Qad,Qak,Qap,Qab,Qam,Qai,Qal,Qaj,Qae,Qag,Qao];done))|exact RnM.keyM rfl|exact RnL.nil|exact(True.intro:RnM _ _ _ [] [])|refine RnL.cons ?_ ?_|(refine Rn.same ?_;first|rfl|(simp only[noRef,noRefs,Qah,Bool.and_self,Bool.and_true,Bool.true_and,Qaa,Qaf,Qac,Qad,Qak,Qap,Qab,Qam,Qai,Qal,Qaj,Qae,Qag,Qao];done))|exact Rn.x1 rfl rfl|exact Rn.x2 rfl rfl|exact Rn.x3 rfl rfl|exact Rn.x4 rfl rfl|exact Rn.x5 rfl|exact Rn.x6 rfl|exact Rn.x7 rfl|refine RB.newnil rfl rfl ?_|refine RB.cells rfl rfl rfl ?_ ?_|refine RB.map rfl rfl rfl ?_ ?_|refine RB.cellsB rfl rfl ?_ ?_|refine RB.mapB rfl rfl ?_ ?_)
        · exact RnM.mapF fun x _=>Rn.same (Qai _)
    · have e : i = a.n := by omega
      subst e
      simp(disch:=first|omega|exact PairsOK.mk rfl|(simp only[lenW]<;>omega)) only[hlt,wW,wV,simprocAttr]
      refine⟨(),?_⟩
      refine⟨[(41,.blk 41 0),(61,.blk 61 0),(70,.blk 70 0),(71,.blk 71 0),(72,.blk 72 0),(74,.blk 74 0),(76,.blk 76 0),(77,.blk 77 0)],rfl,au0,?_,au7⟩
      repeat' (first|exact RB.nil|(refine RnL.same ?_;first|rfl|(simp only[noRef,noRefs,Qah,Bool.and_self,Bool.and_true,Bool.true_and,Qaa,Qaf,Qac,Qad,Qak,Qap,Qab,Qam,Qai,Qal,Qaj,Qae,Qag,Qao];done))|exact RnM.keyM rfl|exact RnL.nil|exact(True.intro:RnM _ _ _ [] [])|refine RnL.cons ?_ ?_|(refine Rn.same ?_;first|rfl|(simp only[noRef,noRefs,Qah,Bool.and_self,Bool.and_true,Bool.true_and,Qaa,Qaf,Qac,Qad,Qak,Qap,Qab,Qam,Qai,Qal,Qaj,Qae,Qag,Qao];done))|exact Rn.x1 rfl rfl|exact Rn.x2 rfl rfl|exact Rn.x3 rfl rfl|exact Rn.x4 rfl rfl|exact Rn.x5 rfl|exact Rn.x6 rfl|exact Rn.x7 rfl|refine RB.newnil rfl rfl ?_|refine RB.cells rfl rfl rfl ?_ ?_|refine RB.map rfl rfl rfl ?_ ?_|refine RB.cellsB rfl rfl ?_ ?_|refine RB.mapB rfl rfl ?_ ?_)
      · exact RnM.mapF fun x _=>Rn.same (Qai _)
  rintro _ _
  have hdl:=@QcF a.n l d
  generalize restr a (lf l)=S at*
  generalize (sAll a (lf l)).1=O at*
  simp(disch:=first|omega|exact PairsOK.mk rfl|(simp only[lenW]<;>omega)) only[wW,wV,simprocAttr]
  refine ch (HSpec.of_F (FrzL.cons (frzP (a:=a) (u:=u) (l:=l) gg gg gg hl) FrzL.nil) hsup) ?_
  simp(disch:=first|omega|exact PairsOK.mk rfl|(simp only[lenW]<;>omega)) only[wW,wV,simprocAttr]
  refine⟨.inr trivial,_,rfl,?_⟩
  refine Rn.agg (RnL.cons (Rn.fz0 (g:=0) rfl (by simp[ints]) (RnL.same (Qaa _))) (RnL.cons ?_ (RnL.cons ?_ (RnL.cons (Rn.same rfl) (RnL.cons (Rn.same (Qai _)) (RnL.cons (Rn.same rfl) (RnL.cons (Rn.same (Qai _)) (RnL.cons (Rn.same (Qaj _)) (RnL.cons (Rn.same (Qai _)) RnL.nil)))))))))
  · have : (dists a.n l d).length = (kept a.n l).length := hdl
    show Rn 0 π0 _ (.fsl (ints (dists a.n l d)) (dists a.n l d).length 1) _
    rw[this]
    exact Rn.fz0 (g:=0) rfl (by rw[Qbx,this,Nat.mul_one]) (RnL.same (Qaa _))
  · show Rn 0 π0 _ (.fsl ((srtR rs).flatMap rmC) (srtR rs).length 4) _
    rw[hsr]
    exact Rn.fz0 (g:=0) rfl (by rw[QbA,hsr]) (RnL.same (Qad _))
end Go.AM.SE
namespace Go.AM.SE
open Go.Proofs Go.AM.SD
theorem QcL (r:Res) (e:Int):noRef (.tup [rsV r,.int .i64 e])=true:=by simp only[noRef,noRefs,Qaa,Qad,Qac];rfl
theorem Synth23 (a:Aut) (f u:List Nat) (h:WfA a) (hq:QOk a f u) (hel:a.es.length<=1000000):PSpec Try.prog 9 [aV a,sliN f,sliN u] (.tup [rsV (pRes a f u true),.int .i64 0]):=by
 refine PSpec.of_rn 64 ok9 rfl (by(try simp only[noRefs,Qae,Qag,Qaa,Qaf,Qac,Qad,Qak,Qab,noRef,Bool.and_self,Bool.and_true])<;>rfl) (QcL _ _) ?_
 simp(disch:=first|omega|(simp only[lenW]<;>omega)) only[s9,wW,wV,simprocAttr]
 refine cp (check22N a f u h hq hel) ?_
 simp(disch:=first|omega|(simp only[lenW]<;>omega)) only[wW,wV,simprocAttr]
 refine cp (result39 a f u true h hq hel) ?_
 generalize pRes a f u true=r
 simp(disch:=first|omega|(simp only[lenW]<;>omega)) only[wW,wV,simprocAttr]
 exact⟨.inr trivial,_,rfl,Rn.same (QcL _ _)⟩
theorem Closed24 (a:Aut) (f u:List Nat) (h:WfA a) (hq:QOk a f u) (hel:a.es.length<=1000000):PSpec Try.prog 10 [aV a,sliN f,sliN u] (.tup [rsV (pRes a f u false),.int .i64 0]):=by
 refine PSpec.of_rn 64 ok10 rfl (by(try simp only[noRefs,Qae,Qag,Qaa,Qaf,Qac,Qad,Qak,Qab,noRef,Bool.and_self,Bool.and_true])<;>rfl) (QcL _ _) ?_
 simp(disch:=first|omega|(simp only[lenW]<;>omega)) only[s10,wW,wV,simprocAttr]
 refine cp (check22N a f u h hq hel) ?_
 simp(disch:=first|omega|(simp only[lenW]<;>omega)) only[wW,wV,simprocAttr]
 refine cp (result39 a f u false h hq hel) ?_
 generalize pRes a f u false=r
 simp(disch:=first|omega|(simp only[lenW]<;>omega)) only[wW,wV,simprocAttr]
 exact⟨.inr trivial,_,rfl,Rn.same (QcL _ _)⟩
def mach:Aut:=⟨[0,1,2,3],3,[0],[(0,0,1),(1,1,0),(1,2,2),(2,3,0)]⟩
def mach3:Aut:=⟨[0,1,2,3],3,[0],[(0,0,1),(1,1,0),(1,2,2)]⟩
theorem q1:QOk mach [2] [1,2]:=⟨by decide,by decide,by decide,by decide⟩
theorem q2:QOk mach3 [] [1,2]:=⟨by decide,by decide,by decide,by decide⟩
theorem QlW (x y:Rm):aEq (.flat true [.i,.i,.i,.i]) true (rmV x) (rmV y)=some (.bool (!decide (x=y))):=by
 have:∀n m:Nat,decide ((n:Int)=(m:Int))=decide (n=m):=fun n m=>decide_eq_decide.2 (by omega)
 obtain⟨a,b,c,d⟩:=x
 obtain⟨a',b',c',d'⟩:=y
 simp only[aEq,eqCells,eqCell,if_true]
 simp only[Rm.mk.injEq,Bool.decide_and,this]
 cases decide (a=a')<;>cases decide (b=b')<;>cases decide (c=c')<;>cases decide (d=d')<;>rfl
theorem sameRems18 (a b : List Rm) (hl : a.length <= 1000000) : PSpec Try.prog 17 [rms a, rms b] (.bool (decide (a = b))) := by
  refine PSpec.QaI 64 ok17 rfl (by(try simp only[noRefs,Qae,Qag,Qaa,Qaf,Qac,Qad,Qak,Qab,noRef,Bool.and_self,Bool.and_true])<;>rfl) rfl ?_
  by_cases hab:a.length=b.length
  · simp (disch := first | omega | (simp only [lenW] <;> omega)) only [s17, hab, wW, wV, simprocAttr]
    refine Qa0 100 (fun i:Nat=>[(0,rms a),(1,rms b),(5,.int .i64 i)]) (fun _=>[]) (fun i=>i<=a.length/\∀j,j<i->a[j]?=b[j]?) (fun i=>a.length-i) 0 ⟨[],rfl,au0,au8,au7⟩ ⟨Nat.zero_le _,fun j hj=>absurd hj (Nat.not_lt_zero _)⟩ ?_
    rintro i ⟨hi,hb⟩
    by_cases hlt:i<a.length
    · obtain ⟨x, hx⟩ := Qax hlt
      obtain⟨y,hy⟩:=Qax (l:=b) (i:=i) (by omega)
      have hlt2:i<b.length:=by omega
      by_cases h0:x=y
      · have hq : aEq (.flat true [.i, .i, .i, .i]) true (rmV y) (rmV y) = some (.bool false) := by rw [QlW]; simp
        simp(disch:=first|omega|(simp only[lenW]<;>omega)) only[hlt,hlt2,QbU hx,QbU hy,hq,h0,wW,wV,simprocAttr]
        refine⟨i+1,by omega,⟨by omega,fun j hj=>?_⟩,⟨[],rfl,au0,au8,au7⟩⟩
        by_cases e:j=i
        · subst e;rw[hx,hy,h0]
        · exact hb j (by omega)
      · have hq : aEq (.flat true [.i, .i, .i, .i]) true (rmV x) (rmV y) = some (.bool true) := by rw [QlW]; simp [h0]
        simp(disch:=first|omega|(simp only[lenW]<;>omega)) only[hlt,hlt2,QbU hx,QbU hy,hq,wW,wV,simprocAttr]
        refine⟨.inr trivial,_,rfl,?_⟩
        have:a≠b:=fun e=>by subst e;rw[hx]at hy;cases hy;exact h0 rfl
        simp[resOf,QaM,this]
    · have : a = b := List.ext_getElem? fun j => by
        by_cases hj:j<i
        · exact hb j hj
        · rw[List.getElem?_eq_none (by omega),List.getElem?_eq_none (by omega)]
      simp(disch:=first|omega|(simp only[lenW]<;>omega)) only[hlt,wW,wV,simprocAttr]
      exact⟨.inr trivial,_,rfl,by simp[resOf,QaM,this]⟩
  · simp (disch := first | omega | (simp only [lenW] <;> omega)) only [s17, hab, wW, wV, simprocAttr]
    have:a≠b:=fun e=>hab (by rw[e])
    exact⟨.inr trivial,_,rfl,by simp[resOf,QaM,this]⟩
end Go.AM.SE
namespace Go.AM.SE
open Go.Proofs Go.AM.SD
def u8s (l:List Nat):List AV:=l.map fun x:Nat=> .int .u8 (x:Int)
theorem Qbe (l:List Nat):noRefs (u8s l)=true:=Qcu (fun _=>rfl) l
end Go.AM.SE
namespace Go.AM.SE
open Go.Proofs Go.AM.SD
abbrev edV (e:Ed):AV:= .agg [.int .i64 (e.1:Int),.int .i64 (e.2.1:Int),.int .i64 (e.2.2:Int)]
theorem QlX (x y:Ed):aEq (.flat true [.i,.i,.i]) true (edV x) (edV y)=some (.bool (!decide (x=y))):=by
 have:∀n m:Nat,decide ((n:Int)=(m:Int))=decide (n=m):=fun n m=>decide_eq_decide.2 (by omega)
 obtain⟨a,b,c⟩:=x
 obtain⟨a',b',c'⟩:=y
 simp only[aEq,eqCells,eqCell,if_true]
 simp only[Prod.mk.injEq,Bool.decide_and,this]
 cases decide (a=a')<;>cases decide (b=b')<;>cases decide (c=c')<;>rfl
theorem Qnr {a b : List Nat} : decide (nz a = nz b) = decide (a = b) := by
  refine decide_eq_decide.2 ⟨fun h=>?_,fun h=>by rw[h]⟩
  have:∀a b:List Nat,nz a=nz b->a=b:=by
    intro a
    induction a with
    | nil => intro b h; cases b with
      |nil=>rfl
      |cons=>simp at h
    | cons x a ih => intro b h; cases b with
      |nil=>simp at h
      | cons y b =>
        simp only[nz,List.map_cons,List.cons.injEq]at h
        rw[ih b h.2,show x=y by omega]
  exact this a b h
theorem eq14N (a b:List Nat) (hl:a.length<=1000000):PSpec Try.prog 14 [sliN a,sliN b] (.bool (decide (a=b))):=by
 have:=sameInts (nz a) (nz b) (by simp;omega)
 rw[Qbb,Qbb,Qnr]at this;exact this
def autB (x y:Aut):Bool:=decide (x.n=y.n)&&(decide (x.al=y.al)&&(decide (x.ms=y.ms)&&decide (x.es=y.es)))
structure AOk (r:Aut):Prop where
 al:r.al.length<=1000000
 ms:r.ms.length<=1000000
 es:r.es.length<=10000000
theorem _root_.Go.AM.au9 {p:Prop} (h:p:=by repeat' (first|exact RB.nil|(refine RnL.same ?_;first|rfl|(simp only[noRef,noRefs,Qah,Bool.and_self,Bool.and_true,Bool.true_and,Qaa,Qbe,Qaf,Qac,Qad,Qak,Qap,Qab,Qam,Qai,Qal,Qaj,Qae,Qag,Qao];done))|exact RnM.keyM rfl|exact RnL.nil|exact(True.intro:RnM _ _ _ [] [])|refine RnL.cons ?_ ?_|(refine Rn.same ?_;first|rfl|(simp only[noRef,noRefs,Qah,Bool.and_self,Bool.and_true,Bool.true_and,Qaa,Qbe,Qaf,Qac,Qad,Qak,Qap,Qab,Qam,Qai,Qal,Qaj,Qae,Qag,Qao];done))|exact Rn.x1 rfl rfl|exact Rn.x2 rfl rfl|exact Rn.x3 rfl rfl|exact Rn.x4 rfl rfl|exact Rn.x5 rfl|exact Rn.x6 rfl|exact Rn.x7 rfl|refine RB.newnil rfl rfl ?_|refine RB.cells rfl rfl rfl ?_ ?_|refine RB.map rfl rfl rfl ?_ ?_|refine RB.cellsB rfl rfl ?_ ?_|refine RB.mapB rfl rfl ?_ ?_)):p:=h
theorem _root_.Go.AM.au10 {p:Prop} (h:p:=by repeat (first|exact RT.nil|(refine RT.cons ?_ ?_; · (first|exact Rn.any|exact Rn.x1 rfl rfl|exact Rn.x2 rfl rfl|exact Rn.x3 rfl rfl|exact Rn.x4 rfl rfl|exact Rn.x5 rfl|exact Rn.x6 rfl|exact Rn.x7 rfl|(refine Rn.slot ?_ ?_;(first|rfl|(rw[Int.natCast_add];rfl));(first|rfl|(simp only[noRef,noRefs,Qah,Bool.and_self,Bool.and_true,Bool.true_and,Qaa,Qbe,Qaf,Qac,Qad,Qak,Qap,Qab,Qam,Qai,Qal,Qaj,Qae,Qag,Qao];done)))|(refine Rn.fn ?_ ?_<;>(repeat' (first|exact RnL.nil|refine RnL.cons ?_ ?_|exact Rn.same rfl|exact Rn.x6 rfl|exact Rn.x2 rfl rfl|exact Rn.x5 rfl|exact Rn.x1 rfl rfl))))))):p:=h
theorem same30 (x y : Aut) (hx : AOk x) (hy : AOk y) : PSpec Try.prog 28 [aV x, aV y] (.bool (autB x y)) := by
  refine PSpec.QaI 64 ok28 rfl (by(try simp only[noRefs,Qbe,Qae,Qag,Qaa,Qaf,Qac,Qad,Qak,Qab,noRef,Bool.and_self,Bool.and_true])<;>rfl) rfl ?_
  have c1:=eq14N x.al y.al hx.al
  have c2:=eq14N x.ms y.ms hx.ms
  unfold autB
  have hel:=hx.es
  have hel2:=hy.es
  generalize decide (x.al=y.al)=b1 at*
  generalize decide (x.ms=y.ms)=b2 at*
  simp(disch:=first|omega|(simp only[lenW]<;>omega)) only[s28,wW,wV,simprocAttr]
  refine cp c1 ?_
  cases b1 with
  | false =>
    rw[Bool.false_and,Bool.and_false]
    simp(disch:=first|omega|(simp only[lenW]<;>omega)) only[wW,wV,simprocAttr]
    exact⟨.inr trivial,_,rfl,rfl⟩
  | true =>
    by_cases h1:x.n=y.n
    · rw [decide_eq_true h1, Bool.true_and, Bool.true_and]
      simp(disch:=first|omega|(simp only[lenW]<;>omega)) only[h1,wW,wV,simprocAttr]
      refine cp c2 ?_
      cases b2 with
      | false =>
        rw[Bool.false_and]
        simp(disch:=first|omega|(simp only[lenW]<;>omega)) only[wW,wV,simprocAttr]
        exact⟨.inr trivial,_,rfl,rfl⟩
      | true =>
        rw[Bool.true_and]
        by_cases h4:x.es.length=y.es.length
        · simp (disch := first | omega | (simp only [lenW] <;> omega)) only [h4, wW, wV, simprocAttr]
          refine Qa0 100 (fun i:Nat=>[(2,.ptr 50 0 0),(3,.ptr 60 0 0),(5,.int .i64 i)]) (fun _=>[(50,.cells 0 [sliN x.al,.int .i64 (y.n:Int),sliN x.ms,egsN x.es]),(60,.cells 0 [sliN y.al,.int .i64 (y.n:Int),sliN y.ms,egsN y.es])])
            (fun i=>i<=y.es.length/\∀j,j<i->x.es[j]?=y.es[j]?) (fun i=>y.es.length-i) 0 ⟨[(50,.blk 64 0),(60,.blk 65 0)],rfl,au0,au9,au10⟩ ⟨Nat.zero_le _,fun j hj=>absurd hj (Nat.not_lt_zero _)⟩ ?_
          rintro i ⟨hi,hb⟩
          by_cases hlt:i<x.es.length
          · obtain ⟨p, hp⟩ := Qax (l := x.es) (i := i) (by omega)
            obtain⟨q,hq⟩:=Qax (l:=y.es) (i:=i) (by omega)
            have hlt2:i<y.es.length:=by omega
            by_cases h0:p=q
            · have hqq : aEq (.flat true [.i, .i, .i]) true (edV q) (edV q) = some (.bool false) := by rw [QlX]; simp
              simp(disch:=first|omega|(simp only[lenW]<;>omega)) only[hlt,hlt2,QaC hp,QaC hq,h0,hqq,wW,wV,simprocAttr]
              refine⟨i+1,by omega,⟨by omega,fun j hj=>?_⟩,⟨[(50,.blk 50 0),(60,.blk 60 0)],rfl,au0,au9,au10⟩⟩
              by_cases e:j=i
              · subst e;rw[hp,hq,h0]
              · exact hb j (by omega)
            · have hqq : aEq (.flat true [.i, .i, .i]) true (edV p) (edV q) = some (.bool true) := by rw [QlX]; simp [h0]
              simp(disch:=first|omega|(simp only[lenW]<;>omega)) only[hlt,hlt2,QaC hp,QaC hq,hqq,wW,wV,simprocAttr]
              refine⟨.inr trivial,_,rfl,?_⟩
              have:x.es≠y.es:=fun e=>by rw[e,hq]at hp;cases hp;exact h0 rfl
              simp[resOf,QaM,this]
          · have : x.es = y.es := List.ext_getElem? fun j => by
              by_cases hj:j<i
              · exact hb j hj
              · rw[List.getElem?_eq_none (by omega),List.getElem?_eq_none (by omega)]
            simp(disch:=first|omega|(simp only[lenW]<;>omega)) only[hlt,wW,wV,simprocAttr]
            exact⟨.inr trivial,_,rfl,by simp[resOf,QaM,this]⟩
        · simp (disch := first | omega | (simp only [lenW] <;> omega)) only [h4, wW, wV, simprocAttr]
          have:x.es≠y.es:=fun e=>h4 (by rw[e])
          exact⟨.inr trivial,_,rfl,by simp[resOf,QaM,this]⟩
    · rw [decide_eq_false h1, Bool.false_and]
      simp(disch:=first|omega|(simp only[lenW]<;>omega)) only[h1,wW,wV,simprocAttr]
      exact⟨.inr trivial,_,rfl,rfl⟩
def resB (x y:Res):Bool:=decide (x.kept=y.kept)&&(decide (x.dist=y.dist)&&(decide (x.rem=y.rem)&&(decide (x.rounds=y.rounds)&&(autB x.sup y.sup&&decide (x.orig=y.orig)))))
structure ROk (r:Res):Prop where
 kept:r.kept.length<=1000000
 dist:r.dist.length<=1000000
 rem:r.rem.length<=1000000
 orig:r.orig.length<=1000000
 sup:AOk r.sup
theorem QlY (x:Aut):autB x x=true:=by simp[autB]
theorem QlZ (x:Res):resB x x=true:=by simp[resB,QlY]
end Go.AM.SE
namespace Go.AM.SE
open Go.Proofs Go.AM.SD
theorem Ql0 {l:List Nat} {x:Nat}:idx l x<=l.length:=by grind [idx]
theorem Qef {l:List Nat} {x:Nat} (h:x∈l):idx l x<l.length:=by
 simp_all [idx]
theorem QeB {l:List Nat} {x:Nat} (h:x∉l):idx l x=l.length:=by
 grind [idx]
abbrev rsB (a:Aut) (m e:Nat):List AV:=[sliN a.al,.int .i64 0,.sl 77 0 0 m 1,.sl 76 0 0 e 3]
abbrev rsA (a:Aut):List AV:=[sliN a.al,.int .i64 (a.n:Int),sliN a.ms,egsN a.es]
abbrev rsN:List AV:=[.nilsl,.int .i64 0,.nilsl,.nilsl]
end Go.AM.SE
namespace Go.AM.SE
open Go.Proofs Go.AM.SD
def fe (f:Nat->Int):Nat->Int
 |0=>0
 |n+1=>if fe f n=0 then f n else fe f n
theorem Qcq {f:Nat->Int}:∀{n:Nat},(∀j,j<n->f j=0)->fe f n=0
 |0,_=>rfl
 |n+1,h=>by
  rw[fe,if_pos (Qcq fun j hj=>h j (by omega))]
  exact h n (Nat.lt_succ_self n)
theorem fe_at {f:Nat->Int} {i:Nat} {e:Int} (hf:f i=e) (he:e≠0) (hb:∀j,j<i->f j=0):∀{n:Nat},i<n->fe f n=e
  |0,h=>absurd h (Nat.not_lt_zero _)
  | n + 1, h => by
    rw[fe]
    by_cases e1:i=n
    · subst e1;rw[if_pos (Qcq hb)];exact hf
    · have := fe_at hf he hb (n := n) (by omega)
      rw[if_neg (by rw[this];exact he)];exact this
theorem Qgu {f:Nat->Int}:∀{n:Nat},fe f n=0->∀j,j<n->f j=0
 |0,_,j,hj=>absurd hj (Nat.not_lt_zero _)
 | n + 1, h, j, hj => by
  rw[fe]at h
  split at h
  ·rename_i h0
   by_cases e:j=n
   ·subst e;exact h
   ·exact Qgu h0 j (by omega)
  ·rename_i h0;exact absurd h h0
theorem fe_up {f:Nat->Int} {i:Nat} (hb:∀j,j<i->f j=0) (h:f i=0):∀j,j<i+1->f j=0:=fun j hj=>by
 by_cases e:j=i
 ·subst e;exact h
 ·exact hb j (by omega)
def setE (l:List Int) (n:Int) (i:Nat):Int:=
 if l.getD i 0<0\/n<=l.getD i 0 then 2 else if 0<i/\l.getD i 0<=l.getD (i-1) 0 then 5 else 0
def setErr (l:List Int) (n:Int):Int:=fe (setE l n) l.length
theorem Qa8 {α:Type} {l:List α} {i:Nat} {x d:α} (h:l[i]?=some x):l.getD i d=x:=by rw[List.getD_eq_getElem?_getD,h];rfl
theorem set38X (l : List Int) (n : Int) (hl : l.length <= 9223372036854775807) : PSpec Try.prog 20 [sli l, .int .i64 n] (.int .i64 (setErr l n)) := by
  refine PSpec.QaI 64 ok20 rfl (by(try simp only[noRefs,Qaa,Qaf,Qac,Qad,Qab,noRef,Bool.and_self,Bool.and_true])<;>rfl) rfl ?_
  simp(disch:=first|omega|(simp only[lenW]<;>omega)) only[s20,wV,simprocAttr]
  refine Qa0 100 (fun i:Nat=>[(0,sli l),(1,.int .i64 n),(7,sli l),(8,.int .i64 l.length),(9,.int .i64 i)]) (fun _=>[]) (fun i=>i<=l.length/\∀j,j<i->setE l n j=0) (fun i=>l.length-i) 0 ⟨[],rfl,au0,au1,au2⟩ ⟨Nat.zero_le _,fun j hj=>absurd hj (Nat.not_lt_zero _)⟩ ?_
  rintro i ⟨hi,hb⟩
  by_cases hlt:i<l.length
  · obtain ⟨x, hx⟩ := Qax hlt
    have hgx:l.getD i 0=x:=Qa8 hx
    by_cases h1:x<0
    · simp (disch := first | omega | (simp only [lenW] <;> omega)) only [hlt, Qas hx, h1, wV, simprocAttr]
      exact⟨.inr trivial,_,rfl,by rw[setErr,fe_at (e:=2) (by unfold setE;rw[hgx,if_pos (.inl h1)]) (by decide) hb hlt];rfl⟩
    by_cases h2:n<=x
    · simp (disch := first | omega | (simp only [lenW] <;> omega)) only [hlt, Qas hx, h1, h2, wV, simprocAttr]
      exact⟨.inr trivial,_,rfl,by rw[setErr,fe_at (e:=2) (by unfold setE;rw[hgx,if_pos (.inr h2)]) (by decide) hb hlt];rfl⟩
    have h12:¬(x<0\/n<=x):=by omega
    by_cases h0:i=0
    · have h4 : ¬ (0 : Int) < (i : Int) := by omega
      simp(disch:=first|omega|(simp only[lenW]<;>omega)) only[hlt,Qas hx,h1,h2,h4,wV,simprocAttr]
      exact⟨i+1,by omega,⟨by omega,fe_up hb (by unfold setE;rw[hgx,if_neg h12,if_neg (by omega)])⟩,⟨[],rfl,au0,au1,au2⟩⟩
    · obtain ⟨y, hy⟩ := Qax (l := l) (i := i - 1) (by omega)
      have hgy:l.getD (i-1) 0=y:=Qa8 hy
      have h4:(0:Int)<(i:Int):=by omega
      have h5:(i:Int)-1=((i-1:Nat):Int):=by omega
      have h6:((i-1:Nat):Int)<l.length:=by omega
      by_cases h3:x<=y
      · simp (disch := first | omega | (simp only [lenW] <;> omega)) only [hlt, Qas hx, h1, h2, h4, h5, h6, Qas hy, h3, wV, simprocAttr]
        exact⟨.inr trivial,_,rfl,by rw[setErr,fe_at (e:=5) (by unfold setE;rw[hgx,hgy,if_neg h12,if_pos ⟨by omega,h3⟩]) (by decide) hb hlt];rfl⟩
      · simp (disch := first | omega | (simp only [lenW] <;> omega)) only [hlt, Qas hx, h1, h2, h4, h5, h6, Qas hy, h3, wV, simprocAttr]
        exact⟨i+1,by omega,⟨by omega,fe_up hb (by unfold setE;rw[hgx,hgy,if_neg h12,if_neg (by omega)])⟩,⟨[],rfl,au0,au1,au2⟩⟩
  · simp (disch := first | omega | (simp only [lenW] <;> omega)) only [hlt, wV, simprocAttr]
    exact⟨.inr trivial,_,rfl,by rw[setErr,Qcq fun j hj=>hb j (by omega)];rfl⟩
theorem set49X (l : List Int) (n : Int) (hl : l.length <= 9223372036854775807) : PSpec Try.prog 29 [sli l, .int .i64 n] (.int .i64 (setErr l n)) := by
  refine PSpec.QaI 64 ok29 rfl (by(try simp only[noRefs,Qaa,Qaf,Qac,Qad,Qab,noRef,Bool.and_self,Bool.and_true])<;>rfl) rfl ?_
  simp(disch:=first|omega|(simp only[lenW]<;>omega)) only[s29,wV,simprocAttr]
  refine Qa0 100 (fun i:Nat=>[(0,sli l),(1,.int .i64 n),(7,sli l),(8,.int .i64 l.length),(9,.int .i64 i)]) (fun _=>[]) (fun i=>i<=l.length/\∀j,j<i->setE l n j=0) (fun i=>l.length-i) 0 ⟨[],rfl,au0,au1,au2⟩ ⟨Nat.zero_le _,fun j hj=>absurd hj (Nat.not_lt_zero _)⟩ ?_
  rintro i ⟨hi,hb⟩
  by_cases hlt:i<l.length
  · obtain ⟨x, hx⟩ := Qax hlt
    have hgx:l.getD i 0=x:=Qa8 hx
    by_cases h1:x<0
    · simp (disch := first | omega | (simp only [lenW] <;> omega)) only [hlt, Qas hx, h1, wV, simprocAttr]
      exact⟨.inr trivial,_,rfl,by rw[setErr,fe_at (e:=2) (by unfold setE;rw[hgx,if_pos (.inl h1)]) (by decide) hb hlt];rfl⟩
    by_cases h2:n<=x
    · simp (disch := first | omega | (simp only [lenW] <;> omega)) only [hlt, Qas hx, h1, h2, wV, simprocAttr]
      exact⟨.inr trivial,_,rfl,by rw[setErr,fe_at (e:=2) (by unfold setE;rw[hgx,if_pos (.inr h2)]) (by decide) hb hlt];rfl⟩
    have h12:¬(x<0\/n<=x):=by omega
    by_cases h0:i=0
    · have h4 : ¬ (0 : Int) < (i : Int) := by omega
      simp(disch:=first|omega|(simp only[lenW]<;>omega)) only[hlt,Qas hx,h1,h2,h4,wV,simprocAttr]
      exact⟨i+1,by omega,⟨by omega,fe_up hb (by unfold setE;rw[hgx,if_neg h12,if_neg (by omega)])⟩,⟨[],rfl,au0,au1,au2⟩⟩
    · obtain ⟨y, hy⟩ := Qax (l := l) (i := i - 1) (by omega)
      have hgy:l.getD (i-1) 0=y:=Qa8 hy
      have h4:(0:Int)<(i:Int):=by omega
      have h5:(i:Int)-1=((i-1:Nat):Int):=by omega
      have h6:((i-1:Nat):Int)<l.length:=by omega
      by_cases h3:x<=y
      · simp (disch := first | omega | (simp only [lenW] <;> omega)) only [hlt, Qas hx, h1, h2, h4, h5, h6, Qas hy, h3, wV, simprocAttr]
        exact⟨.inr trivial,_,rfl,by rw[setErr,fe_at (e:=5) (by unfold setE;rw[hgx,hgy,if_neg h12,if_pos ⟨by omega,h3⟩]) (by decide) hb hlt];rfl⟩
      · simp (disch := first | omega | (simp only [lenW] <;> omega)) only [hlt, Qas hx, h1, h2, h4, h5, h6, Qas hy, h3, wV, simprocAttr]
        exact⟨i+1,by omega,⟨by omega,fe_up hb (by unfold setE;rw[hgx,hgy,if_neg h12,if_neg (by omega)])⟩,⟨[],rfl,au0,au1,au2⟩⟩
  · simp (disch := first | omega | (simp only [lenW] <;> omega)) only [hlt, wV, simprocAttr]
    exact⟨.inr trivial,_,rfl,by rw[setErr,Qcq fun j hj=>hb j (by omega)];rfl⟩
theorem QcG {l:List Int} {n:Int} (h:setErr l n=0):SetOk l n:=by
 have h0:=Qgu h
 have h1:∀i x,l[i]?=some x->(0<=x/\x<n)/\(0<i->∀y,l[i-1]?=some y->y<x):=fun i x hx=>by
  have hi:=(List.getElem?_eq_some_iff.1 hx).1
  have:=h0 i hi
  unfold setE at this
  rw[Qa8 hx]at this
  split at this
  ·cases this
  ·split at this
   ·cases this
   ·rename_i q1 q2
    refine⟨by omega,fun hi y hy=>?_⟩
    rw[Qa8 hy]at q2
    omega
 refine⟨fun x hx=>?_,?_⟩
 ·obtain ⟨i, hi, rfl⟩ := List.getElem_of_mem hx
  exact(h1 i _ (List.getElem?_eq_getElem hi)).1
 ·have : ∀ k i, i + k + 1 < l.length -> l.getD i 0 < l.getD (i + k + 1) 0 := by
   intro k
   induction k with
   |zero=>
    intro i hi
    have:=(h1 (i+1) _ (List.getElem?_eq_getElem (by omega))).2 (by omega) _ (by rw[show i+1-1=i by omega];exact List.getElem?_eq_getElem (by omega))
    rw[List.getD_eq_getElem?_getD,List.getD_eq_getElem?_getD,List.getElem?_eq_getElem (by omega),List.getElem?_eq_getElem (by omega)]
    exact this
   |succ k ih=>
    intro i hi
    have q1:=ih i (by omega)
    have:=(h1 (i+(k+1)+1) _ (List.getElem?_eq_getElem (by omega))).2 (by omega) _ (by rw[show i+(k+1)+1-1=i+k+1 by omega];exact List.getElem?_eq_getElem (by omega))
    rw[List.getD_eq_getElem?_getD,List.getD_eq_getElem?_getD,List.getElem?_eq_getElem (by omega),List.getElem?_eq_getElem (by omega)]at q1⊢
    exact Int.lt_trans q1 this
  rw[List.pairwise_iff_getElem]
  intro i j hi hj hij
  have:=this (j-i-1) i (by omega)
  rw[show i+(j-i-1)+1=j by omega,List.getD_eq_getElem?_getD,List.getD_eq_getElem?_getD,List.getElem?_eq_getElem hi,List.getElem?_eq_getElem hj]at this
  exact this
def edgE (a:Au) (i:Nat):Int:=
 let x:=a.es.getD i ⟨0,0,0⟩
 let y:=a.es.getD (i-1) ⟨0,0,0⟩
 if x.fr<0\/a.n<=x.fr\/x.to<0\/a.n<=x.to then 2 else if x.ev∉a.al then 9
 else if 0<i/\(x.fr<y.fr\/(x.fr=y.fr/\x.ev<=y.ev))then 5 else 0
def edgErr (a:Au):Int:=fe (edgE a) a.es.length
theorem edges50X (a : Au) (hl : a.es.length <= 140737488355328) (hal : a.al.length <= 140737488355328) : PSpec Try.prog 30 [auV a] (.int .i64 (edgErr a)) := by
  refine PSpec.QaI 64 ok30 rfl (by(try simp only[noRefs,Qaa,Qaf,Qac,Qad,Qab,noRef,Bool.and_self,Bool.and_true])<;>rfl) rfl ?_
  simp(disch:=first|omega|(simp only[lenW]<;>omega)) only[s30,wV,simprocAttr]
  refine Qa0 100 (fun i:Nat=>[(1,.ptr 50 0 0),(7,egs a.es),(8,.int .i64 a.es.length),(9,.int .i64 i)]) (fun _=>[(50,.cells 0 [sli a.al,.int .i64 a.n,sli a.ms,egs a.es])]) (fun i=>i<=a.es.length/\∀j,j<i->edgE a j=0) (fun i=>a.es.length-i) 0 ⟨[(50,.blk 64 0)],rfl,au0,au1,au2⟩ ⟨Nat.zero_le _,fun j hj=>absurd hj (Nat.not_lt_zero _)⟩ ?_
  rintro i ⟨hi,hb⟩
  by_cases hlt:i<a.es.length
  · obtain ⟨x, hx⟩ := Qax hlt
    have hgx:a.es.getD i ⟨0,0,0⟩=x:=Qa8 hx
    by_cases f1:x.fr<0
    · simp (disch := first | omega | (simp only [lenW] <;> omega)) only [hlt, Qaw hx, f1, wV, simprocAttr]
      exact⟨.inr trivial,_,rfl,by rw[edgErr,fe_at (e:=2) (by unfold edgE;dsimp only;rw[hgx,if_pos (by omega)]) (by decide) hb hlt];rfl⟩
    by_cases f2:a.n<=x.fr
    · simp (disch := first | omega | (simp only [lenW] <;> omega)) only [hlt, Qaw hx, f1, f2, wV, simprocAttr]
      exact⟨.inr trivial,_,rfl,by rw[edgErr,fe_at (e:=2) (by unfold edgE;dsimp only;rw[hgx,if_pos (by omega)]) (by decide) hb hlt];rfl⟩
    by_cases t1:x.to<0
    · simp (disch := first | omega | (simp only [lenW] <;> omega)) only [hlt, Qaw hx, f1, f2, t1, wV, simprocAttr]
      exact⟨.inr trivial,_,rfl,by rw[edgErr,fe_at (e:=2) (by unfold edgE;dsimp only;rw[hgx,if_pos (by omega)]) (by decide) hb hlt];rfl⟩
    by_cases t2:a.n<=x.to
    · simp (disch := first | omega | (simp only [lenW] <;> omega)) only [hlt, Qaw hx, f1, f2, t1, t2, wV, simprocAttr]
      exact⟨.inr trivial,_,rfl,by rw[edgErr,fe_at (e:=2) (by unfold edgE;dsimp only;rw[hgx,if_pos (by omega)]) (by decide) hb hlt];rfl⟩
    have hc:=contains62 a.al x.ev hal
    simp(disch:=first|omega|(simp only[lenW]<;>omega)) only[hlt,Qaw hx,f1,f2,t1,t2,wV,simprocAttr]
    refine cp hc ?_
    by_cases hev:x.ev∈a.al
    · rw [decide_eq_true hev]
      by_cases h0:i=0
      · have h4 : (i : Int) = 0 := by omega
        simp(disch:=first|omega|(simp only[lenW]<;>omega)) only[hlt,Qaw hx,h4,wV,simprocAttr]
        exact⟨1,by omega,⟨by omega,fun j hj=>by rw[show j=i by omega];unfold edgE;dsimp only;rw[hgx,if_neg (by omega),if_neg (by simpa using hev),if_neg (by omega)]⟩,⟨[(50,.blk 50 0)],rfl,au0,au1,au2⟩⟩
      · obtain ⟨y, hy⟩ := Qax (l := a.es) (i := i - 1) (by omega)
        have hgy:a.es.getD (i-1) ⟨0,0,0⟩=y:=Qa8 hy
        have h4:¬(i:Int)=0:=by omega
        have h5:(i:Int)-1=((i-1:Nat):Int):=by omega
        have h6:((i-1:Nat):Int)<a.es.length:=by omega
        by_cases g1:x.fr<y.fr
        · simp (disch := first | omega | (simp only [lenW] <;> omega)) only [hlt, Qaw hx, h4, h5, h6, Qaw hy, g1, wV, simprocAttr]
          exact⟨.inr trivial,_,rfl,by rw[edgErr,fe_at (e:=5) (by unfold edgE;dsimp only;rw[hgx,hgy,if_neg (by omega),if_neg (by simpa using hev),if_pos (by omega)]) (by decide) hb hlt];rfl⟩
        by_cases g2:x.fr=y.fr
        · by_cases g3 : x.ev <= y.ev
          · simp (disch := first | omega | (simp only [lenW] <;> omega)) only [hlt, Qaw hx, h4, h5, h6, Qaw hy, g1, g2, g3, wV, simprocAttr]
            exact⟨.inr trivial,_,rfl,by rw[edgErr,fe_at (e:=5) (by unfold edgE;dsimp only;rw[hgx,hgy,if_neg (by omega),if_neg (by simpa using hev),if_pos (by omega)]) (by decide) hb hlt];rfl⟩
          · simp (disch := first | omega | (simp only [lenW] <;> omega)) only [hlt, Qaw hx, h4, h5, h6, Qaw hy, g1, g2, g3, wV, simprocAttr]
            exact⟨i+1,by omega,⟨by omega,fe_up hb (by unfold edgE;dsimp only;rw[hgx,hgy,if_neg (by omega),if_neg (by simpa using hev),if_neg (by omega)])⟩,⟨[(50,.blk 50 0)],rfl,au0,au1,au2⟩⟩
        · simp (disch := first | omega | (simp only [lenW] <;> omega)) only [hlt, Qaw hx, h4, h5, h6, Qaw hy, g1, g2, wV, simprocAttr]
          exact⟨i+1,by omega,⟨by omega,fe_up hb (by unfold edgE;dsimp only;rw[hgx,hgy,if_neg (by omega),if_neg (by simpa using hev),if_neg (by omega)])⟩,⟨[(50,.blk 50 0)],rfl,au0,au1,au2⟩⟩
    · rw [decide_eq_false hev]
      simp(disch:=first|omega|(simp only[lenW]<;>omega)) only[hlt,Qaw hx,wV,simprocAttr]
      exact⟨.inr trivial,_,rfl,by rw[edgErr,fe_at (e:=9) (by unfold edgE;dsimp only;rw[hgx,if_neg (by omega),if_pos hev]) (by decide) hb hlt];rfl⟩
  · simp (disch := first | omega | (simp only [lenW] <;> omega)) only [hlt, wV, simprocAttr]
    exact⟨.inr trivial,_,rfl,by rw[edgErr,Qcq fun j hj=>hb j (by omega)];rfl⟩
def auErr (a:Au):Int:=
 if setErr a.al 32≠0 then setErr a.al 32 else if a.n<0 then 2 else if 4096<a.n then 3 else if setErr a.ms a.n≠0 then setErr a.ms a.n else edgErr a
theorem SetOk.len {l:List Int} {n:Int} (h:SetOk l n):(l.length:Int)<=max n 0:=by
  have h1:(l.map Int.toNat).Pairwise (· < ·):=by
    rw[List.pairwise_map]
    refine h.2.imp_of_mem fun{x y} hx hy hxy=>?_
    have:=(h.1 x hx).1
    omega
  have:=QaP n.toNat (l.map Int.toNat) (by rw[List.nodup_iff_pairwise_ne];exact h1.imp fun h=>by omega) fun x hx=>by
    obtain⟨y,hy,rfl⟩:=List.mem_map.1 hx
    have:=h.1 y hy
    omega
  rw[List.length_map]at this
  omega
theorem check37X (a : Au) (h1 : a.al.length <= 9223372036854775807) (h2 : a.ms.length <= 9223372036854775807) (h3 : a.es.length <= 140737488355328) : PSpec Try.prog 19 [auV a] (.int .i64 (auErr a)) := by
  refine PSpec.QaI 64 ok19 rfl (by(try simp only[noRefs,Qaa,Qaf,Qac,Qad,Qab,noRef,Bool.and_self,Bool.and_true])<;>rfl) rfl ?_
  have e1:=set49X a.al 32 h1
  have e2:=set49X a.ms a.n h2
  have e3:setErr a.al 32=0->_:=fun h=>edges50X a h3 (by have:=(QcG h).len;omega)
  unfold auErr
  generalize setErr a.al 32=v1 at*
  generalize setErr a.ms a.n=v2 at*
  generalize edgErr a=v3 at*
  simp(disch:=first|omega|(simp only[lenW]<;>omega)) only[s19,wV,simprocAttr]
  refine cp e1 ?_
  by_cases q1:v1=0
  · have e3 := e3 q1
    simp(disch:=first|omega|(simp only[lenW]<;>omega)) only[q1,wV,simprocAttr]
    by_cases q2:a.n<0
    · simp (disch := first | omega | (simp only [lenW] <;> omega)) only [q2, wV, simprocAttr]
      exact⟨.inr trivial,_,rfl,rfl⟩
    · by_cases q3 : 4096 < a.n
      · simp (disch := first | omega | (simp only [lenW] <;> omega)) only [q2, q3, wV, simprocAttr]
        exact⟨.inr trivial,_,rfl,rfl⟩
      · simp (disch := first | omega | (simp only [lenW] <;> omega)) only [q2, q3, wV, simprocAttr]
        refine cp e2 ?_
        by_cases q4:v2=0
        · simp (disch := first | omega | (simp only [lenW] <;> omega)) only [q4, wV, simprocAttr]
          refine cp e3 ?_
          simp(disch:=first|omega|(simp only[lenW]<;>omega)) only[wV,simprocAttr]
          exact⟨.inr trivial,_,rfl,rfl⟩
        · simp (disch := first | omega | (simp only [lenW] <;> omega)) only [q4, wV, simprocAttr]
          exact⟨.inr trivial,_,rfl,rfl⟩
  · simp (disch := first | omega | (simp only [lenW] <;> omega)) only [q1, wV, simprocAttr]
    exact⟨.inr trivial,_,rfl,rfl⟩
end Go.AM.SE
namespace Go.AM.SO
open Go.Proofs Go.AM.SD Go.AM.SE
def natA (a:Au):Aut:=⟨a.al.map Int.toNat,a.n.toNat,a.ms.map Int.toNat,a.es.map fun e=>(e.fr.toNat,e.ev.toNat,e.to.toNat)⟩
theorem QdV {l:List Int} (h:∀x∈l,0<=x):nz (l.map Int.toNat)=l:=by
 rw[nz,List.map_map]
 conv=>rhs;rw[<-List.map_id l]
 refine List.map_congr_left fun x hx=>?_
 have:=h x hx
 simp;omega
theorem Qcb {l:List Int} {n:Int} (h:SetOk l n):(l.map Int.toNat).Pairwise (· < ·):=by
 rw[List.pairwise_map]
 refine h.2.imp_of_mem fun{x y} hx hy hxy=>?_
 have:=(h.1 x hx).1
 omega
theorem Qns {a:Au} (h:edgErr a=0) {i:Nat} {x:Eg} (hx:a.es[i]?=some x):(0<=x.fr/\x.fr<a.n/\0<=x.to/\x.to<a.n/\x.ev∈a.al)/\∀y,0<i->a.es[i-1]?=some y->y.fr<x.fr\/y.fr=x.fr/\y.ev<x.ev:=by
 have:=Qgu h i (List.getElem?_eq_some_iff.1 hx).1
 unfold edgE at this
 dsimp only at this
 rw[Qa8 hx]at this
 split at this
 ·cases this
 ·split at this
  ·cases this
  ·split at this
   ·cases this
   ·rename_i q1 q2 q3
    refine⟨⟨by omega,by omega,by omega,by omega,by simpa using q2⟩,fun y h0 hy=>?_⟩
    rw[Qa8 hy]at q3
    omega
theorem Ql1 {α:Type} {R:α->α->Prop} (ht:∀a b c,R a b->R b c->R a c):∀{l:List α},(∀(i:Nat) x y,l[i]?=some x->l[i+1]?=some y->R x y)->l.Pairwise R
 |[],_=>List.Pairwise.nil
 |[x],_=>by simp
 |x::y::l,h=>by
  have ih:=Ql1 ht (l:=y::l) fun i a b ha hb=>h (i+1) a b (by simpa using ha) (by simpa using hb)
  rw[List.pairwise_cons]
  refine⟨fun z hz=>?_,ih⟩
  have hxy:=h 0 x y rfl rfl
  rcases List.mem_cons.1 hz with rfl|hz
  ·exact hxy
  ·exact ht _ _ _ hxy ((List.pairwise_cons.1 ih).1 z hz)
theorem Qmu {a : Au} (h : auErr a = 0) (hn : a.n <= 1000) : au (natA a) = a /\ WfA (natA a) := by
  unfold auErr at h
  split at h
  · rename_i q;exact absurd h q
  rename_i h1
  split at h
  · cases h
  rename_i h2
  split at h
  · cases h
  rename_i h3
  split at h
  · rename_i q;exact absurd h q
  rename_i h4
  have s1:=QcG (by simpa using h1)
  have s2:=QcG (by simpa using h4)
  have he:=fun(i:Nat) x hx=>Qns h (i:=i) (x:=x) hx
  have hem:∀x∈a.es,0<=x.fr/\x.fr<a.n/\0<=x.to/\x.to<a.n/\x.ev∈a.al:=fun x hx=>by
    obtain⟨i,hi,rfl⟩:=List.getElem_of_mem hx
    exact(he i _ (List.getElem?_eq_getElem hi)).1
  have hev:∀x∈a.es,0<=x.ev:=fun x hx=>(s1.1 x.ev (hem x hx).2.2.2.2).1
  constructor
  · show (⟨nz _, _, nz _, _⟩ : Au) = a
    obtain⟨al,n,ms,es⟩:=a
    simp only[natA,Au.mk.injEq]at*
    refine⟨QdV fun x hx=>(s1.1 x hx).1,by omega,QdV fun x hx=>(s2.1 x hx).1,?_⟩
    rw[List.map_map]
    conv=>rhs;rw[<-List.map_id es]
    refine List.map_congr_left fun x hx=>?_
    have q:=hem x hx
    have q2:=hev x hx
    obtain⟨f,v,t⟩:=x
    simp only[Function.comp,eg,id,Eg.mk.injEq]at*
    omega
  · refine ⟨Qcb s1, fun x hx => ?_, by show a.n.toNat <= 4096; omega, Qcb s2, fun x hx => ?_, ?_, fun e hx => ?_, fun e hx => ?_⟩
    · obtain ⟨y, hy, rfl⟩ := List.mem_map.1 (show x ∈ a.al.map Int.toNat from hx)
      have:=s1.1 y hy
      omega
    · obtain ⟨y, hy, rfl⟩ := List.mem_map.1 (show x ∈ a.ms.map Int.toNat from hx)
      have:=s2.1 y hy
      show y.toNat<a.n.toNat
      omega
    · show (a.es.map _).Pairwise _
      rw[List.pairwise_map]
      have hp:a.es.Pairwise fun x y=>x.fr<y.fr\/x.fr=y.fr/\x.ev<y.ev:=Ql1 (fun a b c h1 h2=>by omega) fun i x y hx hy=>by
        have:=(he (i+1) y hy).2 x (by omega) (by simpa using hx)
        omega
      refine hp.imp_of_mem fun{x y} hx hy hxy=>?_
      have q1:=hem x hx
      have q2:=hem y hy
      have q3:=hev x hx
      have q4:=hev y hy
      show x.fr.toNat<y.fr.toNat\/x.fr.toNat=y.fr.toNat/\x.ev.toNat<y.ev.toNat
      omega
    · obtain ⟨y, hy, rfl⟩ := List.mem_map.1 (show e ∈ a.es.map _ from hx)
      have q:=hem y hy
      show y.fr.toNat<a.n.toNat/\y.to.toNat<a.n.toNat
      omega
    · obtain ⟨y, hy, rfl⟩ := List.mem_map.1 (show e ∈ a.es.map _ from hx)
      exact List.mem_map.2 ⟨y.ev,(hem y hy).2.2.2.2,rfl⟩
end Go.AM.SO
namespace Go.AM.EC
open Go.Proofs
set_option maxHeartbeats 4000000
noncomputable section
def cf:YA.Cf:={most:= .pure,always:=[22,23].map fun k=>(k,.heap)}
def s3:SFn:=by
 refine(?f:YA.Yt Try.prog cf 3 [[0,1,4],[15,16,17,18,19,20,21,22,23,24,25,26,27,28,29,30,31,32,33,34,35,36,37,38,39,40,41,42,43,44,45,46,47,48,49,50],[2,3,51,52],[4,51,53,54],[55],[56,57,58,59,60,61],[56,62],[63,64,65,66],[63,67,68,69,70,71,72,73],[2,3,5,74],[4,74,76,77,78,79,80,81,75,82,83],[85,86,87,88,89,90,84,91,92],[94,95,96,97,98,99,93,100,101],[103,104,105,106,107,108,102,109,110],[111],[2,3,5,6,7,8,9,10,11,12,13,112,113,114,115,116,117,118,119,120,121,122,123,124,125,126,127,128,129,130,131,132,133,134,135,136,137,138,139,140,141,142,143,144,145,146,147,148],[4,5,12,112,149,150,151,152,153,154],[2,3,6,7,8,9,10,11,13,14,155,156,157,158,159,160,161,162,163,164,165,166,167,168,169,170,171,172,173,174,175,176,177,178,179,180,181,182,183,184,185,186,187,188,189,190]]) ?s ?h
 case h=>exact YA.rr
 exact fun s _=>s
def s5:SFn:=by
 refine(?f:YA.Yt Try.prog cf 5 [[0,2],[7,8,9],[10],[1,3,11,12],[2,3,11,13,14],[1,15],[2,15,16,17],[1,18],[2,18,19,20,21,22,23],[24],[1,4,25,26],[2,4,25],[27,28,29,30],[31,34,35,36,37,38],[39,40,41,42,48,49,53,54],[1,5,103,80,102,91,101,93,100,99,98,95,97,96,94,92,90,82,89,88,87,84,86,85,83,81,79,71,78,77,76,73,75,74,72,70,59,56,58,57,55,52,51,50,47,44,46,45,43,6,60],[2,60,61,62,63,64,65],[1,5,103,80,102,91,101,93,100,99,98,95,97,96,94,92,90,82,89,88,87,84,86,85,83,81,79,71,78,77,76,73,75,74,72,70,59,56,58,57,55,52,51,50,47,44,46,45,43,6,66],[2,6,66,67,68,69],[1,5,103,80,102,91,101,93,100,99,98,95,97,96,94,92,90,82,89,88,87,84,86,85,83,81,79,71,78,77,76,73,75,74,72,70,59,56,58,57,55,52,51,50,47,44,46,45,43,104],[2,104,32,33],[1,5,103,80,102,91,101,93,100,99,98,95,97,96,94,92,90,82,89,88,87,84,86,85,83,81,79,71,78,77,76,73,75,74,72,70,59,56,58,57,55,52,51,50,47,44,46,45,43]]) ?s ?h
 case h=>exact YA.rr
 exact fun s _=>s
def s6:SFn:=by
 refine(?f:YA.Yt Try.prog cf 6 [[4],[],[6,7,8],[9,12,13,14,15,16,17],[0,1,5,37,31,36,35,32,34,33,30,28,29,23,21,22,20,18,19,24],[4,24,25,26,27],[0,1,5,37,31,36,35,32,34,33,30,28,29,23,21,22,20,18,19,38],[4,38,10,11],[0,1,5,37,31,36,35,32,34,33,30,28,29,23,21,22,20,18,19]]) ?s ?h
 case h=>exact YA.rr
 exact fun s _=>s
def s7:SFn:=by
 refine(?f:YA.Yt Try.prog cf 7 [[0,6],[9,10],[11],[1,2,3,7,12,13],[6,1,3,7,12,14,15,16,17],[18],[2,8,19,20],[2,8,19,21,22]]) ?s ?h
 case h=>exact YA.rr
 exact fun s _=>s
def s8:SFn:=by
 refine(?f:YA.Yt Try.prog cf 8 [[0,6,7],[1,2,3,11,12,13,14,10,15,16],[8,9,17,18,19,20]]) ?s ?h
 case h=>exact YA.rr
 exact fun s _=>s
def s9:SFn:=by
 refine(?f:YA.Yt Try.prog cf 9 [[0,7],[9,10,11,12],[13],[1,2,3,8,14,15,16],[1,2,3,8,14,17,18,19,20]]) ?s ?h
 case h=>exact YA.rr
 exact fun s _=>s
def s10:SFn:=by
 refine(?f:YA.Yt Try.prog cf 10 [[0,7],[9,10,11,12],[13],[1,2,3,8,14,15,16],[1,2,3,8,14,17,18,19,20]]) ?s ?h
 case h=>exact YA.rr
 exact fun s _=>s
def s11:SFn:=by
 refine(?f:YA.Yt Try.prog cf 11 [[0,8,9],[11,12,13,14],[15],[1,2,3,4,10,16,17],[8,9,10,16,18],[1,2,3,4,19],[1,2,3,4,19,20,21,22,23,24,25]]) ?s ?h
 case h=>exact YA.rr
 exact fun s _=>s
def s12:SFn:=by
 refine(?f:YA.Yt Try.prog cf 12 [[0,2],[1,3,4,5,6,7,8,9,10,11,12,13,14,15,16,17,18,19,20,21,22,23,24,25,26,27,28,29,30,31,32,33,34,35,36,37,38]]) ?s ?h
 case h=>exact YA.rr
 exact fun s _=>s
def s18:SFn:=by
 refine(?f:YA.Yt Try.prog cf 18 [[4],[],[6,7,8],[9,12,13,14,15,16],[0,1,5,17],[4,17,10,11],[0,1,5]]) ?s ?h
 case h=>exact YA.rr
 exact fun s _=>s
theorem ok3:okFn Try.prog 3 s3=true:=by kernel_rfl
theorem ok5:okFn Try.prog 5 s5=true:=by kernel_rfl
theorem ok6:okFn Try.prog 6 s6=true:=by kernel_rfl
theorem ok7:okFn Try.prog 7 s7=true:=by kernel_rfl
theorem ok8:okFn Try.prog 8 s8=true:=by kernel_rfl
theorem ok9:okFn Try.prog 9 s9=true:=by kernel_rfl
theorem ok10:okFn Try.prog 10 s10=true:=by kernel_rfl
theorem ok11:okFn Try.prog 11 s11=true:=by kernel_rfl
theorem ok12:okFn Try.prog 12 s12=true:=by kernel_rfl
theorem ok18:okFn Try.prog 18 s18=true:=by kernel_rfl
end
end Go.AM.EC
namespace Go.AM.SE
open Go.Proofs Go.AM.SD
theorem list6 (l : List Int) (n : Int) (hl : l.length <= 9223372036854775807) : PSpec Try.prog 6 [sli l, .int .i64 n] (.int .i64 (setErr l n)) := by
  refine PSpec.QaI 64 EC.ok6 rfl (by(try simp only[noRefs,Qae,Qag,Qaa,Qaf,Qac,Qad,Qab,noRef,Bool.and_self,Bool.and_true])<;>rfl) rfl ?_
  simp(disch:=first|omega|exact PairsOK.mk rfl|(simp only[lenW]<;>omega)) only[EC.s6,wW,wV,simprocAttr]
  refine Qa0 100 (fun i:Nat=>[(0,sli l),(1,.int .i64 n),(5,.int .i64 i)]) (fun _=>[]) (fun i=>i<=l.length/\∀j,j<i->setE l n j=0) (fun i=>l.length-i) 0 ⟨[],rfl,au0,au1,au2⟩ ⟨Nat.zero_le _,fun j hj=>absurd hj (Nat.not_lt_zero _)⟩ ?_
  rintro i ⟨hi,hb⟩
  by_cases hlt:i<l.length
  · obtain ⟨x, hx⟩ := Qax hlt
    have hgx:l.getD i 0=x:=Qa8 hx
    by_cases h1:x<0
    · simp (disch := first | omega | exact PairsOK.mk rfl | (simp only [lenW] <;> omega)) only [hlt, Qas hx, h1, wW, wV, simprocAttr]
      exact⟨.inr trivial,_,rfl,by rw[setErr,fe_at (e:=2) (by unfold setE;rw[hgx,if_pos (.inl h1)]) (by decide) hb hlt];rfl⟩
    by_cases h2:n<=x
    · simp (disch := first | omega | exact PairsOK.mk rfl | (simp only [lenW] <;> omega)) only [hlt, Qas hx, h1, h2, wW, wV, simprocAttr]
      exact⟨.inr trivial,_,rfl,by rw[setErr,fe_at (e:=2) (by unfold setE;rw[hgx,if_pos (.inr h2)]) (by decide) hb hlt];rfl⟩
    have h12:¬(x<0\/n<=x):=by omega
    by_cases h0:i=0
    · have h4 : ¬ (0 : Int) < (i : Int) := by omega
      simp(disch:=first|omega|exact PairsOK.mk rfl|(simp only[lenW]<;>omega)) only[hlt,Qas hx,h1,h2,h4,wW,wV,simprocAttr]
      exact⟨i+1,by omega,⟨by omega,fe_up hb (by unfold setE;rw[hgx,if_neg h12,if_neg (by omega)])⟩,⟨[],rfl,au0,au1,au2⟩⟩
    · obtain ⟨y, hy⟩ := Qax (l := l) (i := i - 1) (by omega)
      have hgy:l.getD (i-1) 0=y:=Qa8 hy
      have h4:(0:Int)<(i:Int):=by omega
      have h5:(i:Int)-1=((i-1:Nat):Int):=by omega
      have h6:((i-1:Nat):Int)<l.length:=by omega
      by_cases h3:x<=y
      · simp (disch := first | omega | exact PairsOK.mk rfl | (simp only [lenW] <;> omega)) only [hlt, Qas hx, h1, h2, h4, h5, h6, Qas hy, h3, wW, wV, simprocAttr]
        exact⟨.inr trivial,_,rfl,by rw[setErr,fe_at (e:=5) (by unfold setE;rw[hgx,hgy,if_neg h12,if_pos ⟨by omega,h3⟩]) (by decide) hb hlt];rfl⟩
      · simp (disch := first | omega | exact PairsOK.mk rfl | (simp only [lenW] <;> omega)) only [hlt, Qas hx, h1, h2, h4, h5, h6, Qas hy, h3, wW, wV, simprocAttr]
        exact⟨i+1,by omega,⟨by omega,fe_up hb (by unfold setE;rw[hgx,hgy,if_neg h12,if_neg (by omega)])⟩,⟨[],rfl,au0,au1,au2⟩⟩
  · simp (disch := first | omega | exact PairsOK.mk rfl | (simp only [lenW] <;> omega)) only [hlt, wW, wV, simprocAttr]
    exact⟨.inr trivial,_,rfl,by rw[setErr,Qcq fun j hj=>hb j (by omega)];rfl⟩
theorem has18 (l:List Int) (x:Int) (hl:l.length<=9223372036854775807):PSpec Try.prog 18 [sli l,.int .i64 x] (.bool (decide (x∈l))):=by
  refine PSpec.QaI 64 EC.ok18 rfl (by(try simp only[noRefs,Qae,Qag,Qaa,Qaf,Qac,Qad,Qab,noRef,Bool.and_self,Bool.and_true])<;>rfl) rfl ?_
  simp(disch:=first|omega|exact PairsOK.mk rfl|(simp only[lenW]<;>omega)) only[EC.s18,wW,wV,simprocAttr]
  refine Qa0 100 (fun i:Nat=>[(0,sli l),(1,.int .i64 x),(5,.int .i64 i)]) (fun _=>[]) (fun i=>i<=l.length/\∀(j:Nat) y,j<i->l[j]?=some y->y≠x) (fun i=>l.length-i) 0 ⟨[],rfl,au0,au1,au2⟩ ⟨Nat.zero_le _,fun j y hj=>absurd hj (Nat.not_lt_zero _)⟩ ?_
  rintro i ⟨hi,hb⟩
  by_cases hlt:i<l.length
  · obtain ⟨y, hy⟩ := Qax hlt
    by_cases h1:y=x
    · subst h1
      have hm:=List.mem_of_getElem? hy
      rw[decide_eq_true hm]
      simp(disch:=first|omega|exact PairsOK.mk rfl|(simp only[lenW]<;>omega)) only[hlt,Qas hy,wW,wV,simprocAttr]
      exact⟨.inr trivial,_,rfl,rfl⟩
    · simp (disch := first | omega | exact PairsOK.mk rfl | (simp only [lenW] <;> omega)) only [hlt, Qas hy, h1, wW, wV, simprocAttr]
      refine⟨i+1,by omega,⟨by omega,fun j z hj hz=>?_⟩,⟨[],rfl,au0,au1,au2⟩⟩
      by_cases e:j=i
      · subst e;rw[hy]at hz;cases hz;exact h1
      · exact hb j z (by omega) hz
  · have hm : x ∉ l := fun hm => by
      obtain⟨j,hj,e⟩:=List.getElem_of_mem hm
      exact hb j _ (by omega) (List.getElem?_eq_getElem hj) e
    rw[decide_eq_false hm]
    simp(disch:=first|omega|exact PairsOK.mk rfl|(simp only[lenW]<;>omega)) only[hlt,wW,wV,simprocAttr]
    exact⟨.inr trivial,_,rfl,rfl⟩
theorem check5 (a : Au) (h1 : a.al.length <= 9223372036854775807) (h2 : a.ms.length <= 9223372036854775807) (h3 : a.es.length <= 140737488355328) : PSpec Try.prog 5 [auV a] (.int .i64 (auErr a)) := by
  refine PSpec.QaI 64 EC.ok5 rfl (by(try simp only[noRefs,Qae,Qag,Qaa,Qaf,Qac,Qad,Qab,noRef,Bool.and_self,Bool.and_true])<;>rfl) rfl ?_
  have l1:=list6 a.al 32 h1
  have l2:=list6 a.ms a.n h2
  unfold auErr
  by_cases e1:setErr a.al 32=0
  rotate_left
  · rw [if_pos e1]
    generalize setErr a.al 32=e at*
    simp(disch:=first|omega|exact PairsOK.mk rfl|(simp only[lenW]<;>omega)) only[EC.s5,wW,wV,simprocAttr]
    refine cp l1 ?_
    simp(disch:=first|omega|exact PairsOK.mk rfl|(simp only[lenW]<;>omega)) only[e1,wW,wV,simprocAttr]
    exact⟨.inr trivial,_,rfl,rfl⟩
  rw[if_neg (by simpa using e1)]
  rw[e1]at l1
  by_cases n1:a.n<0
  · rw [if_pos n1]
    simp(disch:=first|omega|exact PairsOK.mk rfl|(simp only[lenW]<;>omega)) only[EC.s5,wW,wV,simprocAttr]
    refine cp l1 ?_
    simp(disch:=first|omega|exact PairsOK.mk rfl|(simp only[lenW]<;>omega)) only[n1,wW,wV,simprocAttr]
    exact⟨.inr trivial,_,rfl,rfl⟩
  rw[if_neg n1]
  by_cases n2:4096<a.n
  · rw [if_pos n2]
    simp(disch:=first|omega|exact PairsOK.mk rfl|(simp only[lenW]<;>omega)) only[EC.s5,wW,wV,simprocAttr]
    refine cp l1 ?_
    simp(disch:=first|omega|exact PairsOK.mk rfl|(simp only[lenW]<;>omega)) only[n1,n2,wW,wV,simprocAttr]
    exact⟨.inr trivial,_,rfl,rfl⟩
  rw[if_neg n2]
  by_cases e2:setErr a.ms a.n=0
  rotate_left
  · rw [if_pos e2]
    generalize setErr a.ms a.n=e at*
    simp(disch:=first|omega|exact PairsOK.mk rfl|(simp only[lenW]<;>omega)) only[EC.s5,wW,wV,simprocAttr]
    refine cp l1 ?_
    simp(disch:=first|omega|exact PairsOK.mk rfl|(simp only[lenW]<;>omega)) only[n1,n2,wW,wV,simprocAttr]
    refine cp l2 ?_
    simp(disch:=first|omega|exact PairsOK.mk rfl|(simp only[lenW]<;>omega)) only[e2,wW,wV,simprocAttr]
    exact⟨.inr trivial,_,rfl,rfl⟩
  rw[if_neg (by simpa using e2)]
  rw[e2]at l2
  simp(disch:=first|omega|exact PairsOK.mk rfl|(simp only[lenW]<;>omega)) only[EC.s5,wW,wV,simprocAttr]
  refine cp l1 ?_
  simp(disch:=first|omega|exact PairsOK.mk rfl|(simp only[lenW]<;>omega)) only[n1,n2,wW,wV,simprocAttr]
  refine cp l2 ?_
  simp(disch:=first|omega|exact PairsOK.mk rfl|(simp only[lenW]<;>omega)) only[wW,wV,simprocAttr]
  refine Qa0 200 (fun i:Nat=>[(1,.ptr 50 0 0),(5,.int .i64 i)]) (fun _=>[(50,.cells 0 [sli a.al,.int .i64 a.n,sli a.ms,egs a.es])]) (fun i=>i<=a.es.length/\∀j,j<i->edgE a j=0) (fun i=>a.es.length-i) 0 ⟨[(50,.blk 64 0)],rfl,au0,au1,au2⟩ ⟨Nat.zero_le _,fun j hj=>absurd hj (Nat.not_lt_zero _)⟩ ?_
  rintro i ⟨hi,hb⟩
  by_cases hlt:i<a.es.length
  · obtain ⟨x, hx⟩ := Qax hlt
    have hgx:a.es.getD i ⟨0,0,0⟩=x:=Qa8 hx
    by_cases f1:x.fr<0
    · simp (disch := first | omega | exact PairsOK.mk rfl | (simp only [lenW] <;> omega)) only [hlt, Qaw hx, f1, wW, wV, simprocAttr]
      exact⟨.inr trivial,_,rfl,by rw[edgErr,fe_at (e:=2) (by unfold edgE;dsimp only;rw[hgx,if_pos (by omega)]) (by decide) hb hlt];rfl⟩
    by_cases f2:a.n<=x.fr
    · simp (disch := first | omega | exact PairsOK.mk rfl | (simp only [lenW] <;> omega)) only [hlt, Qaw hx, f1, f2, wW, wV, simprocAttr]
      exact⟨.inr trivial,_,rfl,by rw[edgErr,fe_at (e:=2) (by unfold edgE;dsimp only;rw[hgx,if_pos (by omega)]) (by decide) hb hlt];rfl⟩
    by_cases t1:x.to<0
    · simp (disch := first | omega | exact PairsOK.mk rfl | (simp only [lenW] <;> omega)) only [hlt, Qaw hx, f1, f2, t1, wW, wV, simprocAttr]
      exact⟨.inr trivial,_,rfl,by rw[edgErr,fe_at (e:=2) (by unfold edgE;dsimp only;rw[hgx,if_pos (by omega)]) (by decide) hb hlt];rfl⟩
    by_cases t2:a.n<=x.to
    · simp (disch := first | omega | exact PairsOK.mk rfl | (simp only [lenW] <;> omega)) only [hlt, Qaw hx, f1, f2, t1, t2, wW, wV, simprocAttr]
      exact⟨.inr trivial,_,rfl,by rw[edgErr,fe_at (e:=2) (by unfold edgE;dsimp only;rw[hgx,if_pos (by omega)]) (by decide) hb hlt];rfl⟩
    have hc:=has18 a.al x.ev h1
    simp(disch:=first|omega|exact PairsOK.mk rfl|(simp only[lenW]<;>omega)) only[hlt,Qaw hx,f1,f2,t1,t2,wW,wV,simprocAttr]
    refine cp hc ?_
    by_cases hev:x.ev∈a.al
    · rw [decide_eq_true hev]
      by_cases h0:i=0
      · have h4 : ¬ (0 : Int) < (i : Int) := by omega
        simp(disch:=first|omega|exact PairsOK.mk rfl|(simp only[lenW]<;>omega)) only[hlt,Qaw hx,h4,wW,wV,simprocAttr]
        exact⟨i+1,by omega,⟨by omega,fe_up hb (by unfold edgE;dsimp only;rw[hgx,if_neg (by omega),if_neg (by simpa using hev),if_neg (by omega)])⟩,⟨[(50,.blk 50 0)],rfl,au0,au1,au2⟩⟩
      · obtain ⟨y, hy⟩ := Qax (l := a.es) (i := i - 1) (by omega)
        have hgy:a.es.getD (i-1) ⟨0,0,0⟩=y:=Qa8 hy
        have h4:(0:Int)<(i:Int):=by omega
        have h5:(i:Int)-1=((i-1:Nat):Int):=by omega
        have h6:((i-1:Nat):Int)<a.es.length:=by omega
        by_cases g1:x.fr<y.fr
        · simp (disch := first | omega | exact PairsOK.mk rfl | (simp only [lenW] <;> omega)) only [hlt, Qaw hx, h4, h5, h6, Qaw hy, g1, wW, wV, simprocAttr]
          exact⟨.inr trivial,_,rfl,by rw[edgErr,fe_at (e:=5) (by unfold edgE;dsimp only;rw[hgx,hgy,if_neg (by omega),if_neg (by simpa using hev),if_pos (by omega)]) (by decide) hb hlt];rfl⟩
        by_cases g2:x.fr=y.fr
        · by_cases g3 : x.ev <= y.ev
          · simp (disch := first | omega | exact PairsOK.mk rfl | (simp only [lenW] <;> omega)) only [hlt, Qaw hx, h4, h5, h6, Qaw hy, g1, g2, g3, wW, wV, simprocAttr]
            exact⟨.inr trivial,_,rfl,by rw[edgErr,fe_at (e:=5) (by unfold edgE;dsimp only;rw[hgx,hgy,if_neg (by omega),if_neg (by simpa using hev),if_pos (by omega)]) (by decide) hb hlt];rfl⟩
          · simp (disch := first | omega | exact PairsOK.mk rfl | (simp only [lenW] <;> omega)) only [hlt, Qaw hx, h4, h5, h6, Qaw hy, g1, g2, g3, wW, wV, simprocAttr]
            exact⟨i+1,by omega,⟨by omega,fe_up hb (by unfold edgE;dsimp only;rw[hgx,hgy,if_neg (by omega),if_neg (by simpa using hev),if_neg (by omega)])⟩,⟨[(50,.blk 50 0)],rfl,au0,au1,au2⟩⟩
        · simp (disch := first | omega | exact PairsOK.mk rfl | (simp only [lenW] <;> omega)) only [hlt, Qaw hx, h4, h5, h6, Qaw hy, g1, g2, wW, wV, simprocAttr]
          exact⟨i+1,by omega,⟨by omega,fe_up hb (by unfold edgE;dsimp only;rw[hgx,hgy,if_neg (by omega),if_neg (by simpa using hev),if_neg (by omega)])⟩,⟨[(50,.blk 50 0)],rfl,au0,au1,au2⟩⟩
    · rw [decide_eq_false hev]
      simp(disch:=first|omega|exact PairsOK.mk rfl|(simp only[lenW]<;>omega)) only[hlt,Qaw hx,wW,wV,simprocAttr]
      exact⟨.inr trivial,_,rfl,by rw[edgErr,fe_at (e:=9) (by unfold edgE;dsimp only;rw[hgx,if_neg (by omega),if_pos hev]) (by decide) hb hlt];rfl⟩
  · simp (disch := first | omega | exact PairsOK.mk rfl | (simp only [lenW] <;> omega)) only [hlt, wW, wV, simprocAttr]
    exact⟨.inr trivial,_,rfl,by rw[edgErr,Qcq fun j hj=>hb j (by omega)];rfl⟩
def qErr (a:Au) (f u:List Int):Int:=if auErr a≠0 then auErr a else if setErr f a.n≠0 then setErr f a.n else setErr u 32
theorem check7X (a:Au) (f u:List Int) (h1:a.al.length<=9223372036854775807) (h2:a.ms.length<=9223372036854775807) (h3:a.es.length<=140737488355328) (hf:f.length<=9223372036854775807) (hu:u.length<=9223372036854775807):
  PSpec Try.prog 7 [auV a,sli f,sli u] (.int .i64 (qErr a f u)):=by
 refine PSpec.QaI 64 EC.ok7 rfl (by(try simp only[noRefs,Qae,Qag,Qaa,Qaf,Qac,Qad,Qab,noRef,Bool.and_self,Bool.and_true])<;>rfl) rfl ?_
 have c1:=check37X a h1 h2 h3
 have c2:=set38X f a.n hf
 have c3:=set38X u 32 hu
 unfold qErr
 by_cases e1:auErr a=0
 rotate_left
 ·rw [if_pos e1]
  generalize auErr a=e at*
  simp(disch:=first|omega|exact PairsOK.mk rfl|(simp only[lenW]<;>omega)) only[EC.s7,wW,wV,simprocAttr]
  refine cp c1 ?_
  simp(disch:=first|omega|exact PairsOK.mk rfl|(simp only[lenW]<;>omega)) only[e1,wW,wV,simprocAttr]
  exact⟨.inr trivial,_,rfl,rfl⟩
 rw[if_neg (by simpa using e1)]
 rw[e1]at c1
 by_cases e2:setErr f a.n=0
 rotate_left
 ·rw [if_pos e2]
  generalize setErr f a.n=e at*
  simp(disch:=first|omega|exact PairsOK.mk rfl|(simp only[lenW]<;>omega)) only[EC.s7,wW,wV,simprocAttr]
  refine cp c1 ?_
  simp(disch:=first|omega|exact PairsOK.mk rfl|(simp only[lenW]<;>omega)) only[wW,wV,simprocAttr]
  refine cp c2 ?_
  simp(disch:=first|omega|exact PairsOK.mk rfl|(simp only[lenW]<;>omega)) only[e2,wW,wV,simprocAttr]
  exact⟨.inr trivial,_,rfl,rfl⟩
 rw[if_neg (by simpa using e2)]
 rw[e2]at c2
 simp(disch:=first|omega|exact PairsOK.mk rfl|(simp only[lenW]<;>omega)) only[EC.s7,wW,wV,simprocAttr]
 refine cp c1 ?_
 simp(disch:=first|omega|exact PairsOK.mk rfl|(simp only[lenW]<;>omega)) only[wW,wV,simprocAttr]
 refine cp c2 ?_
 simp(disch:=first|omega|exact PairsOK.mk rfl|(simp only[lenW]<;>omega)) only[wW,wV,simprocAttr]
 refine cp c3 ?_
 simp(disch:=first|omega|exact PairsOK.mk rfl|(simp only[lenW]<;>omega)) only[wW,wV,simprocAttr]
 exact⟨.inr trivial,_,rfl,rfl⟩
abbrev rsN9:AV:= .agg [.nilsl,.nilsl,.nilsl,.int .i64 0,.nilsl,.int .i64 0,.nilsl,.nilsl,.nilsl]
section
variable (a:Au) (f u:List Int) (e:Int) (he:e≠0) (hc:PSpec Try.prog 7 [auV a,sli f,sli u] (.int .i64 e))
include he hc
theorem synth9X:PSpec Try.prog 9 [auV a,sli f,sli u] (.tup [rsN9,.int .i64 e]):=by
 refine PSpec.QaI 64 EC.ok9 rfl (by(try simp only[noRefs,Qae,Qag,Qaa,Qaf,Qac,Qad,Qab,noRef,Bool.and_self,Bool.and_true])<;>rfl) rfl ?_
 simp(disch:=first|omega|exact PairsOK.mk rfl|(simp only[lenW]<;>omega)) only[EC.s9,wW,wV,simprocAttr]
 refine cp hc ?_
 simp(disch:=first|omega|exact PairsOK.mk rfl|(simp only[lenW]<;>omega)) only[he,wW,wV,simprocAttr]
 exact⟨.inr trivial,_,rfl,rfl⟩
theorem closed10X:PSpec Try.prog 10 [auV a,sli f,sli u] (.tup [rsN9,.int .i64 e]):=by
 refine PSpec.QaI 64 EC.ok10 rfl (by(try simp only[noRefs,Qae,Qag,Qaa,Qaf,Qac,Qad,Qab,noRef,Bool.and_self,Bool.and_true])<;>rfl) rfl ?_
 simp(disch:=first|omega|exact PairsOK.mk rfl|(simp only[lenW]<;>omega)) only[EC.s10,wW,wV,simprocAttr]
 refine cp hc ?_
 simp(disch:=first|omega|exact PairsOK.mk rfl|(simp only[lenW]<;>omega)) only[he,wW,wV,simprocAttr]
 exact⟨.inr trivial,_,rfl,rfl⟩
theorem kept8X:PSpec Try.prog 8 [auV a,sli f,sli u] (.tup [.nilsl,.int .i64 e]):=by
 refine PSpec.QaI 64 EC.ok8 rfl (by(try simp only[noRefs,Qae,Qag,Qaa,Qaf,Qac,Qad,Qab,noRef,Bool.and_self,Bool.and_true])<;>rfl) rfl ?_
 have h9:=synth9X a f u e he hc
 simp(disch:=first|omega|exact PairsOK.mk rfl|(simp only[lenW]<;>omega)) only[EC.s8,wW,wV,simprocAttr]
 refine cp h9 ?_
 simp(disch:=first|omega|exact PairsOK.mk rfl|(simp only[lenW]<;>omega)) only[wW,wV,simprocAttr]
 exact⟨.inr trivial,_,rfl,rfl⟩
theorem next11X (r:Int):PSpec Try.prog 11 [auV a,sli f,sli u,.int .i64 r] (.tup [.nilsl,.int .i64 e]):=by
 refine PSpec.QaI 64 EC.ok11 rfl (by(try simp only[noRefs,Qae,Qag,Qaa,Qaf,Qac,Qad,Qab,noRef,Bool.and_self,Bool.and_true])<;>rfl) rfl ?_
 simp(disch:=first|omega|exact PairsOK.mk rfl|(simp only[lenW]<;>omega)) only[EC.s11,wW,wV,simprocAttr]
 refine cp hc ?_
 simp(disch:=first|omega|exact PairsOK.mk rfl|(simp only[lenW]<;>omega)) only[he,wW,wV,simprocAttr]
 exact⟨.inr trivial,_,rfl,rfl⟩
end
theorem none12X:PSpec Try.prog 12 [rsN9] (.bool true):=by
 refine PSpec.QaI 64 EC.ok12 rfl rfl rfl ?_
 simp(disch:=first|omega|exact PairsOK.mk rfl|(simp only[lenW]<;>omega)) only[EC.s12,wW,wV,simprocAttr]
 exact⟨.inr trivial,_,rfl,rfl⟩
theorem Next11 (a:Aut) (f u:List Nat) (rank:Int) (h:WfA a) (hq:QOk a f u) (hc:PSpec Try.prog 7 [aV a,sliN f,sliN u] (.int .i64 0)) (hr:1<=rank):
  PSpec Try.prog 11 [aV a,sliN f,sliN u,.int .i64 rank] (.tup [rms (pNext a.n a.es a.ms (lf (left0 a.n f)) u rank true),.int .i64 0]):=by
 refine PSpec.of_rn 64 EC.ok11 rfl (by(try simp only[noRefs,Qae,Qag,Qaa,Qaf,Qac,Qad,Qab,noRef,Bool.and_self,Bool.and_true])<;>rfl) (by simp only[noRef,noRefs,Qad];rfl) ?_
 have h1:=Qa1 hq.fS hq.fn
 have h2:=Qa1 hq.uS hq.un
 have h3:a.ms.length<=a.n:=QaP a.n a.ms h.nd h.msn
 have hn5:=h.n5
 have hel:=WfA.el1 h
 have hr':¬rank<1:=by omega
 simp(disch:=first|omega|exact PairsOK.mk rfl|(simp only[lenW]<;>omega)) only[EC.s11,wW,wV,simprocAttr]
 refine cp hc ?_
 simp(disch:=first|omega|exact PairsOK.mk rfl|(simp only[lenW]<;>omega)) only[hr',wW,wV,simprocAttr]
 refine ch (HSpec.of_O (b:=70) (by(try simp only[noRefs,Qae,Qag,Qaa,Qaf,Qac,Qad,Qab,noRef,Bool.and_self,Bool.and_true])<;>rfl) (start34 a f u h.esn hq.fn (by omega) (by omega) (by omega)) (by repeat (first|exact Fresh.e|exact Fresh.le (by assumption) (by omega)|refine Fresh.set ?_ (by omega) (by omega))) rfl) ?_
 simp(disch:=first|omega|exact PairsOK.mk rfl|(simp only[lenW]<;>omega)) only[wW,wV,simprocAttr]
 refine ch (HSpec.of_F (FrzL.cons (frzP (a:=a) (u:=u) (l:=left0 a.n f) ?_ ?_ ?_ QbK) (FrzL.cons (FrzTo.same _) (FrzL.cons (FrzTo.same _) FrzL.nil))) (FSpec.Qba (next35 a u (left0 a.n f) rank true h.inN h.nd QbK (by omega) (by omega) (by omega) (by omega)) (by(try simp only[noRefs,Qae,Qag,Qaa,Qaf,Qac,Qad,Qab,noRef,Bool.and_self,Bool.and_true])<;>rfl) (Qgs _) (QbA _) rfl)) ?_
 ·rfl
 ·rfl
 ·rfl
 simp(disch:=first|omega|exact PairsOK.mk rfl|(simp only[lenW]<;>omega)) only[wW,wV,simprocAttr]
 exact⟨.inr trivial,_,rfl,Rn.same (by simp only[noRef,noRefs,Qad];rfl)⟩
end Go.AM.SE
namespace Go.AM.EK
open Go.Proofs
set_option maxHeartbeats 4000000
noncomputable section
def cf:YA.Cf:={}
noncomputable def ft:FT2:=YA.tre Try.prog cf 20 [4,7,9,10,14,16,17,19,20,21,22,23,29,30,31,32,33,34,35,36,37,38,39,40,41,42,43,44,45,46,47,48,49,50,51,52,53,54,55,56,57]
theorem ft_ok:ft.OK Try.prog:=YA.QiM _ _ (YA.QiL (by kernel_rfl))
end
end Go.AM.EK
namespace Go.AM.EK
open Go.Proofs
noncomputable section
def isT:AV->Bool| .bool true=>true|_=>false
theorem Qnt:∀u,isT u=true->u= .bool true:=by
 intro u h
 unfold isT at h
 split at h
 ·rfl
 ·cases h
theorem known4:PSpec Try.prog 4 [] (.bool true):=
 QhD (t:=ft) ft_ok Qmp (d:=100000) isT Qnt (by kernel_rfl)
end
end Go.AM.EK
namespace Go.AM.OD
open Go.Proofs
set_option maxHeartbeats 4000000
noncomputable section
def cf:YA.Cf:={most:= .pure,always:=[26,25].map fun k=>(k,.heap)}
def s26:SFn:=by
 refine(?f:YA.Yt Try.prog cf 26 [[0,4],[11,12,13],[],[14,15,16],[17,20,21,22],[23,24,25,26,27],[32,33,34,35],[32,18,19],[6,31,29,30,28],[8],[36],[],[39,40,41,42],[43,46,47,48,49,50],[51,52,53,54,55,56,62,63,70,71],[10,80,81,82,83,84,85],[10,80,44,45],[9,37,38],[1,2,5,79,76,78,77,75,72,74,73,69,68,67,64,66,65,61,60,57,59,58,7,8,86]]) ?s ?h
 case h=>exact YA.rr
 exact fun s _=>s
def s15:SFn:=by
 refine(?f:YA.Yt Try.prog cf 15 [[0,1,4],[2,3,5,6,7,8,9,10,11,12,13,14,15,16,17,18,19,20,21,22,23,24,25,26,27,28,29,30,31,32,33,34,35,36,37,38,39,40,41,42,43,44,45,46,47,48,49,50]]) ?s ?h
 case h=>exact YA.rr
 exact fun s _=>s
def s13:SFn:=by
 refine(?f:YA.Yt Try.prog cf 13 [[0],[],[18,19,20],[21,22,23],[],[24,25,26],[27,30,31,32,33,34,35,36],[37,38,39,40,41],[42,43,44,45],[46,47],[46,28,29],[1,12],[50,51,52,53,54,55],[56,57],[58],[59,60,61],[62,65,66,67,68,69,70,71,72,73,74,75,76,77,78,79,80,81,82],[63,64],[14,15,83,84],[48,49],[2,3,13,85,86,87],[],[88,89,90],[91,94,95,96],[97,98,99,100,101,102,103,104,105,106,107,108,109,110,111,112,113,114,115,116],[97,117,118,119,120,121,122,123,124,125,126,127],[92,93],[4,10,11,16,17,129,130,131,128,132,133,134,135],[9,136]] [(4,[(4,8),(5,8),(4,12),(5,12),(5,13)])]) ?s ?h
 case h=>exact YA.rr
 exact fun s _=>s
def s25:SFn:=by
 refine(?f:YA.Yt Try.prog cf 25 [[0,10],[],[],[17,18,19],[20],[23,24,25,26,27],[33,36,37,38,39,40],[41,42,43,44,45,52,53],[13,14,58,59,60,61,62,63,64,65,66],[14,58,34,35],[13,21,22],[2,4,12,57,54,56,55,51,50,49,46,48,47,32,28,31,30,29,71,67,68,69,70],[1,3,5,11,92,91,90,88,89,72,73],[10,72,74,75,76],[],[77,78,79],[80,83,84,85,86,87],[93,94,95,96,97,98,99],[93,81,82],[1,3,5,11,92,91,90,88,89,15,16,100]]) ?s ?h
 case h=>exact YA.rr
 exact fun s _=>s
def s27:SFn:=by
 refine(?f:YA.Yt Try.prog cf 27 [[0,5],[12,13,14],[],[15,16,17,18,19,20,21],[22,23,24,25],[22],[26,27,28],[29,32,33,34,35,36,37],[38,39,40,41,42,43,44],[38],[45,46,47,48],[49,52,53,54,55,56],[57,58,59,60,61,62,63,64],[71],[72,73,74,75,76],[84,85,86],[87,88,89],[90,91,92,93,94,95],[10,11,90,96,97,98,99,100,101,102,103,104,105],[50,51],[9,30,31],[1,2,8,83,80,82,81,79,77,78,70,69,68,65,67,66,106,107,108],[6,7,109,110]]) ?s ?h
 case h=>exact YA.rr
 exact fun s _=>s
theorem ok26:okFn Try.prog 26 s26=true:=by kernel_rfl
theorem ok15:okFn Try.prog 15 s15=true:=by kernel_rfl
theorem ok13:okFn Try.prog 13 s13=true:=by kernel_rfl
theorem ok25:okFn Try.prog 25 s25=true:=by kernel_rfl
theorem ok27:okFn Try.prog 27 s27=true:=by kernel_rfl
end
end Go.AM.OD
namespace Go.AM.SE
open Go.Proofs Go.AM.SD Go.AM.OD
abbrev blF (l:LB) (n:Nat):AV:= .fsl (bls l) n 1
def o0P (n:Nat) (mk:List Nat) (left:Nat->Bool) (i:Nat):List Int:=(List.range i).map (fun i=>if left i&&mk.contains i then 0 else-1)++List.replicate (n-i) 0
theorem QmY {n:Nat} {mk:List Nat} {left:Nat->Bool} {i:Nat} (h:i<=n):(o0P n mk left i).length=n:=by unfold o0P;simp;omega
theorem QmZ {n:Nat} {mk:List Nat} {left:Nat->Bool} {i:Nat} (h:i<n):(o0P n mk left i).set i (if left i&&mk.contains i then 0 else-1)=o0P n mk left (i+1):=by
 unfold o0P
 rw[List.set_append_right _ _ (by simp),List.length_map,List.length_range,Nat.sub_self,show n-i=(n-(i+1))+1 by omega,List.replicate_succ,List.set_cons_zero,List.range_succ,List.map_append,List.append_assoc];rfl
theorem Qm0 {n:Nat} {mk:List Nat} {left:Nat->Bool}:o0P n mk left n=o0 n mk left:=by unfold o0P o0;simp
theorem Qmv {es:List Ed} {left:Nat->Bool} {r i:Nat} {o:List Int} {e:Ed} (h:es[i]?=some e):rRd (es.take (i+1)) left r o=rEd left r (rRd (es.take i) left r o) e:=by
 unfold rRd
 rw[List.take_add_one,h,Option.toList,List.foldl_append];rfl
theorem Qgv {left:Nat->Bool} {r:Nat} (es:List Ed) (o:List Int):(rRd es left r o).1.length=o.length:=by
 have key:∀(es:List Ed) (s:List Int×Bool),(es.foldl (rEd left r) s).1.length=s.1.length:=by
  intro es
  induction es with
  |nil=>intro s;rfl
  |cons e es ih=>
   intro s
   rw[List.foldl_cons,ih]
   unfold rEd;split<;>simp
 exact key es _
theorem Qm1 {n:Nat} {o:List Int}:cntN n o<=n:=by unfold cntN;exact Nat.le_trans List.countP_le_length (by simp)
theorem dist33 (a : Aut) (l : LB) (hin : InN a.n a.es a.ms) (hl : l.length = a.n) (hn : a.n <= 4096) (hel : a.es.length <= 1000000) (hml : a.ms.length <= 1000000) :
    HSpec Try.prog 26 [aV a,blF l a.n] .e (.sl 84 0 0 a.n 1) (hp [(84,.cells 0 (ints (rDist a.es (lf l) (a.n+1) 1 (o0 a.n a.ms (lf l)))))]):=by
  refine HSpec.Qba 100 ok26 rfl ?_
  have hn':(a.n:Int)<=140737488355328:=by omega
  have hn8:(8:Int)*a.n<=140737488355328:=by omega
  simp(disch:=first|omega|exact PairsOK.mk rfl|(simp only[lenW]<;>omega)) only[s26,hn',hn8,QiQ,wW,wV,simprocAttr]
  refine Qay 120 (fun i:Nat=>[(1,blF l a.n),(2,.ptr 50 0 0),(5,.sl 84 0 0 a.n 1),(6,.int .i64 i)])
    (fun i=>[(50,.cells 0 [sliN a.al,.int .i64 (a.n:Int),sliN a.ms,egsN a.es]),(84,.cells 0 (ints (o0P a.n a.ms (lf l) i)))])
    (fun i=>i<=a.n) (fun i=>a.n-i) 0 0 160
    (fun _:Unit=>[(1,blF l a.n),(2,.ptr 50 0 0),(5,.sl 84 0 0 a.n 1)])
    (fun _=>[(50,.cells 0 [sliN a.al,.int .i64 (a.n:Int),sliN a.ms,egsN a.es]),(84,.cells 0 (ints (o0 a.n a.ms (lf l))))]) (fun _=>True) ?_ (Nat.zero_le _) ?_ ?_
  · have e : List.replicate a.n (0 : Int) = o0P a.n a.ms (lf l) 0 := by simp [o0P]
    rw[e]
    exact⟨[(50,.blk 100 0),(84,.blk 104 0)],rfl,au0,au9,au10⟩
  · rintro i hi
    by_cases hlt:i<a.n
    · have hil : i < l.length := by omega
      have hol:=QmY (mk:=a.ms) (left:=lf l) hi
      have hst:=QmZ (mk:=a.ms) (left:=lf l) hlt
      generalize o0P a.n a.ms (lf l) i=o at*
      have h1:i+1<=o.length:=by omega
      have hss:(o.set i (-1)).set i 0=o.set i 0:=by rw[List.set_set]
      by_cases hli:lf l i=true
      · have hh := has15 (nz a.ms) i (by simp; omega)
        rw[Qc7,Qbb]at hh
        by_cases hc:a.ms.contains i=true
        · rw [hli, hc, if_pos (by rfl)] at hst
          rw[hc]at hh
          simp(disch:=first|omega|exact PairsOK.mk rfl|(simp only[lenW]<;>omega)) only[hlt,h1,Qby,Qaq hil,hli,wW,wV,simprocAttr]
          refine cp hh ?_
          simp(disch:=first|omega|exact PairsOK.mk rfl|(simp only[lenW]<;>omega)) only[hlt,h1,Qby,hss,List.length_set,wW,wV,simprocAttr]
          refine⟨i+1,by omega,by omega,?_⟩
          rw[<-hst]
          exact⟨[(50,.blk 50 0),(84,.blk 84 0)],rfl,au0,au9,au10⟩
        · rw [Bool.not_eq_true] at hc
          rw[hli,hc,if_neg (by decide)]at hst
          rw[hc]at hh
          simp(disch:=first|omega|exact PairsOK.mk rfl|(simp only[lenW]<;>omega)) only[hlt,h1,Qby,Qaq hil,hli,wW,wV,simprocAttr]
          refine cp hh ?_
          simp(disch:=first|omega|exact PairsOK.mk rfl|(simp only[lenW]<;>omega)) only[wW,wV,simprocAttr]
          refine⟨i+1,by omega,by omega,?_⟩
          rw[<-hst]
          exact⟨[(50,.blk 50 0),(84,.blk 84 0)],rfl,au0,au9,au10⟩
      · rw [Bool.not_eq_true] at hli
        rw[hli,Bool.false_and,if_neg (by decide)]at hst
        simp(disch:=first|omega|exact PairsOK.mk rfl|(simp only[lenW]<;>omega)) only[hlt,h1,Qby,Qaq hil,hli,wW,wV,simprocAttr]
        refine⟨i+1,by omega,by omega,?_⟩
        rw[<-hst]
        exact⟨[(50,.blk 50 0),(84,.blk 84 0)],rfl,au0,au9,au10⟩
    · have e : i = a.n := by omega
      subst e
      simp(disch:=first|omega|exact PairsOK.mk rfl|(simp only[lenW]<;>omega)) only[hlt,wW,wV,simprocAttr]
      refine⟨(),?_⟩
      rw[<-Qm0]
      exact⟨[(50,.blk 50 0),(84,.blk 84 0)],rfl,au0,au9,au10⟩
  rintro _ _
  simp(disch:=first|omega|exact PairsOK.mk rfl|(simp only[lenW]<;>omega)) only[wW,wV,simprocAttr]
  have hri:=RI.start (left:=lf l) hin
  have hc0:cntN a.n (o0 a.n a.ms (lf l))<=a.n:=Qm1
  have hes:=fun e he=>hin.1 e he
  generalize o0 a.n a.ms (lf l)=o1 at*
  refine Qay 180 (fun t:Nat×List Int×Bool=>[(1,blF l a.n),(2,.ptr 50 0 0),(5,.sl 84 0 0 a.n 1),(7,.int .i64 ((a.n+2-t.1:Nat):Int)),(8,.bool t.2.2)])
    (fun t=>[(50,.cells 0 [sliN a.al,.int .i64 (a.n:Int),sliN a.ms,egsN a.es]),(84,.cells 0 (ints t.2.1))])
    (fun t=>RI a.n a.es a.ms (lf l) (a.n+2-t.1) t.2.1/\t.1<=a.n+1/\(t.2.2=true->cntN a.n t.2.1<t.1)/\(if t.2.2 then rDist a.es (lf l) t.1 (a.n+2-t.1) t.2.1 else t.2.1)=rDist a.es (lf l) (a.n+1) 1 o1) (fun t=>t.1) (a.n+1,o1,true) 2 200
    (fun _:Unit=>[(5,.sl 84 0 0 a.n 1)])
    (fun _=>[(84,.cells 0 (ints (rDist a.es (lf l) (a.n+1) 1 o1)))]) (fun _=>True) ?_ ?_ ?_ ?_
  · have e : a.n + 2 - (a.n + 1) = 1 := by omega
    dsimp only
    rw[e]
    exact⟨[(50,.blk 50 0),(84,.blk 84 0)],rfl,au0,au9,au10⟩
  · have e : a.n + 2 - (a.n + 1) = 1 := by omega
    dsimp only
    rw[e]
    exact⟨hri,by omega,fun _=>by omega,rfl⟩
  · rintro ⟨k, o, more⟩ ⟨hR, hk, hcn, heq⟩
    dsimp only at hR hk hcn heq⊢
    cases more with
    | false =>
      rw[if_neg (by decide)]at heq
      simp(disch:=first|omega|exact PairsOK.mk rfl|(simp only[lenW]<;>omega)) only[wW,wV,simprocAttr]
      refine⟨(),?_⟩
      rw[<-heq]
      exact⟨[(84,.blk 84 0)],rfl,au0,au9,au10⟩
    | true =>
      rw[if_pos rfl]at heq
      have hck:=hcn rfl
      obtain⟨k,rfl⟩:∃k',k=k'+1:=⟨k-1,by omega⟩
      have er:a.n+2-k=(a.n+2-(k+1))+1:=by omega
      have hr1:1<=a.n+2-(k+1):=by omega
      have hrn:a.n+2-(k+1)<=4097:=by omega
      generalize hrr:a.n+2-(k+1)=r at*
      have hj:=RJ.all hr1 hin hR
      have hnx:=hR.next hr1 hin
      have hmono:∀x,x<a.n->0<=o.getD x 0->0<=(rRd a.es (lf l) r o).1.getD x 0:=fun x hx h0=>by rw[hj.old x hx h0];exact h0
      have hcl:(rRd a.es (lf l) r o).2=true->cntN a.n (rRd a.es (lf l) r o).1<k:=fun hf=>by
        obtain⟨x,hx,h1,h2⟩:=hj.flag hf
        have:=Qk5 hmono hx h1 h2;omega
      rw[rDist]at heq
      have hol:=hR.len
      simp(disch:=first|omega|exact PairsOK.mk rfl|(simp only[lenW]<;>omega)) only[wW,wV,simprocAttr]
      refine Qay 220 (fun i:Nat=>[(1,blF l a.n),(2,.ptr 50 0 0),(5,.sl 84 0 0 a.n 1),(7,.int .i64 (r:Int)),(8,.bool (rRd (a.es.take i) (lf l) r o).2),(9,.int .i64 i)])
        (fun i=>[(50,.cells 0 [sliN a.al,.int .i64 (a.n:Int),sliN a.ms,egsN a.es]),(84,.cells 0 (ints (rRd (a.es.take i) (lf l) r o).1))])
        (fun i=>i<=a.es.length) (fun i=>a.es.length-i) 0 4 240
        (fun _:Unit=>[(1,blF l a.n),(2,.ptr 50 0 0),(5,.sl 84 0 0 a.n 1),(7,.int .i64 (r:Int)),(8,.bool (rRd a.es (lf l) r o).2)])
        (fun _=>[(50,.cells 0 [sliN a.al,.int .i64 (a.n:Int),sliN a.ms,egsN a.es]),(84,.cells 0 (ints (rRd a.es (lf l) r o).1))]) (fun _=>True) ?_ (Nat.zero_le _) ?_ ?_
      · exact⟨[(50,.blk 50 0),(84,.blk 84 0)],rfl,au0,au9,au10⟩
      · rintro i hi
        by_cases hlt:i<a.es.length
        · obtain ⟨e, he⟩ := Qax hlt
          obtain⟨hfr,hto⟩:=hes e (List.mem_of_getElem? he)
          have hst:=Qmv (left:=lf l) (r:=r) (o:=o) he
          have htl:=Qgv (left:=lf l) (r:=r) (a.es.take i) o
          generalize rRd (a.es.take i) (lf l) r o=t at*
          have hfl:e.1<l.length:=by omega
          have htl2:e.2.2<l.length:=by omega
          have hft:e.1<t.1.length:=by omega
          have htt:e.2.2<t.1.length:=by omega
          by_cases h1:lf l e.1=true
          · by_cases h2 : lf l e.2.2 = true
            · by_cases h3 : t.1.getD e.1 0 < 0
              · by_cases h4 : t.1.getD e.2.2 0 = (r : Int) - 1
                · have hs2 : rEd (lf l) r t e = (t.1.set e.1 (r : Int), true) := by unfold rEd; rw [if_pos (by rw [h1, h2, decide_eq_true h3, decide_eq_true h4]; rfl)]
                  rw[hs2]at hst
                  have hf1:e.1+1<=t.1.length:=by omega
                  simp(disch:=first|omega|exact PairsOK.mk rfl|(simp only[lenW]<;>omega)) only[hlt,QaC he,hfr,hto,Qaq hfl,Qaq htl2,h1,h2,QaO hft,QaO htt,h3,h4,hf1,Qby,wW,wV,simprocAttr]
                  refine⟨i+1,by omega,by omega,?_⟩
                  rw[hst]
                  exact⟨[(50,.blk 50 0),(84,.blk 84 0)],rfl,au0,au9,au10⟩
                · have hs2 : rEd (lf l) r t e = t := by unfold rEd; rw [if_neg (by rw [h1, h2, decide_eq_true h3, decide_eq_false h4]; decide)]
                  rw[hs2]at hst
                  simp(disch:=first|omega|exact PairsOK.mk rfl|(simp only[lenW]<;>omega)) only[hlt,QaC he,hfr,hto,Qaq hfl,Qaq htl2,h1,h2,QaO hft,QaO htt,h3,h4,wW,wV,simprocAttr]
                  refine⟨i+1,by omega,by omega,?_⟩
                  rw[hst]
                  exact⟨[(50,.blk 50 0),(84,.blk 84 0)],rfl,au0,au9,au10⟩
              · have hs2 : rEd (lf l) r t e = t := by unfold rEd; rw [if_neg (by rw [h1, h2, decide_eq_false h3]; simp)]
                rw[hs2]at hst
                simp(disch:=first|omega|exact PairsOK.mk rfl|(simp only[lenW]<;>omega)) only[hlt,QaC he,hfr,hto,Qaq hfl,Qaq htl2,h1,h2,QaO hft,h3,wW,wV,simprocAttr]
                refine⟨i+1,by omega,by omega,?_⟩
                rw[hst]
                exact⟨[(50,.blk 50 0),(84,.blk 84 0)],rfl,au0,au9,au10⟩
            · have hs2 : rEd (lf l) r t e = t := by unfold rEd; rw [if_neg (by simp [h2])]
              rw[hs2]at hst
              rw[Bool.not_eq_true]at h2
              simp(disch:=first|omega|exact PairsOK.mk rfl|(simp only[lenW]<;>omega)) only[hlt,QaC he,hfr,hto,Qaq hfl,Qaq htl2,h1,h2,wW,wV,simprocAttr]
              refine⟨i+1,by omega,by omega,?_⟩
              rw[hst]
              exact⟨[(50,.blk 50 0),(84,.blk 84 0)],rfl,au0,au9,au10⟩
          · have hs2 : rEd (lf l) r t e = t := by unfold rEd; rw [if_neg (by simp [h1])]
            rw[hs2]at hst
            rw[Bool.not_eq_true]at h1
            simp(disch:=first|omega|exact PairsOK.mk rfl|(simp only[lenW]<;>omega)) only[hlt,QaC he,hfr,hto,Qaq hfl,h1,wW,wV,simprocAttr]
            refine⟨i+1,by omega,by omega,?_⟩
            rw[hst]
            exact⟨[(50,.blk 50 0),(84,.blk 84 0)],rfl,au0,au9,au10⟩
        · have e : i = a.es.length := by omega
          subst e
          simp(disch:=first|omega|exact PairsOK.mk rfl|(simp only[lenW]<;>omega)) only[hlt,wW,wV,simprocAttr]
          refine⟨(),?_⟩
          exact⟨[(50,.blk 50 0),(84,.blk 84 0)],rfl,au0,au9,au10⟩
      rintro _ _
      generalize rRd a.es (lf l) r o=t at*
      simp(disch:=first|omega|exact PairsOK.mk rfl|(simp only[lenW]<;>omega)) only[wW,wV,simprocAttr]
      refine⟨(k,t.1,t.2),by dsimp only;omega,?_,?_⟩
      · dsimp only
        rw[er]
        exact⟨hnx,by omega,hcl,heq⟩
      · dsimp only
        rw[er]
        exact⟨[(50,.blk 50 0),(84,.blk 84 0)],rfl,au0,au9,au10⟩
  rintro _ _
  simp(disch:=first|omega|exact PairsOK.mk rfl|(simp only[lenW]<;>omega)) only[wW,wV,simprocAttr]
  exact⟨.inr trivial,_,rfl,⟨[(84,.blk 84 0)],rfl,au0,au9,au10⟩⟩
end Go.AM.SE
namespace Go.AM.SE
open Go.Proofs Go.AM.SD Go.AM.OD
def rLp (left:Nat->Bool) (unc:List Nat) (st:Nat) (e:Ed):Bool:=e.1==st&& !left e.2.2&&unc.contains e.2.1
theorem QkK {n:Nat} {es:List Ed} {left:Nat->Bool} {unc:List Nat}:rLost (n+1) es left unc=rLost n es left unc++(rL1 es left unc n).toList:=by
 unfold rLost
 rw[List.range_succ,List.filterMap_append]
 cases h:rL1 es left unc n<;>simp[h]
theorem Qhu (n:Nat) (es:List Ed) (left:Nat->Bool) (unc:List Nat):(rLost n es left unc).length<=n:=by
 unfold rLost;exact Nat.le_trans (List.length_filterMap_le _ _) (by simp)
theorem QiZ {p:Ed->Bool}:∀{es:List Ed} {j:Nat} {e:Ed},(∀x∈es.take j,p x=false)->es[j]?=some e->p e=true->es.find? p=some e
 |[],_,_,_,h,_=>by simp at h
 |x::es,0,e,_,h,hp=>by
  simp at h;subst h;rw[List.find?_cons,hp]
 |x::es,j+1,e,hn,h,hp=>by
  simp at h
  rw[List.find?_cons,hn x (by simp)]
  exact QiZ (fun y hy=>hn y (by rw[List.take_succ_cons];exact List.mem_cons_of_mem _ hy)) h hp
theorem Qmw {p:Ed->Bool} {es:List Ed} (h:∀x∈es,p x=false):es.find? p=none:=by
 rw[List.find?_eq_none];intro x hx;rw[h x hx];decide
theorem Qev {es:List Ed} {left:Nat->Bool}:∀(k r:Nat) (o:List Int),(rDist es left k r o).length=o.length
 |0,_,_=>rfl
 |k+1,r,o=>by
  rw[rDist];split
  ·rw[Qev k,Qgv]
  ·rw[Qgv]
theorem Qew {p:Ed->Bool} {es:List Ed} {j:Nat} {e:Ed} (h:∀x∈es.take j,p x=false) (he:es[j]?=some e) (hp:p e=false):∀x∈es.take (j+1),p x=false:=by
 intro x hx
 rw[List.take_add_one,he,Option.toList]at hx
 rcases List.mem_append.1 hx with h1|h1
 ·exact h x h1
 ·simp at h1;rw[h1];exact hp
theorem next19 (a : Aut) (u : List Nat) (l : LB) (rank : Int) (closed : Bool) (hin : InN a.n a.es a.ms) (hl : l.length = a.n) (hn : a.n <= 4096) (hel : a.es.length <= 1000000) (hml : a.ms.length <= 1000000) (hul : u.length <= 1000000) :
    HSpec Try.prog 25 [aV a,blF l a.n,sliN u,.int .i64 rank,.bool closed] .e (.sl 85 0 0 (rNext a.n a.es a.ms (lf l) u rank closed).length 4) (hp [(85,.cells 0 ((rNext a.n a.es a.ms (lf l) u rank closed).flatMap rmC))]):=by
  have hd:=dist33 a l hin hl hn hel hml
  have hdl:(rDist a.es (lf l) (a.n+1) 1 (o0 a.n a.ms (lf l))).length=a.n:=by rw[Qev];simp[o0]
  have hlen:(lostF rank (rLost a.n a.es (lf l) u)).length=(rLost a.n a.es (lf l) u).length:=by unfold lostF;rw[List.length_map]
  unfold rNext
  generalize rDist a.es (lf l) (a.n+1) 1 (o0 a.n a.ms (lf l))=d at*
  refine HSpec.Qba 100 ok25 rfl ?_
  have hes:=fun e he=>hin.1 e he
  simp(disch:=first|omega|exact PairsOK.mk rfl|(simp only[lenW]<;>omega)) only[s25,wW,wV,simprocAttr]
  refine Qay 120 (fun i:Nat=>[(1,blF l a.n),(2,sliN u),(3,.int .i64 rank),(4,.bool closed),(5,.ptr 50 0 0),(11,.sl 82 0 0 (rLost i a.es (lf l) u).length 4),(12,.int .i64 i)])
    (fun i=>[(50,.cells 0 [sliN a.al,.int .i64 (a.n:Int),sliN a.ms,egsN a.es]),(82,.cells 0 ((rLost i a.es (lf l) u).flatMap (lsC rank)))])
    (fun i=>i<=a.n) (fun i=>a.n-i) 0 0 160
    (fun _:Unit=>[(1,blF l a.n),(3,.int .i64 rank),(4,.bool closed),(5,.ptr 50 0 0),(11,.sl 82 0 0 (rLost a.n a.es (lf l) u).length 4)])
    (fun _=>[(50,.cells 0 [sliN a.al,.int .i64 (a.n:Int),sliN a.ms,egsN a.es]),(82,.cells 0 ((rLost a.n a.es (lf l) u).flatMap (lsC rank)))]) (fun _=>True) ?_ (Nat.zero_le _) ?_ ?_
  · exact⟨[(50,.blk 100 0),(82,.nil)],rfl,au0,au9,au10⟩
  · rintro i hi
    by_cases hlt:i<a.n
    · have hstep := QkK (n := i) (es := a.es) (left := lf l) (unc := u)
      have hol:=Qhu i a.es (lf l) u
      generalize rLost i a.es (lf l) u=o at*
      have hil:i<l.length:=by omega
      have hll:=QiR rank o
      simp(disch:=first|omega|exact PairsOK.mk rfl|(simp only[lenW]<;>omega)) only[hlt,wW,wV,simprocAttr]
      refine Qay 180 (fun j:Nat=>[(1,blF l a.n),(2,sliN u),(3,.int .i64 rank),(4,.bool closed),(5,.ptr 50 0 0),(11,.sl 82 0 0 o.length 4),(12,.int .i64 i),(13,.int .i64 j)])
        (fun j=>[(50,.cells 0 [sliN a.al,.int .i64 (a.n:Int),sliN a.ms,egsN a.es]),(82,.cells 0 (o.flatMap (lsC rank)))])
        (fun j=>j<=a.es.length/\(lf l i=false->j=0)/\∀x∈a.es.take j,rLp (lf l) u i x=false) (fun j=>a.es.length-j) 0 2 200
        (fun _:Unit=>[(1,blF l a.n),(2,sliN u),(3,.int .i64 rank),(4,.bool closed),(5,.ptr 50 0 0),(11,.sl 82 0 0 (rLost (i+1) a.es (lf l) u).length 4),(12,.int .i64 i)])
        (fun _=>[(50,.cells 0 [sliN a.al,.int .i64 (a.n:Int),sliN a.ms,egsN a.es]),(82,.cells 0 ((rLost (i+1) a.es (lf l) u).flatMap (lsC rank)))]) (fun _=>True) ?_ ⟨Nat.zero_le _,fun _=>rfl,fun x hx=>by simp at hx⟩ ?_ ?_
      · exact⟨[(50,.blk 50 0),(82,.blk 82 0)],rfl,au0,au9,au10⟩
      · rintro j ⟨hj, hj0, hno⟩
        by_cases hli:lf l i=true
        · by_cases hjl : j < a.es.length
          · obtain ⟨e, hee⟩ := Qax hjl
            obtain⟨hfr,hto⟩:=hes e (List.mem_of_getElem? hee)
            have hfl:e.1<l.length:=by omega
            have htl:e.2.2<l.length:=by omega
            have hc:=has15 (nz u) e.2.1 (by simp;omega)
            rw[Qc7,Qbb]at hc
            by_cases h1:e.1=i
            · by_cases h2 : lf l e.2.2 = true
              · skip
                simp(disch:=first|omega|exact PairsOK.mk rfl|(simp only[lenW]<;>omega)) only[hlt,hjl,QaC hee,hfr,hto,Qaq hil,hli,h1,Qaq htl,h2,wW,wV,simprocAttr]
                skip
                refine⟨j+1,by omega,⟨by omega,fun h=>(h:False).elim,Qew hno hee (by unfold rLp;rw[h2];simp)⟩,?_⟩
                exact⟨[(50,.blk 50 0),(82,.blk 82 0)],rfl,au0,au9,au10⟩
              · rw [Bool.not_eq_true] at h2
                by_cases h3:u.contains e.2.1=true
                · rw [h3] at hc
                  have hfi:rL1 a.es (lf l) u i=some (i,e.2.1):=by
                    unfold rL1
                    rw[if_pos hli]
                    have:a.es.find? (rLp (lf l) u i)=some e:=QiZ hno hee (by unfold rLp;rw[h1,h2,h3];simp)
                    have t2:(a.es.find? fun e=>e.1==i&& !lf l e.2.2&&u.contains e.2.1)=some e:=this
                    rw[t2];rfl
                  rw[hfi]at hstep
                  simp(disch:=first|omega|exact PairsOK.mk rfl|(simp only[lenW]<;>omega)) only[hlt,hjl,QaC hee,hfr,hto,Qaq hil,hli,h1,Qaq htl,h2,wW,wV,simprocAttr]
                  refine cp hc ?_
                  simp(disch:=first|omega|exact PairsOK.mk rfl|(simp only[lenW]<;>omega)) only[hll,wW,wV,simprocAttr]
                  refine⟨(),?_⟩
                  rw[hstep,Option.toList,List.flatMap_append,List.length_append]
                  exact⟨[(50,.blk 50 0),(82,.blk 82 1)],rfl,au0,au9,au10⟩
                · rw [Bool.not_eq_true] at h3
                  rw[h3]at hc
                  simp(disch:=first|omega|exact PairsOK.mk rfl|(simp only[lenW]<;>omega)) only[hlt,hjl,QaC hee,hfr,hto,Qaq hil,hli,h1,Qaq htl,h2,wW,wV,simprocAttr]
                  refine cp hc ?_;simp(disch:=first|omega|exact PairsOK.mk rfl|(simp only[lenW]<;>omega)) only[wW,wV,simprocAttr]
                  refine⟨j+1,by omega,⟨by omega,fun h=>(h:False).elim,Qew hno hee (by unfold rLp;rw[h3,Bool.and_false])⟩,?_⟩
                  exact⟨[(50,.blk 50 0),(82,.blk 82 0)],rfl,au0,au9,au10⟩
            · skip
              simp(disch:=first|omega|exact PairsOK.mk rfl|(simp only[lenW]<;>omega)) only[hlt,hjl,QaC hee,hfr,hto,Qaq hil,hli,h1,wW,wV,simprocAttr]
              skip
              refine⟨j+1,by omega,⟨by omega,fun h=>(h:False).elim,Qew hno hee (by simp[rLp,h1])⟩,?_⟩
              exact⟨[(50,.blk 50 0),(82,.blk 82 0)],rfl,au0,au9,au10⟩
          · have e : j = a.es.length := by omega
            subst e
            rw[List.take_length]at hno
            have hfi:rL1 a.es (lf l) u i=none:=by
              unfold rL1
              rw[if_pos hli]
              have t2:(a.es.find? fun e=>e.1==i&& !lf l e.2.2&&u.contains e.2.1)=none:=Qmw (p:=rLp (lf l) u i) hno
              rw[t2];rfl
            rw[hfi,Option.toList,List.append_nil]at hstep
            simp(disch:=first|omega|exact PairsOK.mk rfl|(simp only[lenW]<;>omega)) only[hlt,hjl,Qaq hil,hli,wW,wV,simprocAttr]
            refine⟨(),?_⟩
            rw[hstep]
            exact⟨[(50,.blk 50 0),(82,.blk 82 0)],rfl,au0,au9,au10⟩
        · rw [Bool.not_eq_true] at hli
          have hfi:rL1 a.es (lf l) u i=none:=by unfold rL1;rw[if_neg (by simp[hli])]
          rw[hfi,Option.toList,List.append_nil]at hstep
          simp(disch:=first|omega|exact PairsOK.mk rfl|(simp only[lenW]<;>omega)) only[hlt,Qaq hil,hli,wW,wV,simprocAttr]
          refine⟨(),?_⟩
          rw[hstep]
          exact⟨[(50,.blk 50 0),(82,.blk 82 0)],rfl,au0,au9,au10⟩
      rintro _ _
      simp(disch:=first|omega|exact PairsOK.mk rfl|(simp only[lenW]<;>omega)) only[wW,wV,simprocAttr]
      exact⟨i+1,by omega,by omega,⟨[(50,.blk 50 0),(82,.blk 82 0)],rfl,au0,au9,au10⟩⟩
    · have e : i = a.n := by omega
      subst e
      simp(disch:=first|omega|exact PairsOK.mk rfl|(simp only[lenW]<;>omega)) only[hlt,wW,wV,simprocAttr]
      refine⟨(),?_⟩
      exact⟨[(50,.blk 50 0),(82,.blk 82 0)],rfl,au0,au9,au10⟩
  rintro _ _
  have hol:=Qhu a.n a.es (lf l) u
  by_cases h0:0<(rLost a.n a.es (lf l) u).length
  · rw [if_pos (by simp [h0]), <- ls_rm, hlen]
    generalize rLost a.n a.es (lf l) u=o at*
    simp(disch:=first|omega|exact PairsOK.mk rfl|(simp only[lenW]<;>omega)) only[h0,wW,wV,simprocAttr]
    exact⟨.inr trivial,_,rfl,⟨[(85,.blk 82 0)],rfl,au0,au9,au10⟩⟩
  · cases closed with
    | true =>
      rw[if_pos (by simp),<-ls_rm,hlen]
      generalize rLost a.n a.es (lf l) u=o at*
      simp(disch:=first|omega|exact PairsOK.mk rfl|(simp only[lenW]<;>omega)) only[h0,wW,wV,simprocAttr]
      exact⟨.inr trivial,_,rfl,⟨[(85,.blk 82 0)],rfl,au0,au9,au10⟩⟩
    | false =>
      rw[if_neg (by simp[h0])]
      have h00:rLost a.n a.es (lf l) u=[]:=List.eq_nil_of_length_eq_zero (by omega)
      rw[h00]
      simp(disch:=first|omega|exact PairsOK.mk rfl|(simp only[lenW]<;>omega)) only[h0,wW,wV,simprocAttr]
      refine ch (HSpec.of_O (b:=84) (by(try simp only[noRefs,Qbe,Qae,Qag,Qaa,Qaf,Qac,Qad,Qak,Qab,noRef,Bool.and_self,Bool.and_true])<;>rfl) hd (by repeat (first|exact Fresh.e|exact Fresh.le (by assumption) (by omega)|refine Fresh.set ?_ (by omega) (by omega))) rfl) ?_
      rw[<-bk_rm,Qgr,List.length_map,hdl]
      simp(disch:=first|omega|exact PairsOK.mk rfl|(simp only[lenW]<;>omega)) only[wW,wV,simprocAttr]
      refine Qay 260 (fun i:Nat=>[(1,blF l a.n),(3,.int .i64 rank),(5,.ptr 50 0 0),(11,.sl 85 0 0 (blkP (lf l) d i).length 4),(15,.sl 84 0 0 a.n 1),(16,.int .i64 i)])
        (fun i=>[(50,.cells 0 [sliN a.al,.int .i64 (a.n:Int),sliN a.ms,egsN a.es]),(84,.cells 0 (ints d)),(85,.cells 0 ((blkP (lf l) d i).flatMap (bkC rank)))])
        (fun i=>i<=a.n) (fun i=>a.n-i) 0 4 280
        (fun _:Unit=>[(11,.sl 85 0 0 (blkP (lf l) d a.n).length 4)])
        (fun _=>[(85,.cells 0 ((blkP (lf l) d a.n).flatMap (bkC rank)))]) (fun _=>True) ?_ (Nat.zero_le _) ?_ ?_
      · exact⟨[(50,.blk 50 0),(84,.blk 84 0),(85,.blk 82 0)],rfl,au0,au9,au10⟩
      · rintro i hi
        by_cases hlt:i<a.n
        · have hst := Qhl (left := lf l) (d := d) (i := i)
          have hol:=QiS (lf l) d i
          generalize blkP (lf l) d i=o at*
          have hil:i<l.length:=by omega
          have hid:i<d.length:=by omega
          have hll:=QlR rank o
          by_cases h1:lf l i=true
          · by_cases h2 : d.getD i 0 < 0
            · rw [if_pos (by rw [h1, decide_eq_true h2]; rfl)] at hst
              simp(disch:=first|omega|exact PairsOK.mk rfl|(simp only[lenW]<;>omega)) only[hlt,QaO hid,Qaq hil,h1,h2,hll,wW,wV,simprocAttr]
              refine⟨i+1,by omega,by omega,?_⟩
              rw[hst,List.flatMap_append,List.length_append]
              exact⟨[(50,.blk 50 0),(84,.blk 84 0),(85,.blk 85 1)],rfl,au0,au9,au10⟩
            · rw [if_neg (by rw [h1, decide_eq_false h2]; decide), List.append_nil] at hst
              simp(disch:=first|omega|exact PairsOK.mk rfl|(simp only[lenW]<;>omega)) only[hlt,QaO hid,Qaq hil,h1,h2,wW,wV,simprocAttr]
              refine⟨i+1,by omega,by omega,?_⟩
              rw[hst];exact⟨[(50,.blk 50 0),(84,.blk 84 0),(85,.blk 85 0)],rfl,au0,au9,au10⟩
          · rw [if_neg (by simp [h1]), List.append_nil] at hst
            rw[Bool.not_eq_true]at h1
            simp(disch:=first|omega|exact PairsOK.mk rfl|(simp only[lenW]<;>omega)) only[hlt,Qaq hil,h1,wW,wV,simprocAttr]
            refine⟨i+1,by omega,by omega,?_⟩
            rw[hst];exact⟨[(50,.blk 50 0),(84,.blk 84 0),(85,.blk 85 0)],rfl,au0,au9,au10⟩
        · have e : i = a.n := by omega
          subst e
          simp(disch:=first|omega|exact PairsOK.mk rfl|(simp only[lenW]<;>omega)) only[hlt,wW,wV,simprocAttr]
          refine⟨(),?_⟩
          exact⟨[(85,.blk 85 0)],rfl,au0,au9,au10⟩
      rintro _ _
      simp(disch:=first|omega|exact PairsOK.mk rfl|(simp only[lenW]<;>omega)) only[wW,wV,simprocAttr]
      exact⟨.inr trivial,_,rfl,⟨[(85,.blk 85 0)],rfl,au0,au9,au10⟩⟩
end Go.AM.SE
namespace Go.AM.SE
open Go.Proofs Go.AM.SD Go.AM.OD
theorem restrict40 (a : Aut) (l : LB) (hw : WfA a) (hl : l.length = a.n) (hel : a.es.length <= 1000000) :
    PSpec Try.prog 27 [aV a,blF l a.n] (.tup [aV (restr a (lf l)),sliN (sAll a (lf l)).1]):=by
  have hn5:=hw.n5
  have hms:a.ms.length<=a.n:=QaP a.n a.ms hw.nd hw.msn
  refine PSpec.of_rn 60 ok27 rfl (by(try simp only[noRefs,Qbe,Qae,Qag,Qaa,Qaf,Qac,Qad,Qak,Qab,noRef,Bool.and_self,Bool.and_true])<;>rfl) (by simp only[noRef,noRefs,Qaa,Qac];rfl) ?_
  have hsi:SI a.n a.es (lf l) 0 ((if decide (0<a.n)&&lf l 0 then[0]else[],[]):OE):=by
    refine⟨?_,fun x hx=>?_,Nat.zero_le _,fun j v hj=>by omega,by simp⟩
    · split
      · rename_i hc
        simp only[Bool.and_eq_true,decide_eq_true_eq]at hc
        exact⟨by simp,fun x hx=>by simp at hx;omega⟩
      · exact⟨by simp,fun x hx=>by cases hx⟩
    · dsimp only at hx
      split at hx
      · rename_i hc
        simp only[Bool.and_eq_true]at hc
        simp at hx;subst hx;exact hc.2
      · cases hx
  have hq0:sQ a.es (lf l) (a.n+1) 0 (if decide (0<a.n)&&lf l 0 then[0]else[],[])=sAll a (lf l):=rfl
  by_cases hc0:(decide (0<a.n)&&lf l 0)=true
  · rw [if_pos hc0] at hsi hq0
    simp only[Bool.and_eq_true,decide_eq_true_eq]at hc0
    have h0n:(0:Int)<(a.n:Int):=by omega
    have hh0:(bls l).head?=some (.bool (lf l 0)):=by have:=Qaq (l:=l) (i:=0) (by omega);simpa using this
    have hl0:=hc0.2
    simp(disch:=first|omega|exact PairsOK.mk rfl|(simp only[lenW]<;>omega)) only[s27,h0n,hh0,hl0,Qer,QiP,wW,wV,simprocAttr]
    refine Qay 100 (fun t:Nat×OE=>[(1,blF l a.n),(2,.ptr 50 0 0),(4,.ptr 60 0 0),(6,.ptr 69 0 0),(7,.sl 75 0 0 t.2.1.length 1),(8,.int .i64 t.1)])
      (fun t=>[(50,.cells 0 (rsA a)),(60,.cells 0 rsN),(69,.cells 0 (rsB a (mks a t.1 t.2.1).length t.2.2.length)),(75,.cells 0 (ints (nz t.2.1))),(76,.cells 0 (t.2.2.flatMap edC)),(77,.cells 0 (ints (nz (mks a t.1 t.2.1))))])
      (fun t=>t.1<=a.n/\SI a.n a.es (lf l) t.1 t.2/\t.2.2.length<=t.1*1000000/\sQ a.es (lf l) (a.n+1-t.1) t.1 t.2=sAll a (lf l)) (fun t=>a.n+1-t.1) (0,([0],[])) 0 200
      (fun _:Unit=>[(4,.ptr 60 0 0),(6,.ptr 69 0 0),(7,.sl 75 0 0 (sAll a (lf l)).1.length 1)])
      (fun _=>[(60,.cells 0 rsN),(69,.cells 0 (rsB a (restr a (lf l)).ms.length (restr a (lf l)).es.length)),(75,.cells 0 (ints (nz (sAll a (lf l)).1))),(76,.cells 0 ((restr a (lf l)).es.flatMap edC)),(77,.cells 0 (ints (nz (restr a (lf l)).ms)))]) (fun _=>True) ?_ ⟨Nat.zero_le _,hsi,Nat.zero_le _,hq0⟩ ?_ ?_
    · dsimp only
      have hms0:mks a 0 [0]=[]:=rfl
      rw[hms0]
      exact⟨[(50,.blk 60 0),(60,.blk 61 0),(69,.blk 66 0),(75,.blk 79 0),(76,.nil),(77,.nil)],rfl,au0,au9,au10⟩
    · rintro ⟨i, s⟩ ⟨hi, hsi, hsl, hq⟩
      dsimp only at hi hsi hsl hq⊢
      have hfl:=hsi.fi.len
      have hile:=hsi.le
      by_cases hlt:i<s.1.length
      · obtain ⟨v, hv⟩ := Qax hlt
        have hvn:=hsi.fi.lt v (List.mem_of_getElem? hv)
        have hin':i<a.n:=by omega
        have hsi':=hsi.step hw.esn hv
        have hq':sQ a.es (lf l) (a.n+1-(i+1)) (i+1) (sRow a.es (lf l) i v s)=sAll a (lf l):=by
          rw[<-hq,show a.n+1-i=(a.n+1-(i+1))+1 by omega]
          simp only[sQ,hv]
        have hmn:=QiW (a:=a) hv
        have hmsl:=@Qgt a i s.1
        have hmsl':=@Qgt a (i+1) s.1
        have hmapp:mks a (i+1) (sRow a.es (lf l) i v s).1=mks a (i+1) s.1:=by
          obtain⟨_,_,⟨t,ht⟩,_⟩:=Qcl (n:=a.n) (left:=lf l) i (sOut a.es (lf l) v) s (fun e he=>⟨(hw.esn e (QaQ.1 he).1).2,(QaQ.1 he).2.2⟩) hsi.fi hsi.lft
          have ht:(sRow a.es (lf l) i v s).1=s.1++t:=ht
          rw[ht,Qkb (by omega)]
        have hc:=has15 (nz a.ms) v (by simp;omega)
        rw[Qbb,Qc7]at hc
        generalize hM0:mks a i s.1=M0 at*
        generalize hM:mks a (i+1) s.1=M at*
        simp(disch:=first|omega|exact PairsOK.mk rfl|(simp only[lenW]<;>omega)) only[hlt,QaR (nz_at hv),wW,wV,simprocAttr]
        refine cp hc ?_
        by_cases hmv:a.ms.contains v=true
        · rw [if_pos hmv] at hmn
          rw[hmv]
          simp(disch:=first|omega|exact PairsOK.mk rfl|(simp only[lenW]<;>omega)) only[wW,wV,simprocAttr]
          refine Qay 300 (fun j:Nat=>[(1,blF l a.n),(2,.ptr 50 0 0),(4,.ptr 60 0 0),(6,.ptr 69 0 0),(7,.sl 75 0 0 ((sOut (a.es.take j) (lf l) v).foldl (sEd i) s).1.length 1),(8,.int .i64 i),(9,.int .i64 j)])
            (fun j=>[(50,.cells 0 (rsA a)),(60,.cells 0 rsN),(69,.cells 0 (rsB a M.length ((sOut (a.es.take j) (lf l) v).foldl (sEd i) s).2.length)),(75,.cells 0 (ints (nz ((sOut (a.es.take j) (lf l) v).foldl (sEd i) s).1))),(76,.cells 0 (((sOut (a.es.take j) (lf l) v).foldl (sEd i) s).2.flatMap edC)),(77,.cells 0 (ints (nz M)))])
            (fun j=>j<=a.es.length) (fun j=>a.es.length-j) 0 2 460
            (fun _:Unit=>[(1,blF l a.n),(2,.ptr 50 0 0),(4,.ptr 60 0 0),(6,.ptr 69 0 0),(7,.sl 75 0 0 (sRow a.es (lf l) i v s).1.length 1),(8,.int .i64 i)])
            (fun _=>[(50,.cells 0 (rsA a)),(60,.cells 0 rsN),(69,.cells 0 (rsB a M.length (sRow a.es (lf l) i v s).2.length)),(75,.cells 0 (ints (nz (sRow a.es (lf l) i v s).1))),(76,.cells 0 ((sRow a.es (lf l) i v s).2.flatMap edC)),(77,.cells 0 (ints (nz M)))]) (fun _=>True) ?_ (Nat.zero_le _) ?_ ?_
          · rw [hmn, List.length_append, Qa2, QaK]
            exact⟨[(50,.blk 50 0),(60,.blk 60 0),(69,.blk 69 0),(75,.blk 75 0),(76,.blk 76 0),(77,.blk 77 1)],rfl,au0,au9,au10⟩
          · rintro j hj
            by_cases hjl:j<a.es.length
            · obtain ⟨e, hee⟩ := Qax hjl
              obtain⟨hfr,hto⟩:=hw.esn e (List.mem_of_getElem? hee)
              have hst:=Qes (left:=lf l) hee v
              obtain⟨k1,_,⟨tt,htt⟩,_,_⟩:=Qcl (n:=a.n) (left:=lf l) i (sOut (a.es.take j) (lf l) v) s (fun e he=>⟨(hw.esn e (List.mem_of_mem_take (QaQ.1 he).1)).2,(QaQ.1 he).2.2⟩) hsi.fi hsi.lft
              have hsl2:=QbX (i:=i) (sOut (a.es.take j) (lf l) v) s
              have hol:=Qcp (a.es.take j) (lf l) v
              rw[List.length_take]at hol
              have hstep:(sOut (a.es.take (j+1)) (lf l) v).foldl (sEd i) s=if e.1=v/\lf l e.2.2=true then sEd i ((sOut (a.es.take j) (lf l) v).foldl (sEd i) s) e else((sOut (a.es.take j) (lf l) v).foldl (sEd i) s):=by
                rw[hst,List.foldl_append];split<;>rfl
              have hfi:=k1.len
              have hnd:=k1.nd
              generalize ((sOut (a.es.take j) (lf l) v).foldl (sEd i) s)=t at*
              have hvt:t.1[i]?=some v:=by rw[htt,List.getElem?_append_left hlt];exact hv
              have hit:i<t.1.length:=(List.getElem?_eq_some_iff.1 hvt).1
              have htl:e.2.2<l.length:=by omega
              have hel2:=Qc9 t.2
              by_cases h1:e.1=v
              · by_cases h2 : lf l e.2.2 = true
                · rw [if_pos ⟨h1, h2⟩] at hstep
                  simp(disch:=first|omega|exact PairsOK.mk rfl|(simp only[lenW]<;>omega)) only[hjl,QaC hee,hit,QaR (nz_at hvt),hto,Qaq htl,h1,h2,wW,wV,simprocAttr]
                  refine Qay 400 (fun k:Nat=>[(1,blF l a.n),(2,.ptr 50 0 0),(4,.ptr 60 0 0),(6,.ptr 69 0 0),(7,.sl 75 0 0 t.1.length 1),(8,.int .i64 i),(9,.int .i64 j),(10,.ptr 79 0 0),(11,.int .i64 k)])
                    (fun k=>[(50,.cells 0 (rsA a)),(60,.cells 0 rsN),(69,.cells 0 (rsB a M.length t.2.length)),(79,.cells 0 [.int .i64 (v:Int),.int .i64 (e.2.1:Int),.int .i64 (e.2.2:Int)]),(75,.cells 0 (ints (nz t.1))),(76,.cells 0 (t.2.flatMap edC)),(77,.cells 0 (ints (nz M)))])
                    (fun k=>k<=t.1.length/\∀(q:Nat) y,q<k->t.1[q]?=some y->y≠e.2.2) (fun k=>t.1.length-k) 0 4 440
                    (fun _:Unit=>[(1,blF l a.n),(2,.ptr 50 0 0),(4,.ptr 60 0 0),(6,.ptr 69 0 0),(7,.sl 75 0 0 t.1.length 1),(8,.int .i64 i),(9,.int .i64 j),(10,.ptr 79 0 0),(11,.int .i64 (idx t.1 e.2.2:Nat))])
                    (fun _=>[(50,.cells 0 (rsA a)),(60,.cells 0 rsN),(69,.cells 0 (rsB a M.length t.2.length)),(79,.cells 0 [.int .i64 (v:Int),.int .i64 (e.2.1:Int),.int .i64 (e.2.2:Int)]),(75,.cells 0 (ints (nz t.1))),(76,.cells 0 (t.2.flatMap edC)),(77,.cells 0 (ints (nz M)))]) (fun _=>True) ?_ ⟨Nat.zero_le _,fun q y hq=>absurd hq (Nat.not_lt_zero _)⟩ ?_ ?_
                  · exact⟨[(50,.blk 50 0),(60,.blk 60 0),(69,.blk 69 0),(79,.blk 310 0),(75,.blk 75 0),(76,.blk 76 0),(77,.blk 77 0)],rfl,au0,au9,au10⟩
                  · rintro k ⟨hk, hno⟩
                    by_cases hkl:k<t.1.length
                    · obtain ⟨y, hy⟩ := Qax hkl
                      by_cases hye:y=e.2.2
                      · have hix := Qla hnd hy
                        rw[hye]at hix
                        simp(disch:=first|omega|exact PairsOK.mk rfl|(simp only[lenW]<;>omega)) only[hkl,QaR (nz_at hy),hye,wW,wV,simprocAttr]
                        refine⟨(),?_⟩
                        rw[hix]
                        exact⟨[(50,.blk 50 0),(60,.blk 60 0),(69,.blk 69 0),(79,.blk 79 0),(75,.blk 75 0),(76,.blk 76 0),(77,.blk 77 0)],rfl,au0,au9,au10⟩
                      · simp (disch := first | omega | exact PairsOK.mk rfl | (simp only [lenW] <;> omega)) only [hkl, QaR (nz_at hy), hye, wW, wV, simprocAttr]
                        refine⟨k+1,by omega,⟨by omega,fun q z hq hz=>?_⟩,⟨[(50,.blk 50 0),(60,.blk 60 0),(69,.blk 69 0),(79,.blk 79 0),(75,.blk 75 0),(76,.blk 76 0),(77,.blk 77 0)],rfl,au0,au9,au10⟩⟩
                        by_cases e3:q=k
                        · subst e3;rw[hy]at hz;cases hz;exact hye
                        · exact hno q z (by omega) hz
                    · have hix : idx t.1 e.2.2 = t.1.length := QeB fun h => by
                        obtain⟨q,hq,hql⟩:=Qf7 h
                        exact hno q _ (by omega) hq rfl
                      have e3:k=t.1.length:=by omega
                      simp(disch:=first|omega|exact PairsOK.mk rfl|(simp only[lenW]<;>omega)) only[hkl,wW,wV,simprocAttr]
                      refine⟨(),?_⟩
                      rw[hix,<-e3]
                      exact⟨[(50,.blk 50 0),(60,.blk 60 0),(69,.blk 69 0),(79,.blk 79 0),(75,.blk 75 0),(76,.blk 76 0),(77,.blk 77 0)],rfl,au0,au9,au10⟩
                  rintro _ _
                  have hidl:=Ql0 (l:=t.1) (x:=e.2.2)
                  by_cases hc:e.2.2∈t.1
                  · have hlt3 := Qef hc
                    have h3:¬((idx t.1 e.2.2:Nat):Int)=(t.1.length:Int):=by omega
                    have h4:sEd i t e=(t.1,t.2++[(i,e.2.1,idx t.1 e.2.2)]):=if_pos (by simpa using hc)
                    rw[h4]at hstep
                    generalize idx t.1 e.2.2=q at*
                    simp(disch:=first|omega|exact PairsOK.mk rfl|(simp only[lenW]<;>omega)) only[h3,hel2,wW,wV,simprocAttr]
                    refine⟨j+1,by omega,by omega,?_⟩
                    rw[hstep,List.flatMap_append,List.length_append]
                    exact⟨[(50,.blk 50 0),(60,.blk 60 0),(69,.blk 69 0),(75,.blk 75 0),(76,.blk 76 1),(77,.blk 77 0)],rfl,au0,au9,au10⟩
                  · have h3 := QeB hc
                    have h4:sEd i t e=(t.1++[e.2.2],t.2++[(i,e.2.1,t.1.length)]):=if_neg (by simpa using hc)
                    rw[h4]at hstep
                    rw[h3]
                    simp(disch:=first|omega|exact PairsOK.mk rfl|(simp only[lenW]<;>omega)) only[hel2,wW,wV,simprocAttr]
                    refine⟨j+1,by omega,by omega,?_⟩
                    rw[hstep,List.flatMap_append,List.length_append]
                    dsimp only
                    rw[List.length_append,Qa2,QaK]
                    exact⟨[(50,.blk 50 0),(60,.blk 60 0),(69,.blk 69 0),(75,.blk 75 1),(76,.blk 76 1),(77,.blk 77 0)],rfl,au0,au9,au10⟩
                · rw [if_neg (fun h => h2 h.2)] at hstep
                  rw[Bool.not_eq_true]at h2
                  simp(disch:=first|omega|exact PairsOK.mk rfl|(simp only[lenW]<;>omega)) only[hjl,QaC hee,hit,QaR (nz_at hvt),hto,Qaq htl,h1,h2,wW,wV,simprocAttr]
                  refine⟨j+1,by omega,by omega,?_⟩
                  rw[hstep]
                  exact⟨[(50,.blk 50 0),(60,.blk 60 0),(69,.blk 69 0),(75,.blk 75 0),(76,.blk 76 0),(77,.blk 77 0)],rfl,au0,au9,au10⟩
              · rw [if_neg (fun h => h1 h.1)] at hstep
                simp(disch:=first|omega|exact PairsOK.mk rfl|(simp only[lenW]<;>omega)) only[hjl,QaC hee,hit,QaR (nz_at hvt),h1,wW,wV,simprocAttr]
                refine⟨j+1,by omega,by omega,?_⟩
                rw[hstep]
                exact⟨[(50,.blk 50 0),(60,.blk 60 0),(69,.blk 69 0),(75,.blk 75 0),(76,.blk 76 0),(77,.blk 77 0)],rfl,au0,au9,au10⟩
            · have e : j = a.es.length := by omega
              subst e
              simp(disch:=first|omega|exact PairsOK.mk rfl|(simp only[lenW]<;>omega)) only[hjl,wW,wV,simprocAttr]
              refine⟨(),?_⟩
              exact⟨[(50,.blk 50 0),(60,.blk 60 0),(69,.blk 69 0),(75,.blk 75 0),(76,.blk 76 0),(77,.blk 77 0)],rfl,au0,au9,au10⟩
          rintro _ _
          have hsl3:(sRow a.es (lf l) i v s).2.length=s.2.length+(sOut a.es (lf l) v).length:=QbX _ _
          have hol3:=Qcp a.es (lf l) v
          simp(disch:=first|omega|exact PairsOK.mk rfl|(simp only[lenW]<;>omega)) only[wW,wV,simprocAttr]
          refine⟨(i+1,sRow a.es (lf l) i v s),by dsimp only;omega,⟨hin',hsi',by dsimp only;omega,hq'⟩,?_⟩
          dsimp only
          rw[hmapp]
          exact⟨[(50,.blk 50 0),(60,.blk 60 0),(69,.blk 69 0),(75,.blk 75 0),(76,.blk 76 0),(77,.blk 77 0)],rfl,au0,au9,au10⟩
        · rw [if_neg hmv, List.append_nil] at hmn
          rw[Bool.not_eq_true]at hmv
          rw[hmv]
          simp(disch:=first|omega|exact PairsOK.mk rfl|(simp only[lenW]<;>omega)) only[wW,wV,simprocAttr]
          refine Qay 300 (fun j:Nat=>[(1,blF l a.n),(2,.ptr 50 0 0),(4,.ptr 60 0 0),(6,.ptr 69 0 0),(7,.sl 75 0 0 ((sOut (a.es.take j) (lf l) v).foldl (sEd i) s).1.length 1),(8,.int .i64 i),(9,.int .i64 j)])
            (fun j=>[(50,.cells 0 (rsA a)),(60,.cells 0 rsN),(69,.cells 0 (rsB a M.length ((sOut (a.es.take j) (lf l) v).foldl (sEd i) s).2.length)),(75,.cells 0 (ints (nz ((sOut (a.es.take j) (lf l) v).foldl (sEd i) s).1))),(76,.cells 0 (((sOut (a.es.take j) (lf l) v).foldl (sEd i) s).2.flatMap edC)),(77,.cells 0 (ints (nz M)))])
            (fun j=>j<=a.es.length) (fun j=>a.es.length-j) 0 2 460
            (fun _:Unit=>[(1,blF l a.n),(2,.ptr 50 0 0),(4,.ptr 60 0 0),(6,.ptr 69 0 0),(7,.sl 75 0 0 (sRow a.es (lf l) i v s).1.length 1),(8,.int .i64 i)])
            (fun _=>[(50,.cells 0 (rsA a)),(60,.cells 0 rsN),(69,.cells 0 (rsB a M.length (sRow a.es (lf l) i v s).2.length)),(75,.cells 0 (ints (nz (sRow a.es (lf l) i v s).1))),(76,.cells 0 ((sRow a.es (lf l) i v s).2.flatMap edC)),(77,.cells 0 (ints (nz M)))]) (fun _=>True) ?_ (Nat.zero_le _) ?_ ?_
          · rw [hmn]
            exact⟨[(50,.blk 50 0),(60,.blk 60 0),(69,.blk 69 0),(75,.blk 75 0),(76,.blk 76 0),(77,.blk 77 0)],rfl,au0,au9,au10⟩
          · rintro j hj
            by_cases hjl:j<a.es.length
            · obtain ⟨e, hee⟩ := Qax hjl
              obtain⟨hfr,hto⟩:=hw.esn e (List.mem_of_getElem? hee)
              have hst:=Qes (left:=lf l) hee v
              obtain⟨k1,_,⟨tt,htt⟩,_,_⟩:=Qcl (n:=a.n) (left:=lf l) i (sOut (a.es.take j) (lf l) v) s (fun e he=>⟨(hw.esn e (List.mem_of_mem_take (QaQ.1 he).1)).2,(QaQ.1 he).2.2⟩) hsi.fi hsi.lft
              have hsl2:=QbX (i:=i) (sOut (a.es.take j) (lf l) v) s
              have hol:=Qcp (a.es.take j) (lf l) v
              rw[List.length_take]at hol
              have hstep:(sOut (a.es.take (j+1)) (lf l) v).foldl (sEd i) s=if e.1=v/\lf l e.2.2=true then sEd i ((sOut (a.es.take j) (lf l) v).foldl (sEd i) s) e else((sOut (a.es.take j) (lf l) v).foldl (sEd i) s):=by
                rw[hst,List.foldl_append];split<;>rfl
              have hfi:=k1.len
              have hnd:=k1.nd
              generalize ((sOut (a.es.take j) (lf l) v).foldl (sEd i) s)=t at*
              have hvt:t.1[i]?=some v:=by rw[htt,List.getElem?_append_left hlt];exact hv
              have hit:i<t.1.length:=(List.getElem?_eq_some_iff.1 hvt).1
              have htl:e.2.2<l.length:=by omega
              have hel2:=Qc9 t.2
              by_cases h1:e.1=v
              · by_cases h2 : lf l e.2.2 = true
                · rw [if_pos ⟨h1, h2⟩] at hstep
                  simp(disch:=first|omega|exact PairsOK.mk rfl|(simp only[lenW]<;>omega)) only[hjl,QaC hee,hit,QaR (nz_at hvt),hto,Qaq htl,h1,h2,wW,wV,simprocAttr]
                  refine Qay 400 (fun k:Nat=>[(1,blF l a.n),(2,.ptr 50 0 0),(4,.ptr 60 0 0),(6,.ptr 69 0 0),(7,.sl 75 0 0 t.1.length 1),(8,.int .i64 i),(9,.int .i64 j),(10,.ptr 79 0 0),(11,.int .i64 k)])
                    (fun k=>[(50,.cells 0 (rsA a)),(60,.cells 0 rsN),(69,.cells 0 (rsB a M.length t.2.length)),(79,.cells 0 [.int .i64 (v:Int),.int .i64 (e.2.1:Int),.int .i64 (e.2.2:Int)]),(75,.cells 0 (ints (nz t.1))),(76,.cells 0 (t.2.flatMap edC)),(77,.cells 0 (ints (nz M)))])
                    (fun k=>k<=t.1.length/\∀(q:Nat) y,q<k->t.1[q]?=some y->y≠e.2.2) (fun k=>t.1.length-k) 0 4 440
                    (fun _:Unit=>[(1,blF l a.n),(2,.ptr 50 0 0),(4,.ptr 60 0 0),(6,.ptr 69 0 0),(7,.sl 75 0 0 t.1.length 1),(8,.int .i64 i),(9,.int .i64 j),(10,.ptr 79 0 0),(11,.int .i64 (idx t.1 e.2.2:Nat))])
                    (fun _=>[(50,.cells 0 (rsA a)),(60,.cells 0 rsN),(69,.cells 0 (rsB a M.length t.2.length)),(79,.cells 0 [.int .i64 (v:Int),.int .i64 (e.2.1:Int),.int .i64 (e.2.2:Int)]),(75,.cells 0 (ints (nz t.1))),(76,.cells 0 (t.2.flatMap edC)),(77,.cells 0 (ints (nz M)))]) (fun _=>True) ?_ ⟨Nat.zero_le _,fun q y hq=>absurd hq (Nat.not_lt_zero _)⟩ ?_ ?_
                  · exact⟨[(50,.blk 50 0),(60,.blk 60 0),(69,.blk 69 0),(79,.blk 310 0),(75,.blk 75 0),(76,.blk 76 0),(77,.blk 77 0)],rfl,au0,au9,au10⟩
                  · rintro k ⟨hk, hno⟩
                    by_cases hkl:k<t.1.length
                    · obtain ⟨y, hy⟩ := Qax hkl
                      by_cases hye:y=e.2.2
                      · have hix := Qla hnd hy
                        rw[hye]at hix
                        simp(disch:=first|omega|exact PairsOK.mk rfl|(simp only[lenW]<;>omega)) only[hkl,QaR (nz_at hy),hye,wW,wV,simprocAttr]
                        refine⟨(),?_⟩
                        rw[hix]
                        exact⟨[(50,.blk 50 0),(60,.blk 60 0),(69,.blk 69 0),(79,.blk 79 0),(75,.blk 75 0),(76,.blk 76 0),(77,.blk 77 0)],rfl,au0,au9,au10⟩
                      · simp (disch := first | omega | exact PairsOK.mk rfl | (simp only [lenW] <;> omega)) only [hkl, QaR (nz_at hy), hye, wW, wV, simprocAttr]
                        refine⟨k+1,by omega,⟨by omega,fun q z hq hz=>?_⟩,⟨[(50,.blk 50 0),(60,.blk 60 0),(69,.blk 69 0),(79,.blk 79 0),(75,.blk 75 0),(76,.blk 76 0),(77,.blk 77 0)],rfl,au0,au9,au10⟩⟩
                        by_cases e3:q=k
                        · subst e3;rw[hy]at hz;cases hz;exact hye
                        · exact hno q z (by omega) hz
                    · have hix : idx t.1 e.2.2 = t.1.length := QeB fun h => by
                        obtain⟨q,hq,hql⟩:=Qf7 h
                        exact hno q _ (by omega) hq rfl
                      have e3:k=t.1.length:=by omega
                      simp(disch:=first|omega|exact PairsOK.mk rfl|(simp only[lenW]<;>omega)) only[hkl,wW,wV,simprocAttr]
                      refine⟨(),?_⟩
                      rw[hix,<-e3]
                      exact⟨[(50,.blk 50 0),(60,.blk 60 0),(69,.blk 69 0),(79,.blk 79 0),(75,.blk 75 0),(76,.blk 76 0),(77,.blk 77 0)],rfl,au0,au9,au10⟩
                  rintro _ _
                  have hidl:=Ql0 (l:=t.1) (x:=e.2.2)
                  by_cases hc:e.2.2∈t.1
                  · have hlt3 := Qef hc
                    have h3:¬((idx t.1 e.2.2:Nat):Int)=(t.1.length:Int):=by omega
                    have h4:sEd i t e=(t.1,t.2++[(i,e.2.1,idx t.1 e.2.2)]):=if_pos (by simpa using hc)
                    rw[h4]at hstep
                    generalize idx t.1 e.2.2=q at*
                    simp(disch:=first|omega|exact PairsOK.mk rfl|(simp only[lenW]<;>omega)) only[h3,hel2,wW,wV,simprocAttr]
                    refine⟨j+1,by omega,by omega,?_⟩
                    rw[hstep,List.flatMap_append,List.length_append]
                    exact⟨[(50,.blk 50 0),(60,.blk 60 0),(69,.blk 69 0),(75,.blk 75 0),(76,.blk 76 1),(77,.blk 77 0)],rfl,au0,au9,au10⟩
                  · have h3 := QeB hc
                    have h4:sEd i t e=(t.1++[e.2.2],t.2++[(i,e.2.1,t.1.length)]):=if_neg (by simpa using hc)
                    rw[h4]at hstep
                    rw[h3]
                    simp(disch:=first|omega|exact PairsOK.mk rfl|(simp only[lenW]<;>omega)) only[hel2,wW,wV,simprocAttr]
                    refine⟨j+1,by omega,by omega,?_⟩
                    rw[hstep,List.flatMap_append,List.length_append]
                    dsimp only
                    rw[List.length_append,Qa2,QaK]
                    exact⟨[(50,.blk 50 0),(60,.blk 60 0),(69,.blk 69 0),(75,.blk 75 1),(76,.blk 76 1),(77,.blk 77 0)],rfl,au0,au9,au10⟩
                · rw [if_neg (fun h => h2 h.2)] at hstep
                  rw[Bool.not_eq_true]at h2
                  simp(disch:=first|omega|exact PairsOK.mk rfl|(simp only[lenW]<;>omega)) only[hjl,QaC hee,hit,QaR (nz_at hvt),hto,Qaq htl,h1,h2,wW,wV,simprocAttr]
                  refine⟨j+1,by omega,by omega,?_⟩
                  rw[hstep]
                  exact⟨[(50,.blk 50 0),(60,.blk 60 0),(69,.blk 69 0),(75,.blk 75 0),(76,.blk 76 0),(77,.blk 77 0)],rfl,au0,au9,au10⟩
              · rw [if_neg (fun h => h1 h.1)] at hstep
                simp(disch:=first|omega|exact PairsOK.mk rfl|(simp only[lenW]<;>omega)) only[hjl,QaC hee,hit,QaR (nz_at hvt),h1,wW,wV,simprocAttr]
                refine⟨j+1,by omega,by omega,?_⟩
                rw[hstep]
                exact⟨[(50,.blk 50 0),(60,.blk 60 0),(69,.blk 69 0),(75,.blk 75 0),(76,.blk 76 0),(77,.blk 77 0)],rfl,au0,au9,au10⟩
            · have e : j = a.es.length := by omega
              subst e
              simp(disch:=first|omega|exact PairsOK.mk rfl|(simp only[lenW]<;>omega)) only[hjl,wW,wV,simprocAttr]
              refine⟨(),?_⟩
              exact⟨[(50,.blk 50 0),(60,.blk 60 0),(69,.blk 69 0),(75,.blk 75 0),(76,.blk 76 0),(77,.blk 77 0)],rfl,au0,au9,au10⟩
          rintro _ _
          have hsl3:(sRow a.es (lf l) i v s).2.length=s.2.length+(sOut a.es (lf l) v).length:=QbX _ _
          have hol3:=Qcp a.es (lf l) v
          simp(disch:=first|omega|exact PairsOK.mk rfl|(simp only[lenW]<;>omega)) only[wW,wV,simprocAttr]
          refine⟨(i+1,sRow a.es (lf l) i v s),by dsimp only;omega,⟨hin',hsi',by dsimp only;omega,hq'⟩,?_⟩
          dsimp only
          rw[hmapp]
          exact⟨[(50,.blk 50 0),(60,.blk 60 0),(69,.blk 69 0),(75,.blk 75 0),(76,.blk 76 0),(77,.blk 77 0)],rfl,au0,au9,au10⟩
      · have hv : s.1[i]? = none := List.getElem?_eq_none (by omega)
        have hqf:s=sAll a (lf l):=by
          rw[<-hq,show a.n+1-i=(a.n-i)+1 by omega]
          simp only[sQ,hv]
        have hil:i=s.1.length:=by omega
        have hmf:mks a i s.1=(restr a (lf l)).ms:=by rw[hil,hqf];rfl
        have hef:s.2=(restr a (lf l)).es:=by rw[hqf];rfl
        simp(disch:=first|omega|exact PairsOK.mk rfl|(simp only[lenW]<;>omega)) only[hlt,wW,wV,simprocAttr]
        refine⟨(),?_⟩
        rw[hmf,hef,<-hqf]
        exact⟨[(60,.blk 60 0),(69,.blk 69 0),(75,.blk 75 0),(76,.blk 76 0),(77,.blk 77 0)],rfl,au0,au9,au10⟩
    rintro _ _
    have hra:(restr a (lf l)).al=a.al:=rfl
    have hrn2:(restr a (lf l)).n=(sAll a (lf l)).1.length:=rfl
    simp(disch:=first|omega|exact PairsOK.mk rfl|(simp only[lenW]<;>omega)) only[wW,wV,simprocAttr]
    refine⟨.inr trivial,_,rfl,?_⟩
    exact Rn.tup (RnL.cons (Rn.agg (RnL.cons (Rn.same (Qai _)) (RnL.cons (Rn.same rfl) (RnL.cons (Rn.fz0 (g:=0) rfl (by simp[ints]) (RnL.same (Qaa _))) (RnL.cons (Rn.fz0 (g:=0) rfl (Qc9 _) (RnL.same (Qac _))) RnL.nil))))) (RnL.cons (Rn.fz0 (g:=0) rfl (by simp[ints]) (RnL.same (Qaa _))) RnL.nil))
  · rw [if_neg hc0] at hsi hq0
    have es:sAll a (lf l)=([],[]):=by rw[<-hq0];unfold sQ;rfl
    have er:restr a (lf l)=⟨a.al,0,[],[]⟩:=by unfold restr;rw[es];rfl
    rw[er,es]
    by_cases h0n:(0:Int)<(a.n:Int)
    · have hl0 : lf l 0 = false := by
        rw[<-Bool.not_eq_true];intro h;exact hc0 (by simp[h];omega)
      have hh0:(bls l).head?=some (.bool (lf l 0)):=by have:=Qaq (l:=l) (i:=0) (by omega);simpa using this
      simp(disch:=first|omega|exact PairsOK.mk rfl|(simp only[lenW]<;>omega)) only[s27,h0n,hh0,hl0,wW,wV,simprocAttr]
      refine Qay 100 (fun _:Unit=>[(2,.ptr 50 0 0),(4,.ptr 60 0 0),(6,.ptr 69 0 0),(7,.nilsl),(8,.int .i64 0)])
        (fun t=>[(50,.cells 0 (rsA a)),(60,.cells 0 rsN),(69,.cells 0 [sliN a.al,.int .i64 0,.nilsl,.nilsl])])
        (fun t=>True) (fun t=>0) () 0 200
        (fun _:Unit=>[(4,.ptr 60 0 0),(6,.ptr 69 0 0),(7,.nilsl)])
        (fun _=>[(60,.cells 0 rsN),(69,.cells 0 [sliN a.al,.int .i64 0,.nilsl,.nilsl])]) (fun _=>True) ?_ trivial ?_ ?_
      · exact⟨[(50,.blk 60 0),(60,.blk 61 0),(69,.blk 66 0)],rfl,au0,au9,au10⟩
      · rintro _ _
        simp(disch:=first|omega|exact PairsOK.mk rfl|(simp only[lenW]<;>omega)) only[wW,wV,simprocAttr]
        exact⟨(),⟨[(60,.blk 60 0),(69,.blk 69 0)],rfl,au0,au9,au10⟩⟩
      rintro _ _
      simp(disch:=first|omega|exact PairsOK.mk rfl|(simp only[lenW]<;>omega)) only[wW,wV,simprocAttr]
      refine⟨.inr trivial,_,rfl,?_⟩
      exact Rn.tup (RnL.cons (Rn.agg (RnL.cons (Rn.same (Qai _)) (RnL.cons (Rn.same rfl) (RnL.cons Rn.nilK (RnL.cons Rn.nilK RnL.nil))))) (RnL.cons Rn.nilK RnL.nil))
    · simp (disch := first | omega | exact PairsOK.mk rfl | (simp only [lenW] <;> omega)) only [s27, h0n, wW, wV, simprocAttr]
      refine Qay 100 (fun _:Unit=>[(2,.ptr 50 0 0),(4,.ptr 60 0 0),(6,.ptr 69 0 0),(7,.nilsl),(8,.int .i64 0)])
        (fun t=>[(50,.cells 0 (rsA a)),(60,.cells 0 rsN),(69,.cells 0 [sliN a.al,.int .i64 0,.nilsl,.nilsl])])
        (fun t=>True) (fun t=>0) () 0 200
        (fun _:Unit=>[(4,.ptr 60 0 0),(6,.ptr 69 0 0),(7,.nilsl)])
        (fun _=>[(60,.cells 0 rsN),(69,.cells 0 [sliN a.al,.int .i64 0,.nilsl,.nilsl])]) (fun _=>True) ?_ trivial ?_ ?_
      · exact⟨[(50,.blk 60 0),(60,.blk 61 0),(69,.blk 66 0)],rfl,au0,au9,au10⟩
      · rintro _ _
        simp(disch:=first|omega|exact PairsOK.mk rfl|(simp only[lenW]<;>omega)) only[wW,wV,simprocAttr]
        exact⟨(),⟨[(60,.blk 60 0),(69,.blk 69 0)],rfl,au0,au9,au10⟩⟩
      rintro _ _
      simp(disch:=first|omega|exact PairsOK.mk rfl|(simp only[lenW]<;>omega)) only[wW,wV,simprocAttr]
      refine⟨.inr trivial,_,rfl,?_⟩
      exact Rn.tup (RnL.cons (Rn.agg (RnL.cons (Rn.same (Qai _)) (RnL.cons (Rn.same rfl) (RnL.cons Rn.nilK (RnL.cons Rn.nilK RnL.nil))))) (RnL.cons Rn.nilK RnL.nil))
end Go.AM.SE
namespace Go.AM.SE
open Go.Proofs Go.AM.SD Go.AM.OD
abbrev rrN:Rm:=⟨0,0,0,0⟩
theorem Ql2 {n:Nat} {F:List Nat}:(List.range n).map (fun x=> !F.contains x)=left0 n F:=by
 refine List.ext_getElem (by simp[QbK]) fun i h1 h2=>?_
 have hi:i<n:=by simpa using h1
 have e:(left0 n F)[i]=lf (left0 n F) i:=by simp[lf,h2]
 rw[e,Bool.eq_iff_iff,Qfo]
 simp[hi]
def lfP (n:Nat) (F:List Nat) (i:Nat):LB:=(List.range i).map (fun x=> !F.contains x)++List.replicate (n-i) false
theorem Qm2 {n i:Nat} {F:List Nat} (h:i<=n):(lfP n F i).length=n:=by unfold lfP;simp;omega
theorem Qm3 {n i:Nat} {F:List Nat} (h:i<n):(lfP n F i).set i (!F.contains i)=lfP n F (i+1):=by
 unfold lfP
 rw[List.set_append_right _ _ (by simp),List.length_map,List.length_range,Nat.sub_self,show n-i=(n-(i+1))+1 by omega,List.replicate_succ,List.set_cons_zero,List.range_succ,List.map_append,List.append_assoc];rfl
theorem Qm4 {n:Nat} {F:List Nat}:lfP n F n=left0 n F:=by unfold lfP;rw[Nat.sub_self,Ql2];simp
theorem repR (n:Nat):(List.replicate n [AV.int .i64 0,AV.int .i64 0,AV.int .i64 0,AV.int .i64 0]).flatten=(List.replicate n rrN).flatMap rmC:=by
 induction n with
 |zero=>rfl
 |succ n ih=>rw[List.replicate_succ,List.flatten_cons,ih,List.replicate_succ,List.flatMap_cons];rfl
def rrP (n i:Nat):List Rm:=(List.range i).map rm0++List.replicate (n-i) rrN
theorem Qm5 {n i:Nat} (h:i<=n):(rrP n i).length=n:=by unfold rrP;simp;omega
theorem Qm6 {n i:Nat} (h:i<n):(rrP n i).set i (rm0 i)=rrP n (i+1):=by
 unfold rrP
 rw[List.set_append_right _ _ (by simp),List.length_map,List.length_range,Nat.sub_self,show n-i=(n-(i+1))+1 by omega,List.replicate_succ,List.set_cons_zero,List.range_succ,List.map_append,List.append_assoc];rfl
theorem Qm7 {n:Nat}:rrP n n=(List.range n).map rm0:=by unfold rrP;simp
def kf (f:List Nat) (i:Nat):Nat:=if(List.range i).any (fun x=>f.contains x)then 1 else 0
theorem Qm8 {f:List Nat} {i:Nat}:kf f (i+1)=if f.contains i=true then 1 else kf f i:=by
 unfold kf
 rw[List.range_succ,List.any_append]
 generalize (List.range i).any (fun x=>f.contains x)=b
 simp only[List.any_cons,List.any_nil,Bool.or_false]
 cases b<;>cases f.contains i<;>rfl
theorem Qnu {f:List Nat} {n:Nat} (hf:∀x∈f,x<n):kf f n=if f.length=0 then 0 else 1:=by
 unfold kf
 cases f with
 |nil=>simp
 |cons x f=>
  rw[if_pos,if_neg (by simp)]
  rw[List.any_eq_true]
  exact⟨x,List.mem_range.2 (hf x (by simp)),by simp⟩
theorem Ql3 {rs nx:List Rm} {j:Nat} {x:Rm} (h:nx[j]?=some x):SD.putR rs (nx.take (j+1))=(SD.putR rs (nx.take j)).set x.st x:=by
 unfold SD.putR
 rw[List.take_add_one,h,Option.toList,List.foldl_append];rfl
theorem Qmx {i:Nat} {l:LB} {rr:List Rm}:asm (i+1) l rr=asm i l rr++(if lf l i then none else rr[i]?).toList:=by
 unfold asm
 rw[List.range_succ,List.filterMap_append]
 cases h:(if lf l i then none else rr[i]?)<;>simp[h]
theorem Qkd {i:Nat} {l:LB} {rr:List Rm}:(asm i l rr).length<=i:=by
 unfold asm;exact Nat.le_trans (List.length_filterMap_le _ _) (by simp)
def dFin (a:Aut) (f u:List Nat) (closed:Bool):LB×List Rm×Nat:=rRounds a.n a.es a.ms u closed (a.n+1) 2 (left0 a.n f) ((List.range a.n).map rm0) (if f.length=0 then 0 else 1)
def dRes (a:Aut) (f u:List Nat) (closed:Bool):Res:=
 let F:=dFin a f u closed
 ⟨kept a.n F.1,dists a.n F.1 (rDist a.es (lf F.1) (a.n+1) 1 (o0 a.n a.ms (lf F.1))),asm a.n F.1 F.2.1,F.2.2,restr a (lf F.1),(sAll a (lf F.1)).1⟩
def dH (a:Aut) (l:LB) (rr:List Rm) (k:Nat):HL:=[(41,.cells 0 nine),(50,.cells 0 (rsA a)),(61,.cells 0 [.nilsl,.nilsl,.nilsl,.int .i64 (k:Int),.nilsl,.int .i64 0,.nilsl,.nilsl,.nilsl]),(72,.cells 0 (bls l)),(73,.cells 0 (rr.flatMap rmC))]
abbrev St5:=Nat×LB×List Rm×Nat
def dT (a:Aut) (f u:List Nat) (closed:Bool) (i:Nat):Tmps:=[(1,sliN f),(2,sliN u),(3,.bool closed),(4,.ptr 50 0 0),(8,.ptr 41 0 0),(9,.ptr 61 0 0),(10,.sl 72 0 0 a.n 1),(11,.sl 73 0 0 a.n 4),(12,.int .i64 i)]
def dT1 (a:Aut) (u:List Nat) (closed:Bool):Tmps:=[(2,sliN u),(3,.bool closed),(4,.ptr 50 0 0),(8,.ptr 41 0 0),(9,.ptr 61 0 0),(10,.sl 72 0 0 a.n 1),(11,.sl 73 0 0 a.n 4)]
def dT2 (a:Aut):Tmps:=[(4,.ptr 50 0 0),(8,.ptr 41 0 0),(9,.ptr 61 0 0),(10,.sl 72 0 0 a.n 1),(11,.sl 73 0 0 a.n 4)]
theorem result26 (a : Aut) (f u : List Nat) (closed : Bool) (h : WfA a) (hq : QOk a f u) (hel : a.es.length <= 1000000) : PSpec Try.prog 13 [aV a, sliN f, sliN u, .bool closed] (rsV (dRes a f u closed)) := by
  have hn5:=h.n5
  have hfl:=Qa1 hq.fS hq.fn
  have hul:=Qa1 hq.uS hq.un
  have hml:a.ms.length<=a.n:=QaP a.n a.ms h.nd h.msn
  have hn':(a.n:Int)<=140737488355328:=by omega
  have hn32:(32:Int)*(a.n:Int)<=140737488355328:=by omega
  refine PSpec.of_rn 40 ok13 rfl (by(try simp only[noRefs,Qbe,Qae,Qag,Qaa,Qaf,Qac,Qad,Qak,Qab,noRef,Bool.and_self,Bool.and_true])<;>rfl) (QcE _) ?_
  simp(disch:=first|omega|exact PairsOK.mk rfl|(simp only[lenW]<;>omega)) only[s13,hn',hn32,reps,repR,wW,wV,simprocAttr]
  refine Qay 110 (fun i:Nat=>dT a f u closed i)
    (fun i=>dH a (lfP a.n f i) (rrP a.n i) (kf f i))
    (fun i=>i<=a.n) (fun i=>a.n-i) 0 0 160
    (fun _:Unit=>dT1 a u closed)
    (fun _=>dH a (left0 a.n f) ((List.range a.n).map rm0) (kf f a.n)) (fun _=>True) ?_ (Nat.zero_le _) ?_ ?_
  · have e : List.replicate a.n false = lfP a.n f 0 := by simp [lfP]
    have e2:List.replicate a.n rrN=rrP a.n 0:=by simp[rrP]
    rw[e,e2]
    try dsimp only[dT,dH]
    exact⟨[(41,.blk 41 0),(50,.blk 40 0),(61,.blk 42 0),(72,.blk 45 0),(73,.blk 49 0)],rfl,au0,au9,au10⟩
  · rintro i hi
    try dsimp only[dT,dH]
    by_cases hlt:i<a.n
    · have hst := Qm3 (F := f) hlt
      have hst2:=Qm6 hlt
      have hks:=Qm8 (f:=f) (i:=i)
      have hln:=Qm2 (F:=f) hi
      have hln2:=Qm5 hi
      generalize lfP a.n f i=o at*
      generalize rrP a.n i=rr at*
      generalize kf f i=k at*
      have hil:i<o.length:=by omega
      have hi1:i+1<=o.length:=by omega
      have hrl:=QbA rr
      have g1:i*4+4<=rr.length*4:=by omega
      have hc:=has15 (nz f) i (by simp;omega)
      rw[Qc7,Qbb]at hc
      have pp:(rr.flatMap rmC).take (i*4)++[.int .i64 (i:Int),.int .i64 1,.int .i64 1,.int .i64 (-1)]++(rr.flatMap rmC).drop (i*4+4)=(rr.set i (rm0 i)).flatMap rmC:=put_rm' (l:=rr) (i:=i) (r:=rm0 i) (by omega)
      simp(disch:=first|omega|exact PairsOK.mk rfl|(simp only[lenW]<;>omega)) only[hlt,wW,wV,simprocAttr]
      refine cp hc ?_
      cases hb:f.contains i with
      | true =>
        rw[hb,Bool.not_true]at hst
        rw[hb,if_pos rfl]at hks
        have hgb:(bls (lfP a.n f (i+1)))[i]?=some (.bool false):=by
          rw[<-hst,<-Qb4,List.getElem?_set_self (by rw[Qb3];exact hil)]
        simp(disch:=first|omega|exact PairsOK.mk rfl|(simp only[lenW]<;>omega)) only[hlt,hi1,Qb4,hst,hgb,hrl,g1,pp,hst2,wW,wV,simprocAttr]
        refine⟨i+1,by omega,by omega,?_⟩
        try dsimp only[dT,dH]
        rw[hks]
        exact⟨[(41,.blk 41 0),(50,.blk 50 0),(61,.blk 61 0),(72,.blk 72 0),(73,.blk 73 0)],rfl,au0,au9,au10⟩
      | false =>
        rw[hb,Bool.not_false]at hst
        rw[hb,if_neg (by decide)]at hks
        have hgb:(bls (lfP a.n f (i+1)))[i]?=some (.bool true):=by
          rw[<-hst,<-Qb4,List.getElem?_set_self (by rw[Qb3];exact hil)]
        simp(disch:=first|omega|exact PairsOK.mk rfl|(simp only[lenW]<;>omega)) only[hlt,hi1,Qb4,hst,hgb,hrl,g1,pp,hst2,wW,wV,simprocAttr]
        refine⟨i+1,by omega,by omega,?_⟩
        try dsimp only[dT,dH]
        rw[hks]
        exact⟨[(41,.blk 41 0),(50,.blk 50 0),(61,.blk 61 0),(72,.blk 72 0),(73,.blk 73 0)],rfl,au0,au9,au10⟩
    · have e : i = a.n := by omega
      subst e
      simp(disch:=first|omega|exact PairsOK.mk rfl|(simp only[lenW]<;>omega)) only[hlt,wW,wV,simprocAttr]
      refine⟨(),?_⟩
      try dsimp only[dT1,dH]
      rw[<-Qm4,<-Qm7]
      exact⟨[(41,.blk 41 0),(50,.blk 50 0),(61,.blk 61 0),(72,.blk 72 0),(73,.blk 73 0)],rfl,au0,au9,au10⟩
  rintro _ _
  rw[Qnu hq.fn]
  have hc0:cntL a.n (left0 a.n f)<a.n+1:=by
    have:cntL a.n (left0 a.n f)<=a.n:=by unfold cntL;exact Nat.le_trans List.countP_le_length (by simp)
    omega
  try dsimp only[dT1,dH]
  simp(disch:=first|omega|exact PairsOK.mk rfl|(simp only[lenW]<;>omega)) only[wW,wV,simprocAttr]
  refine Qay 170 (fun t:St5=>dT1 a u closed++[(13,.int .i64 t.1)]) (fun t=>dH a t.2.1 t.2.2.1 t.2.2.2)
    (fun t=>t.2.1.length=a.n/\t.2.2.1.length=a.n/\t.1+cntL a.n t.2.1<=a.n+2/\∃fu,cntL a.n t.2.1<fu/\rRounds a.n a.es a.ms u closed fu t.1 t.2.1 t.2.2.1 t.2.2.2=dFin a f u closed)
    (fun t=>cntL a.n t.2.1) (2,left0 a.n f,(List.range a.n).map rm0,if f.length=0 then 0 else 1) 2 260
    (fun _:St5=>dT2 a) (fun t=>dH a t.2.1 t.2.2.1 t.2.2.2) (fun t=>t.2=dFin a f u closed/\t.2.1.length=a.n/\t.2.2.1.length=a.n) ?_ ⟨QbK,by simp,by dsimp only;omega,a.n+1,hc0,rfl⟩ ?_ ?_
  · try dsimp only [dT1, dH, List.cons_append, List.nil_append]
    exact⟨[(41,.blk 41 0),(50,.blk 50 0),(61,.blk 61 0),(72,.blk 72 0),(73,.blk 73 0)],rfl,au0,au9,au10⟩
  · rintro ⟨rank, l, rr, k⟩ ⟨hl, hrr, hrk, fu, hfu, hpr⟩
    dsimp only at hl hrr hrk hfu hpr⊢
    try dsimp only[dT1,dH]
    have hN:=next19 a u l rank closed h.inN hl (by omega) hel (by omega) (by omega)
    have hst:=Qfm (left:=lf l) (unc:=u) (rank:=rank) (all:= !closed) h.inN h.nd h.srt
    rw[Qh1 h.inN h.nd h.srt,Bool.not_not]at hst
    obtain⟨fu,rfl⟩:∃m,fu=m+1:=⟨fu-1,by omega⟩
    have hdec:∀r∈rNext a.n a.es a.ms (lf l) u rank closed,cntL a.n (offs l ((rNext a.n a.es a.ms (lf l) u rank closed).map (·.st)))<cntL a.n l:=fun r hr=>by
      obtain⟨h1,h2⟩:=hst.2 r hr
      refine Qjx (fun i _ hi=>?_) h1 h2 ?_
      · rw[QcO]at hi;simp only[Bool.and_eq_true]at hi;exact hi.1
      · rw[QcO,Qdc (List.mem_map.2 ⟨r,hr,rfl⟩)];simp
    unfold rRounds at hpr
    have hnl:(rNext a.n a.es a.ms (lf l) u rank closed).length<=a.n:=by
      have h1:((rNext a.n a.es a.ms (lf l) u rank closed).map (·.st)).length<=a.n:=QaP a.n _ (by
        rw[List.nodup_iff_pairwise_ne,List.pairwise_map];exact hst.1.imp fun h=>by omega) fun x hx=>by
          obtain⟨r,hr,rfl⟩:=List.mem_map.1 hx
          exact(hst.2 r hr).1
      simpa using h1
    generalize rNext a.n a.es a.ms (lf l) u rank closed=nx at*
    simp(disch:=first|omega|exact PairsOK.mk rfl|(simp only[lenW]<;>omega)) only[List.cons_append,List.nil_append,wW,wV,simprocAttr]
    refine ch (HSpec.of_F (FrzL.cons (FrzTo.same _) (FrzL.cons (FrzTo.all (g:=0) (cs:=bls l) gg (by rw[Qb3,hl,Nat.mul_one])) (FrzL.cons (FrzTo.same _) (FrzL.cons (FrzTo.same _) (FrzL.cons (FrzTo.same _) FrzL.nil))))) (FSpec.Qba hN (by(try simp only[noRefs,Qbe,Qae,Qag,Qaa,Qaf,Qac,Qad,Qak,Qab,noRef,Bool.and_self,Bool.and_true])<;>rfl) (Qgs _) (QbA _) rfl)) ?_
    by_cases h0:nx.length=0
    · rw [if_pos h0] at hpr
      simp(disch:=first|omega|exact PairsOK.mk rfl|(simp only[lenW]<;>omega)) only[h0,wW,wV,simprocAttr]
      refine⟨(rank,l,rr,k),⟨hpr,hl,hrr⟩,?_⟩
      try dsimp only[dT2,dH]
      exact⟨[(41,.blk 41 0),(50,.blk 50 0),(61,.blk 61 0),(72,.blk 72 0),(73,.blk 73 0)],rfl,au0,au9,au10⟩
    · rw [if_neg h0] at hpr
      obtain⟨r0,hr0⟩:∃r,r∈nx:=by
        cases nx with
        |nil=>exact absurd rfl h0
        |cons r _=>exact⟨r,by simp⟩
      have hd0:=hdec r0 hr0
      have h0':¬(nx.length:Int)=0:=by omega
      simp(disch:=first|omega|exact PairsOK.mk rfl|(simp only[lenW]<;>omega)) only[h0',wW,wV,simprocAttr]
      refine Qay 300 (fun j:Nat=>dT1 a u closed++[(13,.int .i64 rank),(14,rms nx),(15,.int .i64 j)])
        (fun j=>dH a (offs l ((nx.map (·.st)).take j)) (SD.putR rr (nx.take j)) k) (fun j=>j<=nx.length) (fun j=>nx.length-j) 0 4 400
        (fun _:Unit=>dT1 a u closed++[(13,.int .i64 rank),(14,rms nx)])
        (fun _=>dH a (offs l (nx.map (·.st))) (SD.putR rr nx) k) (fun _=>True) ?_ (Nat.zero_le _) ?_ ?_
      · try dsimp only [dT1, dH, List.cons_append, List.nil_append]
        exact⟨[(41,.blk 41 0),(50,.blk 50 0),(61,.blk 61 0),(72,.blk 72 0),(73,.blk 73 0)],rfl,au0,au9,au10⟩
      · rintro j hj
        try dsimp only[dT1,dH]
        by_cases hjl:j<nx.length
        · obtain ⟨r, hr⟩ := Qax hjl
          have hrn:=(hst.2 r (List.mem_of_getElem? hr)).1
          have hst2:=Qht (l:=l) (xs:=nx.map (·.st)) (i:=j) (x:=r.st) (by rw[List.getElem?_map,hr];rfl)
          have hst3:=Ql3 (rs:=rr) hr
          have hol:(offs l ((nx.map (·.st)).take j)).length=a.n:=by rw[Qck];exact hl
          have hpl:(SD.putR rr (nx.take j)).length=a.n:=by rw[SD.Qfn];exact hrr
          generalize offs l ((nx.map (·.st)).take j)=L at*
          generalize SD.putR rr (nx.take j)=R at*
          have h1:r.st+1<=L.length:=by omega
          have hrl:=QbA R
          have g1:r.st*4+4<=R.length*4:=by omega
          have pp:=put_rm' (l:=R) (i:=r.st) (r:=r) (by omega)
          simp(disch:=first|omega|exact PairsOK.mk rfl|(simp only[lenW]<;>omega)) only[List.cons_append,List.nil_append,hjl,QbU hr,hrn,h1,Qb4,hrl,g1,pp,wW,wV,simprocAttr]
          refine⟨j+1,by omega,by omega,?_⟩
          try dsimp only[dT1,dH,List.cons_append,List.nil_append]
          rw[hst2,hst3]
          exact⟨[(41,.blk 41 0),(50,.blk 50 0),(61,.blk 61 0),(72,.blk 72 0),(73,.blk 73 0)],rfl,au0,au9,au10⟩
        · have e : j = nx.length := by omega
          have e2:(nx.map (·.st)).take j=nx.map (·.st):=by rw[List.take_of_length_le];simp;omega
          have e3:nx.take j=nx:=by rw[List.take_of_length_le];omega
          rw[e2,e3]
          simp(disch:=first|omega|exact PairsOK.mk rfl|(simp only[lenW]<;>omega)) only[List.cons_append,List.nil_append,hjl,wW,wV,simprocAttr]
          refine⟨(),?_⟩
          try dsimp only[dT1,dH,List.cons_append,List.nil_append]
          exact⟨[(41,.blk 41 0),(50,.blk 50 0),(61,.blk 61 0),(72,.blk 72 0),(73,.blk 73 0)],rfl,au0,au9,au10⟩
      rintro _ _
      try dsimp only[dT1,dH]
      simp(disch:=first|omega|exact PairsOK.mk rfl|(simp only[lenW]<;>omega)) only[List.cons_append,List.nil_append,wW,wV,simprocAttr]
      refine⟨(rank+1,offs l (nx.map (·.st)),SD.putR rr nx,rank),by dsimp only;exact hd0,⟨by dsimp only;rw[Qck];exact hl,by dsimp only;rw[SD.Qfn];exact hrr,by dsimp only;omega,fu,by dsimp only;omega,hpr⟩,?_⟩
      try dsimp only[dT1,dH,List.cons_append,List.nil_append]
      exact⟨[(41,.blk 41 0),(50,.blk 50 0),(61,.blk 61 0),(72,.blk 72 0),(73,.blk 73 0)],rfl,au0,au9,au10⟩
  rintro⟨rank,l,rr,k⟩ ⟨hfin,hl,hrr⟩
  dsimp only at hfin hl hrr⊢
  have hsup:=restrict40 a l h hl hel
  have hdi:=dist33 a l h.inN hl (by omega) hel (by omega)
  have hdl:(rDist a.es (lf l) (a.n+1) 1 (o0 a.n a.ms (lf l))).length=a.n:=by rw[Qev];simp[o0]
  have hres:dRes a f u closed=⟨kept a.n l,dists a.n l (rDist a.es (lf l) (a.n+1) 1 (o0 a.n a.ms (lf l))),asm a.n l rr,k,restr a (lf l),(sAll a (lf l)).1⟩:=by
    unfold dRes;rw[<-hfin]
  rw[hres]
  generalize rDist a.es (lf l) (a.n+1) 1 (o0 a.n a.ms (lf l))=d at*
  try dsimp only[dT2,dH]
  simp(disch:=first|omega|exact PairsOK.mk rfl|(simp only[lenW]<;>omega)) only[wW,wV,simprocAttr]
  refine ch (HSpec.of_F (FrzL.cons (FrzTo.same _) (FrzL.cons (FrzTo.all (g:=0) (cs:=bls l) gg (by rw[Qb3,hl,Nat.mul_one])) FrzL.nil)) (FSpec.Qba hdi (by(try simp only[noRefs,Qbe,Qae,Qag,Qaa,Qaf,Qac,Qad,Qak,Qab,noRef,Bool.and_self,Bool.and_true])<;>rfl) (QbL _) (by rw[Qbx,hdl,Nat.mul_one]) rfl)) ?_
  simp(disch:=first|omega|exact PairsOK.mk rfl|(simp only[lenW]<;>omega)) only[wW,wV,simprocAttr]
  refine Qay 500 (fun i:Nat=>dT2 a++[(16,.fsl (ints d) a.n 1),(17,.int .i64 i)])
    (fun i=>[(41,.cells 0 nine),(50,.cells 0 (rsA a)),(61,.cells 0 [.sl 76 0 0 (kept i l).length 1,.sl 77 0 0 (kept i l).length 1,.sl 78 0 0 (asm i l rr).length 4,.int .i64 (k:Int),.nilsl,.int .i64 0,.nilsl,.nilsl,.nilsl]),(72,.cells 0 (bls l)),(73,.cells 0 (rr.flatMap rmC)),(76,.cells 0 (ints (nz (kept i l)))),(77,.cells 0 (ints (dists i l d))),(78,.cells 0 ((asm i l rr).flatMap rmC))])
    (fun i=>i<=a.n) (fun i=>a.n-i) 0 6 600
    (fun _:Unit=>[(10,.fsl (bls l) a.n 1),(4,.ptr 50 0 0),(8,.ptr 41 0 0),(9,.ptr 61 0 0)])
    (fun _=>[(41,.cells 0 nine),(50,.cells 0 (rsA a)),(61,.cells 0 [.sl 76 0 0 (kept a.n l).length 1,.sl 77 0 0 (kept a.n l).length 1,.sl 78 0 0 (asm a.n l rr).length 4,.int .i64 (k:Int),.nilsl,.int .i64 0,.nilsl,.nilsl,.nilsl]),(76,.cells 0 (ints (nz (kept a.n l)))),(77,.cells 0 (ints (dists a.n l d))),(78,.cells 0 ((asm a.n l rr).flatMap rmC))]) (fun _=>True) ?_ (Nat.zero_le _) ?_ ?_
  · try dsimp only [dT2, List.cons_append, List.nil_append]
    exact⟨[(41,.blk 41 0),(50,.blk 50 0),(61,.blk 61 0),(72,.blk 72 0),(73,.blk 73 0),(76,.nil),(77,.nil),(78,.nil)],rfl,au0,au9,au10⟩
  · rintro i hi
    try dsimp only[dT2]
    by_cases hlt:i<a.n
    · have hks := Qeu (i := i) (l := l)
      have hds:=Qge (i:=i) (l:=l) (d:=d)
      have has:=Qmx (i:=i) (l:=l) (rr:=rr)
      have hkl:=@QfC i l
      have hdl2:=@QcF i l d
      have hal:=@Qkd i l rr
      generalize kept i l=K at*
      generalize dists i l d=D at*
      generalize asm i l rr=E at*
      have hil:i<l.length:=by omega
      have hid:i<d.length:=by omega
      have hdx:d[i]?=some (d.getD i 0):=by rw[List.getElem?_eq_getElem hid];simp[hid]
      by_cases h1:lf l i=true
      · rw [if_pos h1] at hks hds
        rw[h1,if_pos rfl,Option.toList,List.append_nil]at has
        simp(disch:=first|omega|exact PairsOK.mk rfl|(simp only[lenW]<;>omega)) only[List.cons_append,List.nil_append,hlt,Qdx hil,Qas hdx,h1,hdl2,wW,wV,simprocAttr]
        refine QdT [(100,[76])] rfl rfl ?_
        simp(disch:=first|omega|exact PairsOK.mk rfl|(simp only[lenW]<;>omega)) only[List.cons_append,List.nil_append,hlt,Qdx hil,Qas hdx,h1,hdl2,wW,wV,simprocAttr]
        refine⟨⟨⟨_,rfl,fun b hb=>hb⟩,trivial⟩,i+1,by omega,by omega,?_⟩
        rw[hks,hds,has,List.length_append,Qa2,QaK,QaK]
        exact⟨[(41,.blk 41 0),(50,.blk 50 0),(61,.blk 61 0),(72,.blk 72 0),(73,.blk 73 0),(76,.blk 76 1),(77,.blk 77 1),(78,.blk 78 0)],rfl,au0,au9,au10⟩
      · rw [if_neg h1, List.append_nil] at hks hds
        rw[Bool.not_eq_true]at h1
        obtain⟨r,hr⟩:=Qax (l:=rr) (i:=i) (by omega)
        rw[h1,if_neg (by decide),hr,Option.toList]at has
        have hel4:=QbA E
        have hrl:=QbA rr
        have g1:i*4+4<=rr.length*4:=by omega
        simp(disch:=first|omega|exact PairsOK.mk rfl|(simp only[lenW]<;>omega)) only[List.cons_append,List.nil_append,hlt,Qdx hil,h1,QbU hr,hel4,hrl,g1,wW,wV,simprocAttr]
        refine⟨i+1,by omega,by omega,?_⟩
        rw[hks,hds,has,List.flatMap_append,List.length_append]
        exact⟨[(41,.blk 41 0),(50,.blk 50 0),(61,.blk 61 0),(72,.blk 72 0),(73,.blk 73 0),(76,.blk 76 0),(77,.blk 77 0),(78,.blk 78 1)],rfl,au0,au9,au10⟩
    · have e : i = a.n := by omega
      subst e
      simp(disch:=first|omega|exact PairsOK.mk rfl|(simp only[lenW]<;>omega)) only[List.cons_append,List.nil_append,hlt,wW,wV,simprocAttr]
      refine⟨(),?_⟩
      exact⟨[(41,.blk 41 0),(50,.blk 50 0),(61,.blk 61 0),(76,.blk 76 0),(77,.blk 77 0),(78,.blk 78 0)],rfl,RO.zero,au9,RT.cons (Rn.fz (b:=72) (g:=0) gg rfl rfl (by rw[Qb3,hl,Nat.mul_one]) (RnL.same (Qab _))) au10⟩
  rintro _ _
  have hdl3:=@QcF a.n l d
  generalize restr a (lf l)=S at*
  generalize (sAll a (lf l)).1=O at*
  simp(disch:=first|omega|exact PairsOK.mk rfl|(simp only[lenW]<;>omega)) only[wW,wV,simprocAttr]
  refine cp hsup ?_
  simp(disch:=first|omega|exact PairsOK.mk rfl|(simp only[lenW]<;>omega)) only[wW,wV,simprocAttr]
  refine⟨.inr trivial,_,rfl,?_⟩
  refine Rn.agg (RnL.cons (Rn.fz0 (g:=0) rfl (by simp[ints]) (RnL.same (Qaa _))) (RnL.cons ?_ (RnL.cons (Rn.fz0 (g:=0) rfl (QbA _) (RnL.same (Qad _))) (RnL.same (by simp only[noRef,noRefs,Qaa,Qac];rfl)))))
  have:(dists a.n l d).length=(kept a.n l).length:=hdl3
  show Rn 0 π0 _ (.fsl (ints (dists a.n l d)) (dists a.n l d).length 1) _
  rw[this]
  exact Rn.fz0 (g:=0) rfl (by rw[Qbx,this,Nat.mul_one]) (RnL.same (Qaa _))
end Go.AM.SE
namespace Go.AM.SE
open Go.Proofs Go.AM.SD Go.AM.OD
theorem same27 (x y:Res) (hx:ROk x) (hy:ROk y):PSpec Try.prog 15 [rsV x,rsV y] (.bool (resB x y)):=by
 refine PSpec.QaI 64 ok15 rfl (by(try simp only[noRefs,Qbe,Qae,Qag,Qaa,Qaf,Qac,Qad,Qak,Qab,noRef,Bool.and_self,Bool.and_true])<;>rfl) rfl ?_
 have c1:=eq14N x.kept y.kept hx.kept
 have c2:=sameInts x.dist y.dist (by have:=hx.dist;omega)
 have c3:=sameRems18 x.rem y.rem hx.rem
 have c5:=same30 x.sup y.sup hx.sup hy.sup
 have c6:=eq14N x.orig y.orig hx.orig
 unfold resB
 generalize autB x.sup y.sup=b5 at*
 generalize decide (x.kept=y.kept)=b1 at*
 generalize decide (x.dist=y.dist)=b2 at*
 generalize decide (x.rem=y.rem)=b3 at*
 generalize decide (x.orig=y.orig)=b6 at*
 simp(disch:=first|omega|exact PairsOK.mk rfl|(simp only[lenW]<;>omega)) only[s15,wW,wV,simprocAttr]
 refine cp c1 ?_
 cases b1 with
 |false=>
  rw[Bool.false_and]
  simp(disch:=first|omega|exact PairsOK.mk rfl|(simp only[lenW]<;>omega)) only[wW,wV,simprocAttr]
  exact⟨.inr trivial,_,rfl,rfl⟩
 | true =>
  rw[Bool.true_and]
  simp(disch:=first|omega|exact PairsOK.mk rfl|(simp only[lenW]<;>omega)) only[wW,wV,simprocAttr]
  refine cp c2 ?_
  cases b2 with
  |false=>
   rw[Bool.false_and]
   simp(disch:=first|omega|exact PairsOK.mk rfl|(simp only[lenW]<;>omega)) only[wW,wV,simprocAttr]
   exact⟨.inr trivial,_,rfl,rfl⟩
  | true =>
   rw[Bool.true_and]
   simp(disch:=first|omega|exact PairsOK.mk rfl|(simp only[lenW]<;>omega)) only[wW,wV,simprocAttr]
   refine cp c3 ?_
   cases b3 with
   |false=>
    rw[Bool.false_and]
    simp(disch:=first|omega|exact PairsOK.mk rfl|(simp only[lenW]<;>omega)) only[wW,wV,simprocAttr]
    exact⟨.inr trivial,_,rfl,rfl⟩
   | true =>
    rw[Bool.true_and]
    by_cases h4:x.rounds=y.rounds
    ·rw [decide_eq_true h4, Bool.true_and]
     simp(disch:=first|omega|exact PairsOK.mk rfl|(simp only[lenW]<;>omega)) only[h4,wW,wV,simprocAttr]
     refine cp c5 ?_
     cases b5 with
     |false=>
      rw[Bool.false_and]
      simp(disch:=first|omega|exact PairsOK.mk rfl|(simp only[lenW]<;>omega)) only[wW,wV,simprocAttr]
      exact⟨.inr trivial,_,rfl,rfl⟩
     |true=>
      rw[Bool.true_and]
      simp(disch:=first|omega|exact PairsOK.mk rfl|(simp only[lenW]<;>omega)) only[wW,wV,simprocAttr]
      refine cp c6 ?_
      simp(disch:=first|omega|exact PairsOK.mk rfl|(simp only[lenW]<;>omega)) only[wW,wV,simprocAttr]
      exact⟨.inr trivial,_,rfl,rfl⟩
    ·rw [decide_eq_false h4, Bool.false_and]
     simp(disch:=first|omega|exact PairsOK.mk rfl|(simp only[lenW]<;>omega)) only[h4,wW,wV,simprocAttr]
     exact⟨.inr trivial,_,rfl,rfl⟩
end Go.AM.SE
namespace Go.AM.SE
open Go.Proofs Go.AM.SD Go.AM.OD
theorem QeC {a:Aut} {f u:List Nat} (all:Bool) (h:WfA a) (hq:QOk a f u):dRes a f u (!all)=pRes a f u all:=by
 have hA0:=Agr0 (n:=a.n) hq.fn (by rw[List.nodup_iff_pairwise_ne];exact hq.fS.imp fun h=>by omega)
 obtain⟨h1,h2,h3,h4⟩:=Qk9 (unc:=u) (all:=all) h.inN h.nd h.srt (a.n+1) 2 (left0 a.n f) (f.map rm0) ((List.range a.n).map rm0) (if f.length=0 then 0 else 1) QbK hA0
 have h5:=Qnf h4 (Qhq _) (Qhp _)
 unfold dRes pRes dFin fin
 dsimp only
 rw[h5,QhZ h.inN h.nd (k:=a.n+1) (by omega),h1,h2]
theorem Qke {a:Aut} {f u:List Nat} {closed:Bool} (h:WfA a):ROk (dRes a f u closed):=by
 have hn5:=h.n5
 unfold dRes
 generalize dFin a f u closed=F
 have w:=Qmg (left:=lf F.1) h
 have hsl:=(Qjz (left:=lf F.1) h).1.fi.len
 have h1:=@QfC a.n F.1
 have h2:=@QcF a.n F.1 (rDist a.es (lf F.1) (a.n+1) 1 (o0 a.n a.ms (lf F.1)))
 have h3:=@Qkd a.n F.1 F.2.1
 have h4:=Qa1 w.al w.al5
 have h5:=Qa1 w.ms w.msn
 have h6:=w.n5
 have h7:=WfA.el1 w
 exact⟨by dsimp only;omega,by dsimp only;omega,by dsimp only;omega,by dsimp only;omega,by dsimp only;omega,by dsimp only;omega,by dsimp only;omega⟩
end Go.AM.SE
namespace Go.AM.SE
open Go.Proofs Go.AM.SD Go.AM.SO
theorem Kept8 (a:Aut) (f u:List Nat) (h:WfA a) (hq:QOk a f u) (hel:a.es.length<=1000000):PSpec Try.prog 8 [aV a,sliN f,sliN u] (.tup [sliN (pRes a f u true).kept,.int .i64 0]):=by
 have h9:=Synth23 a f u h hq hel
 refine PSpec.of_rn 64 EC.ok8 rfl (by(try simp only[noRefs,Qae,Qag,Qaa,Qaf,Qac,Qad,Qab,noRef,Bool.and_self,Bool.and_true])<;>rfl) (by simp only[noRef,noRefs,Qaa];rfl) ?_
 have hn:=QcE (pRes a f u true)
 generalize pRes a f u true=r at*
 simp(disch:=first|omega|exact PairsOK.mk rfl|(simp only[lenW]<;>omega)) only[EC.s8,wW,wV,simprocAttr]
 refine cp h9 ?_
 simp(disch:=first|omega|exact PairsOK.mk rfl|(simp only[lenW]<;>omega)) only[wW,wV,simprocAttr]
 exact⟨.inr trivial,_,rfl,Rn.same (by simp only[noRef,noRefs,Qaa];rfl)⟩
theorem claw3 (a:Au) (f u:List Int):
    W2 Try.prog ⟨EC.s3.n,0⟩ EC.s3.body (fun e B=>(e= .normal\/e= .ret)/\resV B.T B.h EC.s3.res=some [.bool true]) ⟨argT 0 [auV a,.agg [sli f,sli u]],.e⟩:=by
  refine(wpC.toW (n:=40) (Q:=fun e T h _=>(e= .normal\/e= .ret)/\resV T h EC.s3.res=some [.bool true]) (show wS Try.prog ⟨EC.s3.n,0⟩ EC.s3.body [] 40 _ _ _ from ?_)).mono fun e B ⟨_,h⟩=>h
  have hkn:=EK.known4
  by_cases a1:(12:Int)<(a.al.length:Int)
  · simp (disch := first | omega | exact PairsOK.mk rfl | (simp only [lenW] <;> omega)) only [EC.s3, a1, wW, wV, simprocAttr]
    refine cp hkn ?_
    simp(disch:=first|omega|exact PairsOK.mk rfl|(simp only[lenW]<;>omega)) only[a1,wW,wV,simprocAttr]
    refine cp hkn ?_
    simp(disch:=first|omega|exact PairsOK.mk rfl|(simp only[lenW]<;>omega)) only[wW,wV,simprocAttr]
    exact⟨.inr trivial,rfl⟩
  by_cases a2:(12:Int)<(a.ms.length:Int)
  · simp (disch := first | omega | exact PairsOK.mk rfl | (simp only [lenW] <;> omega)) only [EC.s3, a1, a2, wW, wV, simprocAttr]
    refine cp hkn ?_
    simp(disch:=first|omega|exact PairsOK.mk rfl|(simp only[lenW]<;>omega)) only[a1,a2,wW,wV,simprocAttr]
    refine cp hkn ?_
    simp(disch:=first|omega|exact PairsOK.mk rfl|(simp only[lenW]<;>omega)) only[wW,wV,simprocAttr]
    exact⟨.inr trivial,rfl⟩
  by_cases a3:(12:Int)<(a.es.length:Int)
  · simp (disch := first | omega | exact PairsOK.mk rfl | (simp only [lenW] <;> omega)) only [EC.s3, a1, a2, a3, wW, wV, simprocAttr]
    refine cp hkn ?_
    simp(disch:=first|omega|exact PairsOK.mk rfl|(simp only[lenW]<;>omega)) only[a1,a2,a3,wW,wV,simprocAttr]
    refine cp hkn ?_
    simp(disch:=first|omega|exact PairsOK.mk rfl|(simp only[lenW]<;>omega)) only[wW,wV,simprocAttr]
    exact⟨.inr trivial,rfl⟩
  by_cases a4:(40:Int)<a.n
  · simp (disch := first | omega | exact PairsOK.mk rfl | (simp only [lenW] <;> omega)) only [EC.s3, a1, a2, a3, a4, wW, wV, simprocAttr]
    refine cp hkn ?_
    simp(disch:=first|omega|exact PairsOK.mk rfl|(simp only[lenW]<;>omega)) only[a1,a2,a3,a4,wW,wV,simprocAttr]
    refine cp hkn ?_
    simp(disch:=first|omega|exact PairsOK.mk rfl|(simp only[lenW]<;>omega)) only[wW,wV,simprocAttr]
    exact⟨.inr trivial,rfl⟩
  by_cases a5:(8:Int)<(f.length:Int)
  · simp (disch := first | omega | exact PairsOK.mk rfl | (simp only [lenW] <;> omega)) only [EC.s3, a1, a2, a3, a4, a5, wW, wV, simprocAttr]
    refine cp hkn ?_
    simp(disch:=first|omega|exact PairsOK.mk rfl|(simp only[lenW]<;>omega)) only[a1,a2,a3,a4,a5,wW,wV,simprocAttr]
    refine cp hkn ?_
    simp(disch:=first|omega|exact PairsOK.mk rfl|(simp only[lenW]<;>omega)) only[wW,wV,simprocAttr]
    exact⟨.inr trivial,rfl⟩
  by_cases a6:(8:Int)<(u.length:Int)
  · simp (disch := first | omega | exact PairsOK.mk rfl | (simp only [lenW] <;> omega)) only [EC.s3, a1, a2, a3, a4, a5, a6, wW, wV, simprocAttr]
    refine cp hkn ?_
    simp(disch:=first|omega|exact PairsOK.mk rfl|(simp only[lenW]<;>omega)) only[a1,a2,a3,a4,a5,a6,wW,wV,simprocAttr]
    refine cp hkn ?_
    simp(disch:=first|omega|exact PairsOK.mk rfl|(simp only[lenW]<;>omega)) only[wW,wV,simprocAttr]
    exact⟨.inr trivial,rfl⟩
  have b1:a.al.length<=9223372036854775807:=by omega
  have b2:a.ms.length<=9223372036854775807:=by omega
  have b3:a.es.length<=140737488355328:=by omega
  have hC:=check5 a b1 b2 b3
  have hF:=list6 f a.n (by omega)
  have hU:=list6 u 32 (by omega)
  have hE:=check7X a f u b1 b2 b3 (by omega) (by omega)
  unfold qErr at hE
  by_cases e1:auErr a=0
  rotate_left
  · rw [if_pos e1] at hE
    have h8:=kept8X a f u _ e1 hE
    have h9:=synth9X a f u _ e1 hE
    have h10:=closed10X a f u _ e1 hE
    have h11:=next11X a f u _ e1 hE 2
    generalize auErr a=e at*
    have e0:=e1
    simp(disch:=first|omega|exact PairsOK.mk rfl|(simp only[lenW]<;>omega)) only[EC.s3,a1,a2,a3,a4,a5,a6,wW,wV,simprocAttr]
    refine cp hkn ?_
    simp(disch:=first|omega|exact PairsOK.mk rfl|(simp only[lenW]<;>omega)) only[a1,a2,a3,a4,a5,a6,wW,wV,simprocAttr]
    refine cp hC ?_
    simp(disch:=first|omega|exact PairsOK.mk rfl|(simp only[lenW]<;>omega)) only[e1,wW,wV,simprocAttr]
    refine cp hE ?_
    simp(disch:=first|omega|exact PairsOK.mk rfl|(simp only[lenW]<;>omega)) only[wW,wV,simprocAttr]
    refine cp h8 ?_
    simp(disch:=first|omega|exact PairsOK.mk rfl|(simp only[lenW]<;>omega)) only[wW,wV,simprocAttr]
    refine cp h9 ?_
    simp(disch:=first|omega|exact PairsOK.mk rfl|(simp only[lenW]<;>omega)) only[wW,wV,simprocAttr]
    refine cp h10 ?_
    simp(disch:=first|omega|exact PairsOK.mk rfl|(simp only[lenW]<;>omega)) only[wW,wV,simprocAttr]
    refine cp h11 ?_
    simp(disch:=first|omega|exact PairsOK.mk rfl|(simp only[lenW]<;>omega)) only[e0,wW,wV,simprocAttr]
    refine cp none12X ?_
    simp(disch:=first|omega|exact PairsOK.mk rfl|(simp only[lenW]<;>omega)) only[wW,wV,simprocAttr]
    refine cp none12X ?_
    simp(disch:=first|omega|exact PairsOK.mk rfl|(simp only[lenW]<;>omega)) only[wW,wV,simprocAttr]
    exact⟨.inr trivial,rfl⟩
  rw[if_neg (by simpa using e1)]at hE
  rw[e1]at hC
  by_cases e2:setErr f a.n=0
  rotate_left
  · rw [if_pos e2] at hE
    have h8:=kept8X a f u _ e2 hE
    have h9:=synth9X a f u _ e2 hE
    have h10:=closed10X a f u _ e2 hE
    have h11:=next11X a f u _ e2 hE 2
    generalize setErr f a.n=e at*
    have e0:=e2
    simp(disch:=first|omega|exact PairsOK.mk rfl|(simp only[lenW]<;>omega)) only[EC.s3,a1,a2,a3,a4,a5,a6,wW,wV,simprocAttr]
    refine cp hkn ?_
    simp(disch:=first|omega|exact PairsOK.mk rfl|(simp only[lenW]<;>omega)) only[a1,a2,a3,a4,a5,a6,wW,wV,simprocAttr]
    refine cp hC ?_
    simp(disch:=first|omega|exact PairsOK.mk rfl|(simp only[lenW]<;>omega)) only[wW,wV,simprocAttr]
    refine cp hF ?_
    simp(disch:=first|omega|exact PairsOK.mk rfl|(simp only[lenW]<;>omega)) only[e2,wW,wV,simprocAttr]
    refine cp hE ?_
    simp(disch:=first|omega|exact PairsOK.mk rfl|(simp only[lenW]<;>omega)) only[wW,wV,simprocAttr]
    refine cp h8 ?_
    simp(disch:=first|omega|exact PairsOK.mk rfl|(simp only[lenW]<;>omega)) only[wW,wV,simprocAttr]
    refine cp h9 ?_
    simp(disch:=first|omega|exact PairsOK.mk rfl|(simp only[lenW]<;>omega)) only[wW,wV,simprocAttr]
    refine cp h10 ?_
    simp(disch:=first|omega|exact PairsOK.mk rfl|(simp only[lenW]<;>omega)) only[wW,wV,simprocAttr]
    refine cp h11 ?_
    simp(disch:=first|omega|exact PairsOK.mk rfl|(simp only[lenW]<;>omega)) only[e0,wW,wV,simprocAttr]
    refine cp none12X ?_
    simp(disch:=first|omega|exact PairsOK.mk rfl|(simp only[lenW]<;>omega)) only[wW,wV,simprocAttr]
    refine cp none12X ?_
    simp(disch:=first|omega|exact PairsOK.mk rfl|(simp only[lenW]<;>omega)) only[wW,wV,simprocAttr]
    exact⟨.inr trivial,rfl⟩
  rw[if_neg (by simpa using e2)]at hE
  rw[e2]at hF
  by_cases e3:setErr u 32=0
  rotate_left
  · have h8 := kept8X a f u _ e3 hE
    have h9:=synth9X a f u _ e3 hE
    have h10:=closed10X a f u _ e3 hE
    have h11:=next11X a f u _ e3 hE 2
    generalize setErr u 32=e at*
    have e0:=e3
    simp(disch:=first|omega|exact PairsOK.mk rfl|(simp only[lenW]<;>omega)) only[EC.s3,a1,a2,a3,a4,a5,a6,wW,wV,simprocAttr]
    refine cp hkn ?_
    simp(disch:=first|omega|exact PairsOK.mk rfl|(simp only[lenW]<;>omega)) only[a1,a2,a3,a4,a5,a6,wW,wV,simprocAttr]
    refine cp hC ?_
    simp(disch:=first|omega|exact PairsOK.mk rfl|(simp only[lenW]<;>omega)) only[wW,wV,simprocAttr]
    refine cp hF ?_
    simp(disch:=first|omega|exact PairsOK.mk rfl|(simp only[lenW]<;>omega)) only[wW,wV,simprocAttr]
    refine cp hU ?_
    simp(disch:=first|omega|exact PairsOK.mk rfl|(simp only[lenW]<;>omega)) only[e3,wW,wV,simprocAttr]
    refine cp hE ?_
    simp(disch:=first|omega|exact PairsOK.mk rfl|(simp only[lenW]<;>omega)) only[wW,wV,simprocAttr]
    refine cp h8 ?_
    simp(disch:=first|omega|exact PairsOK.mk rfl|(simp only[lenW]<;>omega)) only[wW,wV,simprocAttr]
    refine cp h9 ?_
    simp(disch:=first|omega|exact PairsOK.mk rfl|(simp only[lenW]<;>omega)) only[wW,wV,simprocAttr]
    refine cp h10 ?_
    simp(disch:=first|omega|exact PairsOK.mk rfl|(simp only[lenW]<;>omega)) only[wW,wV,simprocAttr]
    refine cp h11 ?_
    simp(disch:=first|omega|exact PairsOK.mk rfl|(simp only[lenW]<;>omega)) only[e0,wW,wV,simprocAttr]
    refine cp none12X ?_
    simp(disch:=first|omega|exact PairsOK.mk rfl|(simp only[lenW]<;>omega)) only[wW,wV,simprocAttr]
    refine cp none12X ?_
    simp(disch:=first|omega|exact PairsOK.mk rfl|(simp only[lenW]<;>omega)) only[wW,wV,simprocAttr]
    exact⟨.inr trivial,rfl⟩
  rw[e3]at hU hE
  obtain⟨ha,hw⟩:=Qmu e1 (by omega)
  have sf:=QcG e2
  have su:=QcG e3
  have hfz:nz (f.map Int.toNat)=f:=QdV fun x hx=>(sf.1 x hx).1
  have huz:nz (u.map Int.toNat)=u:=QdV fun x hx=>(su.1 x hx).1
  have hfs:=Qcb sf
  have hus:=Qcb su
  have hfn:∀x∈f.map Int.toNat,x<(natA a).n:=fun x hx=>by
    obtain⟨y,hy,rfl⟩:=List.mem_map.1 hx
    have:=sf.1 y hy
    show y.toNat<a.n.toNat
    omega
  have hun:∀x∈u.map Int.toNat,x<32:=fun x hx=>by
    obtain⟨y,hy,rfl⟩:=List.mem_map.1 hx
    have:=su.1 y hy
    omega
  have hq:QOk (natA a) (f.map Int.toNat) (u.map Int.toNat):=⟨hfs,hfn,hus,hun⟩
  have hel:(natA a).es.length<=1000000:=by
    show(List.map _ _).length<=_
    rw[List.length_map];omega
  have hav:auV a=aV (natA a):=by rw[<-QlF,ha]
  have hfv:sli f=sliN (f.map Int.toNat):=by rw[<-Qbb,hfz]
  have huv:sli u=sliN (u.map Int.toNat):=by rw[<-Qbb,huz]
  have hE':=hE
  rw[hav,hfv,huv]at hE'
  have h8:=Kept8 (natA a) _ _ hw hq hel
  have h9:=Synth23 (natA a) _ _ hw hq hel
  have h10:=Closed24 (natA a) _ _ hw hq hel
  have h11:=Next11 (natA a) _ _ 2 hw hq hE' (by omega)
  have h13:=result26 (natA a) _ _ false hw hq hel
  have h13t:=result26 (natA a) _ _ true hw hq hel
  rw[show dRes (natA a) (f.map Int.toNat) (u.map Int.toNat) false=_ from QeC true hw hq]at h13
  rw[show dRes (natA a) (f.map Int.toNat) (u.map Int.toNat) true=_ from QeC false hw hq]at h13t
  have r1:ROk (pRes (natA a) (f.map Int.toNat) (u.map Int.toNat) true):=by rw[<-QeC true hw hq];exact Qke hw
  have r2:ROk (pRes (natA a) (f.map Int.toNat) (u.map Int.toNat) false):=by rw[<-QeC false hw hq];exact Qke hw
  rw[<-hav,<-hfv,<-huv]at h8 h9 h10 h11 h13 h13t
  have n1:=QcE (pRes (natA a) (f.map Int.toNat) (u.map Int.toNat) true)
  have n2:=QcE (pRes (natA a) (f.map Int.toNat) (u.map Int.toNat) false)
  generalize pNext _ _ _ _ _ _ _=R at*
  generalize pRes (natA a) (f.map Int.toNat) (u.map Int.toNat) true=x at*
  generalize pRes (natA a) (f.map Int.toNat) (u.map Int.toNat) false=y at*
  have h14:=sameInts (nz x.kept) (nz x.kept) (by rw[nz,List.length_map];have:=r1.kept;omega)
  rw[decide_eq_true rfl,Qbb]at h14
  have s1:=same27 x x r1 r1
  have s2:=same27 y y r2 r2
  rw[QlZ]at s1 s2
  simp(disch:=first|omega|exact PairsOK.mk rfl|(simp only[lenW]<;>omega)) only[EC.s3,a1,a2,a3,a4,a5,a6,wW,wV,simprocAttr]
  refine cp hkn ?_
  simp(disch:=first|omega|exact PairsOK.mk rfl|(simp only[lenW]<;>omega)) only[a1,a2,a3,a4,a5,a6,wW,wV,simprocAttr]
  refine cp hC ?_
  simp(disch:=first|omega|exact PairsOK.mk rfl|(simp only[lenW]<;>omega)) only[wW,wV,simprocAttr]
  refine cp hF ?_
  simp(disch:=first|omega|exact PairsOK.mk rfl|(simp only[lenW]<;>omega)) only[wW,wV,simprocAttr]
  refine cp hU ?_
  simp(disch:=first|omega|exact PairsOK.mk rfl|(simp only[lenW]<;>omega)) only[wW,wV,simprocAttr]
  refine cp hE ?_
  simp(disch:=first|omega|exact PairsOK.mk rfl|(simp only[lenW]<;>omega)) only[wW,wV,simprocAttr]
  refine cp h8 ?_
  simp(disch:=first|omega|exact PairsOK.mk rfl|(simp only[lenW]<;>omega)) only[wW,wV,simprocAttr]
  refine cp h9 ?_
  simp(disch:=first|omega|exact PairsOK.mk rfl|(simp only[lenW]<;>omega)) only[wW,wV,simprocAttr]
  refine cp h10 ?_
  simp(disch:=first|omega|exact PairsOK.mk rfl|(simp only[lenW]<;>omega)) only[wW,wV,simprocAttr]
  refine cp h11 ?_
  simp(disch:=first|omega|exact PairsOK.mk rfl|(simp only[lenW]<;>omega)) only[wW,wV,simprocAttr]
  refine cp h13 ?_
  simp(disch:=first|omega|exact PairsOK.mk rfl|(simp only[lenW]<;>omega)) only[wW,wV,simprocAttr]
  refine cp h14 ?_
  simp(disch:=first|omega|exact PairsOK.mk rfl|(simp only[lenW]<;>omega)) only[wW,wV,simprocAttr]
  refine cp s1 ?_
  simp(disch:=first|omega|exact PairsOK.mk rfl|(simp only[lenW]<;>omega)) only[wW,wV,simprocAttr]
  refine cp h13t ?_
  simp(disch:=first|omega|exact PairsOK.mk rfl|(simp only[lenW]<;>omega)) only[wW,wV,simprocAttr]
  refine cp s2 ?_
  simp(disch:=first|omega|exact PairsOK.mk rfl|(simp only[lenW]<;>omega)) only[wW,wV,simprocAttr]
  exact⟨.inr trivial,rfl⟩
end Go.AM.SE
namespace Go.AM.SE
open Go.Proofs Go.AM.SD Go.AM.SO
abbrev tyI:Ty:= .int .i64
abbrev tyEg:Ty:= .st (.pair tyI (.pair tyI (.pair tyI .unit)))
abbrev tyAu:Ty:= .st (.pair (.sl tyI) (.pair tyI (.pair (.sl tyI) (.pair (.sl tyEg) .unit))))
abbrev tyQ:Ty:= .st (.pair (.sl tyI) (.pair (.sl tyI) .unit))
def inEg (d:tyEg.D):Eg:=⟨d.1,d.2.1,d.2.2.1⟩
def inAu (d:tyAu.D):Au:=⟨d.1,d.2.1,d.2.2.1,(show List tyEg.D from d.2.2.2.1).map inEg⟩
theorem rowV {t:Ty} {α:Type} {f:t.D->α} {g:α->List AV} (h:∀x,t.cells x=g (f x)) (l:List t.D):l.flatMap t.cells=(l.map f).flatMap g:=by
 rw[List.flatMap_map]
 have:t.cells=fun x=>g (f x):=funext h
 rw[this]
theorem slV {t:Ty} {α:Type} {f:t.D->α} {g:α->List AV} (h:∀x,t.cells x=g (f x)) (l:List t.D):Ty.cells (.sl t) l=[.fsl ((l.map f).flatMap g) (l.map f).length t.sz]:=by
 show[AV.fsl (l.flatMap t.cells) l.length t.sz]=_
 rw[rowV h,List.length_map]
theorem slI (l:List Int):Ty.cells (.sl tyI) l=[sli l]:=by
 show[AV.fsl (l.flatMap fun n=>[.int .i64 n]) l.length 1]=_
 have:(l.flatMap fun n=>[AV.int .i64 n])=ints l:=by
  induction l with
  |nil=>rfl
  |cons x l ih=>rw[List.flatMap_cons,ih];rfl
 rw[this]
theorem vAu (d:tyAu.D):tyAu.val d=auV (inAu d):=by
 show AV.agg (Ty.cells (.sl tyI) d.1++([.int .i64 d.2.1]++(Ty.cells (.sl tyI) d.2.2.1++(Ty.cells (.sl tyEg) d.2.2.2.1++[]))))=_
 rw[slI,slI,slV (t:=tyEg) (f:=inEg) (g:=egC) (fun _=>rfl)]
 rfl
theorem vQ (d:tyQ.D):tyQ.val d= .agg [sli d.1,sli d.2.1]:=by
 show AV.agg (Ty.cells (.sl tyI) d.1++(Ty.cells (.sl tyI) d.2.1++[]))=_
 rw[slI,slI];rfl
theorem okc3:okFn Try.prog 3 EC.s3=true:=EC.ok3
theorem claw3_in (d0:tyAu.D) (d1:tyQ.D) (h0:tyAu.wf d0) (h1:tyQ.wf d1):
  W2 Try.prog ⟨EC.s3.n,0⟩ EC.s3.body (fun e B=>(e= .normal\/e= .ret)/\resV B.T B.h EC.s3.res=some [.bool true]) ⟨argT 0 [tyAu.val d0,tyQ.val d1],.e⟩:=by
 rw[vAu,vQ]
 exact claw3 _ _ _
end Go.AM.SE
