/- A part of the proof of CellCompletesCardSaid: lemmas on the way (AmTq, AmHi, AmHx, AmHj, AmHk, AmHh, AmHw, AmHl). Conditions: none of ours. -/
import Derived.Shelf.SlSortCmp.NoneTotal
import Derived.Test.YtmoanlnleppcpaaGreatDoorProg
import Derived.KernelRfl
import Derived.Test.YtmoanlnleppcpaaGreatDoorAmZ11
set_option linter.unusedSectionVars false
set_option maxHeartbeats 32000000
set_option maxRecDepth 100000
set_option linter.unusedVariables false
set_option linter.unusedSimpArgs false
set_option linter.unusedSectionVars false
namespace Go.AM
open Go.Proofs Go.Shelf Go.Sort
variable {P:Program} {ρ:Ren} {α:Type} [Inhabited α]
abbrev encI (ci:α->List Int) (x:α):List Value:=(ci x).map (Value.int .i64)
abbrev avI (ci:α->List Int) (x:α):List AV:=(ci x).map (AV.int .i64)
theorem Qjs {ok:Okc} {c:Ctx ok} {w:World}:∀{ns:List Int} {vs:List Value},VPre c w (ns.map (AV.int .i64)) vs->∃r,vs=ns.map (Value.int .i64)++r
 |[],vs,_=>⟨vs,rfl⟩
 |n::ns,vs,h=>by
  simp only[List.map_cons,VPre]at h
  obtain⟨v,vs',rfl,hv,hr⟩:=h
  obtain⟨r,rfl⟩:=Qjs hr
  simp only[VRel]at hv
  simp_all
theorem QgF {ok:Okc} {c:Ctx ok} {w:World}:∀{ns:List Int} {r:List Value},VPre c w (ns.map (AV.int .i64)) (ns.map (Value.int .i64)++r)
 |[],r=>by simp[VPre]
 |n::ns,r=>by
  simp only[List.map_cons,VPre,List.cons_append]
  exact⟨_,_,rfl,by simp[VRel],QgF⟩
theorem QmP (ci:α->List Int) (l:List α):l.flatMap (avI ci)=(l.flatMap ci).map (AV.int .i64):=by rw[List.map_flatMap]
theorem Qlj (ci:α->List Int) (l:List α):l.flatMap (encI ci)=(l.flatMap ci).map (Value.int .i64):=by rw[List.map_flatMap]
theorem QgG {β γ:Type} {f:β->List γ} {k:Nat} (hk:∀x,(f x).length=k) (h0:0<k):∀{l:List β} {t:Nat},(l.flatMap f)[t]?=(l[t/k]?).bind fun x=>(f x)[t % k]?
  |[],t=>by simp
  | x :: l, t => by
    rw[List.flatMap_cons]
    by_cases h:t<k
    · simp_all [List.getElem?_append_left,Nat.div_eq_of_lt,Nat.mod_eq_of_lt]
    · rw [List.getElem?_append_right (by rw [hk]; omega), hk, QgG hk h0 (l := l)]
      simp_all [Nat.div_eq_sub_div,Nat.mod_eq_sub_mod]
theorem QhY {enc:α->List Value} {k:Nat} (hk:∀x,(enc x).length=k) (h0:0<k) (l:List α):Go.Sort.flatK enc k l.toArray=(l.flatMap enc).toArray:=by
 refine ext_get! ?_ fun t ht=>?_
 ·simp_all [List.map_const']
 ·have ht' : t < l.length * k := by simpa using ht
  have hd:t/k<l.length:=by simp_all [Nat.div_lt_iff_lt_mul]
  grind [get_flatK,QgG]
theorem QjG {F:List Value} {C:Array Value} {o:Nat} (h:o+F.length<=C.size):(putCells id o F.toArray C).toList.drop o=F++C.toList.drop (o+F.length):=by
 apply List.ext_getElem?
 grind [putCells]
theorem HSpec.sortK {f g b γ : Nat} (L : SlLaysF0.n6 P ρ) (hf : ρ.f 6 = f) (hcall : Callable P f) (k : Nat) (h0 : 0 < k) (aE : ∀ w, (isAgg (ρ.t 24)).run P w = .ok true w) (zE : ∀ w, (Go.sizeOf (ρ.t 24)).run P w = .ok k w)
    (ci:α->List Int) (hk:∀x,(ci x).length=k) (cf:α->α->Int) (hO:SWO (ltOf cf)) (eg:∀args w,(callFunc g args).run P w= .ok (.enter g args) w)
    (hcmp:∀x y w,Calls P g #[.agg (encI ci x).toArray,.agg (encI ci y).toArray] w fun e w'=>e= .returned (.int .i64 (cf x y))/\∃q os',w'=grow (w.drewN q) os')
    (l:List α) (hl:l.length<4611686018427387904) {h:Heap} (hb:h.get b=some (.cells γ (l.flatMap (avI ci)))) (hlim:b<1099511627775):
    ∃l':List α,l'.Perm l/\l'.Pairwise (fun x y=>ltOf cf y x=false)/\HSpec P f [.sl b γ 0 l.length k,.fn g [] []] h (.tup []) (h.set b (.cells γ (l'.flatMap (avI ci)))):=by
  obtain⟨d',hd'⟩:∃d',d'=pdq (ltOf cf) l.toArray 0 l.length (Lib.bitLen l.length) true true:=⟨_,rfl⟩
  have hs:=pdq_sorts (ltOf cf) hO l.toArray 0 l.length (Lib.bitLen l.length) true true (Nat.zero_le _) (by simp) (Or.inl rfl)
  rw[<-hd']at hs
  obtain⟨⟨hsz,_,hperm⟩,hsort⟩:=hs
  have hsz':d'.size=l.length:=by simpa using hsz
  have hext:(d'.extract 0 l.length).toList=d'.toList:=by rw[<-hsz'];simp
  have hext2:(l.toArray.extract 0 l.length).toList=l:=by simp
  rw[hext,hext2]at hperm
  have henc:∀x,(encI ci x).length=k:=fun x=>by simp[hk]
  have hone:∀x,∀v∈encI ci x,v.oneCell'=true:=fun x v hv=>by
    obtain⟨n,_,rfl⟩:=List.mem_map.1 hv;rfl
  refine⟨d'.toList,hperm,?_,hcall,?_⟩
  · rw [List.pairwise_iff_getElem]
    intro i j hi hj hij
    have:=hsort i j (Nat.zero_le _) hij (by simp_all)
    grind
  intro c w cargs H ha
  have hget:∀x j,(h.set b x).get j=if j=b then some x else h.get j:=fun x j=>Tr.QaO h (by simp_all [lim]) j x
  obtain⟨v1,v2,hca,hv1,hv2⟩:∃v1 v2,cargs.toList=[v1,v2]/\VRel c w (.sl b γ 0 l.length k) v1/\v2= .func (.func g) #[] #[]:=by
    simp_all [VRels,VRel]
  have hca':cargs= #[v1,v2]:=Array.toList_inj.1 (by rw[hca])
  subst hca' hv2
  have none:l=[]->∀p cap,v1= .slice p 0 cap->Calls P f #[v1,.func (.func g) #[] #[]] w fun e w'=>∃cv c',e= .returned cv/\Evo c w c' w'/\HRel c' (h.set b (.cells γ (d'.toList.flatMap (avI ci)))) w'/\VRel c' w' (.tup []) cv:=by
    rintro e p cap rfl
    have hn:=AnyF.slices_SortFunc_none {L with} p cap (.func (.func g) #[] #[]) w
    rw[hf]at hn
    refine hn.mono ?_
    rintro e1 w' ⟨rfl,rfl⟩
    refine⟨_,c,rfl,Evo.refl c _,QbZ (fun j=>?_) H,by simp[VRel,VRels]⟩
    simp_all
  simp only[VRel]at hv1
  rcases hv1 with⟨_,h1,_,rfl⟩|⟨cb,base,o,cap,C,e,fr,hp,rfl,hlc,hC,hcap⟩
  · simp_all
  by_cases hl0:l.length=0
  · simp_all
  obtain⟨ho,hbd⟩:=hcap.resolve_left (by omega)
  have ho':base=o:=ho.symm
  subst ho'
  obtain⟨C',e',fr',hcO,hC',hfr,hbs,hpre⟩:=H.here hb hp
  rw[hC]at hC';cases hC'
  have hlen:(l.flatMap ci).length=l.length*k:=by simp[List.length_flatMap,hk,List.map_const',List.sum_replicate_nat]
  have hlen':(d'.toList.flatMap ci).length=l.length*k:=by grind
  have hlk:l.length*k<=cap*k:=Nat.mul_le_mul_right k hlc
  rw[QmP]at hpre
  obtain⟨r,hr⟩:=Qjs hpre
  have hfl:Go.Sort.flatK (encI ci) k l.toArray=((l.flatMap ci).map (Value.int .i64)).toArray:=by rw[QhY henc h0,Qlj]
  have hfl':Go.Sort.flatK (encI ci) k d'=((d'.toList.flatMap ci).map (Value.int .i64)).toArray:=by
    have:=QhY henc h0 d'.toList
    rw[Qlj]at this
    exact this
  have hblk:=QaW hC
  have hH:HoldsK (encI ci) k w cb base l.toArray:=by
    unfold HoldsK
    rw[hfl]
    intro j hj
    have hj':j<l.length*k:=by grind
    have hjC:base+j<C.size:=by omega
    refine⟨?_,?_⟩
    · simp only [World.cell?, hC]
      have h2:C.toList[base+j]?=some (((l.flatMap ci).map (Value.int .i64))[j]'(by omega)):=by
        rw[<-List.getElem?_drop,hr,List.getElem?_append_left (by omega),List.getElem?_eq_getElem]
      grind
    · simp only [World.frozen?, hC]
      have:=hfr (base+j) hjC
      grind
  have hcon:=AnyQ.slices_SortFunc_eq L k aE zE (encI ci) henc hone cf hO g #[] cb base cap l.toArray w eg (fun m os dk _ x y=>hcmp x y _) hH hblk (by simpa using hl)
  rw[hf]at hcon
  have e0:(base+0:Nat)=base:=rfl
  have esz:(l.toArray).size=l.length:=by simp
  rw[esz,<-hd']at hcon
  refine hcon.mono ?_
  rintro e1 w' ⟨rfl,n,os,rfl⟩
  have hheap:∀j,j<w.heap.size->(sortWorldK (encI ci) k w cb base n d' os).heap[j]?=if j=cb then some (.cells (putCells id base ((d'.toList.flatMap ci).map (Value.int .i64)).toArray C) e fr)else w.heap[j]?:=fun j hj=>by
    unfold sortWorldK putRowK
    rw[heap_grow_old _ _ (by grind [putRow,mapBlock,Sort.ahead]),hfl']
    show(w.heap.modify cb _)[j]?=_
    rw[Array.getElem?_modify]
    by_cases e2:cb=j
    · subst e2;rw[if_pos rfl,if_pos rfl,hC];rfl
    grind
  have hszw:w.heap.size<=(sortWorldK (encI ci) k w cb base n d' os).heap.size:=by
    grind
  have hcb:=hheap cb hblk
  rw[if_pos rfl]at hcb
  obtain⟨E,H2⟩:=H.put (w':=sortWorldK (encI ci) k w cb base n d' os) (b:=b) (cb:=cb) (base:=base) (x:= .cells γ (d'.toList.flatMap (avI ci))) (by grind [lim]) (fun y hy=>H.later b _ hb y hy) (.inr hp) (.inr ⟨γ,base,⟨_,hb,rfl,fun k=>by simp⟩,hp⟩) rfl rfl rfl hszw (by omega)
    (fun j hj hne=>by grind) (fun C2 e2 fr2 h2=>by
      grind [putCells]) (fun E=> .inr ⟨cb,base,_,_,_,by show(if b=b/\γ=γ then _ else _)=_;grind,.inr rfl,hcb,by grind [putCells],by grind [putCells],by
        grind [QjG,QmP,QgF]⟩)
  exact⟨_,_,rfl,E,H2,by simp[VRel,VRels]⟩
end Go.AM
namespace Go.Proofs
open Go.Shelf Go.RowKit Go.Lib Go.Sort
def Tryz.Qnq:Go.Shelf.Ren:=⟨fun|6=>76|15=>164|14=>163|28=>217|29=>218|20=>209|21=>210|22=>211|23=>212|24=>213|25=>214|26=>215|27=>216|46=>237|47=>238|48=>239|49=>240|50=>241|57=>267|n=>n,fun|22=>31|24=>35|25=>161|3=>3|39=>253|0=>0|53=>300|55=>302|4=>4|46=>294|45=>293|50=>188|5=>5|9=>9|66=>315|70=>319|76=>336|77=>278|n=>n,fun|n=>n⟩
theorem Tryz.sortEd:Go.Proofs.SlLaysF0.n6 Tryz.prog Tryz.Qnq:={
 mixed:=by kernel_rfl
 f6:=⟨Tryz.f76.name,by decide,Tryz.func76.trans (congrArg some (by kernel_rfl))⟩
 f14:=⟨Tryz.f163.name,by decide,Tryz.func163.trans (congrArg some (by kernel_rfl))⟩
 f15:=Tryz.func164.trans (congrArg some (by kernel_rfl))
 f20:=⟨Tryz.f209.name,by decide,Tryz.func209.trans (congrArg some (by kernel_rfl))⟩
 f21:=⟨Tryz.f210.name,by decide,Tryz.func210.trans (congrArg some (by kernel_rfl))⟩
 f22:=⟨Tryz.f211.name,by decide,Tryz.func211.trans (congrArg some (by kernel_rfl))⟩
 f23:=⟨Tryz.f212.name,by decide,Tryz.func212.trans (congrArg some (by kernel_rfl))⟩
 f24:=⟨Tryz.f213.name,by decide,Tryz.func213.trans (congrArg some (by kernel_rfl))⟩
 f25:=⟨Tryz.f214.name,by decide,Tryz.func214.trans (congrArg some (by kernel_rfl))⟩
 f26:=⟨Tryz.f215.name,by decide,Tryz.func215.trans (congrArg some (by kernel_rfl))⟩
 f27:=⟨Tryz.f216.name,by decide,Tryz.func216.trans (congrArg some (by kernel_rfl))⟩
 f28:=Tryz.func217.trans (congrArg some (by kernel_rfl))
 f29:=Tryz.func218.trans (congrArg some (by kernel_rfl))
 f46:=⟨Tryz.f237.name,by decide,Tryz.func237.trans (congrArg some (by kernel_rfl))⟩
 f47:=Tryz.func238.trans (congrArg some (by kernel_rfl))
 f48:=Tryz.func239.trans (congrArg some (by kernel_rfl))
 f49:=⟨Tryz.f240.name,by decide,Tryz.func240.trans (congrArg some (by kernel_rfl))⟩
 f50:=⟨Tryz.f241.name,by decide,Tryz.func241.trans (congrArg some (by kernel_rfl))⟩
 f57:=⟨Tryz.f267.name,by decide,Tryz.func267.trans (congrArg some (by kernel_rfl))⟩
 t0:=Tryz.underlying0
 a0:=Tryz.isAgg0
 z0:=Tryz.sizeOf0
 v0:=Tryz.zeroValue0
 t3:=Tryz.underlying3
 a3:=Tryz.isAgg3
 z3:=Tryz.sizeOf3
 v3:=Tryz.zeroValue3
 t4:=Tryz.underlying4
 a4:=Tryz.isAgg4
 z4:=Tryz.sizeOf4
 v4:=Tryz.zeroValue4
 t5:=Tryz.underlying5
 a5:=Tryz.isAgg5
 z5:=Tryz.sizeOf5
 v5:=Tryz.zeroValue5
 t9:=Tryz.underlying9
 a9:=Tryz.isAgg9
 z9:=Tryz.sizeOf9
 v9:=Tryz.zeroValue9
 t22:=Tryz.underlying31
 a22:=Tryz.isAgg31
 z22:=Tryz.sizeOf31
 v22:=Tryz.zeroValue31
 t25:=Tryz.underlying161
 a25:=Tryz.isAgg161
 z25:=Tryz.sizeOf161
 v25:=Tryz.zeroValue161
 t39:=Tryz.underlying253
 a39:=Tryz.isAgg253
 z39:=Tryz.sizeOf253
 v39:=Tryz.zeroValue253
 t45:=Tryz.underlying293
 a45:=Tryz.isAgg293
 z45:=Tryz.sizeOf293
 v45:=Tryz.zeroValue293
 t46:=Tryz.underlying294
 a46:=Tryz.isAgg294
 z46:=Tryz.sizeOf294
 v46:=Tryz.zeroValue294
 t50:=Tryz.underlying188
 a50:=Tryz.isAgg188
 z50:=Tryz.sizeOf188
 v50:=Tryz.zeroValue188
 t53:=Tryz.underlying300
 a53:=Tryz.isAgg300
 z53:=Tryz.sizeOf300
 v53:=Tryz.zeroValue300
 t55:=Tryz.underlying302
 a55:=Tryz.isAgg302
 z55:=Tryz.sizeOf302
 v55:=Tryz.zeroValue302
 t66:=Tryz.underlying315
 a66:=Tryz.isAgg315
 z66:=Tryz.sizeOf315
 v66:=Tryz.zeroValue315
 t70:=Tryz.underlying319
 a70:=Tryz.isAgg319
 z70:=Tryz.sizeOf319
 v70:=Tryz.zeroValue319
 t76:=Tryz.underlying336
 a76:=Tryz.isAgg336
 z76:=Tryz.sizeOf336
 v76:=Tryz.zeroValue336
 t77:=Tryz.underlying278
 a77:=Tryz.isAgg278
 z77:=Tryz.sizeOf278
 v77:=Tryz.zeroValue278}
abbrev Ed3:=Fin 1048576×Fin 1048576×Fin 1048576
def ciE (x:Ed3):List Int:=[(x.1.val:Int),(x.2.1.val:Int),(x.2.2.val:Int)]
def cfE (x y:Ed3):Int:=if x.1=y.1 then(x.2.1.val:Int)-(y.2.1.val:Int)else(x.1.val:Int)-(y.1.val:Int)
theorem Tryz.cmp77 (x y:Ed3) (W:World):Calls Tryz.prog 77 #[.agg #[.int .i64 (x.1.val:Int),.int .i64 (x.2.1.val:Int),.int .i64 (x.2.2.val:Int)],.agg #[.int .i64 (y.1.val:Int),.int .i64 (y.2.1.val:Int),.int .i64 (y.2.2.val:Int)]] W fun e w'=>e= .returned (.int .i64 (cfE x y))/\∃q os',w'=grow (W.drewN q) os':=by
 obtain⟨⟨a,ha⟩,⟨b,hb⟩,⟨c,hc⟩⟩:=x
 obtain⟨⟨a',ha'⟩,⟨b',hb'⟩,⟨c',hc'⟩⟩:=y
 unfold cfE
 simp only[Fin.mk.injEq]
 by_cases h:a=a'
 ·subst h
  rw[if_pos rfl]
  go_enter Tryz.func77,Tryz.ntmps77
  go_wp2
  go_ret
  exact⟨rfl,0,_,by rw[alloc_eq_grow,alloc_eq_grow,grow_grow];rfl⟩
 ·rw [if_neg h]
  have h':¬((a:Int)=(a':Int)):=by omega
  go_enter Tryz.func77,Tryz.ntmps77
  go_wp2
  go_ret
  exact⟨rfl,0,_,by rw[alloc_eq_grow,alloc_eq_grow,grow_grow];rfl⟩
theorem QfQ (x y:Ed3):ltOf cfE x y=decide (x.1.val<y.1.val\/x.1.val=y.1.val/\x.2.1.val<y.2.1.val):=by
 unfold ltOf cfE
 grind
theorem QqW:SWO (ltOf cfE) where
 irrefl x:=by rw[QfQ];simp
 trans x y z h1 h2:=by rw[QfQ,decide_eq_true_eq]at*;omega
 ntrans x y z h1 h2:=by grind [QfQ]
end Go.Proofs
namespace Go.AM.SO
open Go.Proofs Go.AM.SD Go.AM.SE Go.Sort Go.Shelf
def toE (e:Ed):Ed3:=(⟨e.1 % 1048576,Nat.mod_lt _ (by decide)⟩,⟨e.2.1 % 1048576,Nat.mod_lt _ (by decide)⟩,⟨e.2.2 % 1048576,Nat.mod_lt _ (by decide)⟩)
def SmE (e:Ed):Prop:=e.1<1048576/\e.2.1<1048576/\e.2.2<1048576
theorem Qr1 {e:Ed} (h:SmE e):avI ciE (toE e)=edC e:=by
 obtain⟨h1,h2,h3⟩:=h
 simp_all [avI,ciE,toE,edC,Nat.mod_eq_of_lt]
theorem Qhb:∀{l:List Ed},(∀e∈l,SmE e)->(l.map toE).flatMap (avI ciE)=l.flatMap edC
 |[],_=>rfl
 |e::l,h=>by
  rw[List.map_cons,List.flatMap_cons,List.flatMap_cons,Qr1 (h e (by simp)),Qhb fun x hx=>h x (by simp[hx])]
abbrev ltE (x y:Ed):Prop:=x.1<y.1\/(x.1=y.1/\x.2.1<y.2.1)
theorem QqX {M:List Ed} (hs:M.Pairwise ltE) {x y:Ed} (hx:x∈M) (hy:y∈M) (h1:x.1=y.1) (h2:x.2.1=y.2.1):x=y:=by
 obtain⟨i,hi,rfl⟩:=List.getElem_of_mem hx
 obtain⟨j,hj,rfl⟩:=List.getElem_of_mem hy
 rw[List.pairwise_iff_getElem]at hs
 grind
theorem call76:Callable Tryz.prog 76:=⟨_,Tryz.func76,by kernel_rfl,by kernel_rfl⟩
theorem sort76 {l M:List Ed} (hb:∀e∈l,SmE e) (hl:l.length<1000000000) (hM:M.Perm l) (hs:M.Pairwise ltE) {h:Heap} {b γ:Nat} (hg:h.get b=some (.cells γ (l.flatMap edC))) (hlim:b<1099511627775):
  HSpec Tryz.prog 76 [.sl b γ 0 l.length 3,.fn 77 [] []] h (.tup []) (h.set b (.cells γ (M.flatMap edC))):=by
 have hbM:∀e∈M,SmE e:=fun e he=>hb e (hM.mem_iff.1 he)
 obtain⟨l',hp,hsrt,hsp⟩:=HSpec.sortK (f:=76) (g:=77) (γ:=γ) (h:=h) (b:=b) Tryz.sortEd rfl call76 3 (by decide) Tryz.isAgg35 Tryz.sizeOf35 ciE (fun _=>rfl) cfE QqW (enters_of Tryz.func77 (by kernel_rfl) rfl) (fun x y w=>Tryz.cmp77 x y w) (l.map toE) (by grind) (by rw[hg,Qhb hb]) hlim
 have e:l'=M.map toE:=by
  refine List.Perm.eq_of_pairwise (le:=fun x y=>ltOf cfE y x=false) ?_ hsrt ?_ (hp.trans (hM.map toE).symm)
  ·intro x y hx hy h1 h2
   have hx':x∈l.map toE:=hp.mem_iff.1 hx
   obtain⟨m1,hm1,rfl⟩:=List.mem_map.1 hx'
   obtain⟨m2,hm2,rfl⟩:=List.mem_map.1 hy
   grind [QfQ,SmE,toE,QqX]
  ·rw [List.pairwise_map]
   refine hs.imp_of_mem fun{x y} hx hy h=>?_
   have b1:=hbM x hx
   have b2:=hbM y hy
   unfold SmE at b1 b2
   rw[QfQ,decide_eq_false_iff_not]
   simp only[toE]
   omega
 simp_all [Qhb]
end Go.AM.SO
namespace Go.AM.TV
open Go.Proofs
set_option maxHeartbeats 4000000
noncomputable section
def cf:YA.Cf:={}
def s75:SFn:=by
 refine(?f:YA.Yt Tryz.prog cf 75 [[2],[3],[0,4],[0,4,5,6,7]]) ?s ?h
 case h=>exact YA.rr
 exact fun s _=>s
theorem ok75:okFn Tryz.prog 75 s75=true:=by kernel_rfl
end
end Go.AM.TV
namespace Go.AM.SO
open Go.Proofs Go.AM.SD Go.AM.SE
def tA (c:Cel) (i:Nat):List Nat:=((sync0 (allA c)).1.getD i []).take c.cs.length
def tB (c:Cel) (i:Nat):List Nat:=((sync0 (allA c)).1.getD i []).drop c.cs.length
def rfE (c:Cel) (i:Nat):List Ed:=(yls c (ixT (sync0 (auL c.cs)).1 (tA c i)) (tB c i)).map fun y=>(i,y.1,(sync0 (allA c)).1.length)
def addE (c:Cel) (n:Nat):List Ed:=(List.range n).flatMap (rfE c)
def badL (c:Cel) (n:Nat):List Nat:=(List.range n).filter fun i=>(vioV (tA c i) c.xs c.ks).2.2
def allE (c:Cel) (n:Nat):List Ed:=(syncA (allA c)).es++addE c n
def wEd (c:Cel) (i:Nat) (e:Nat):Ed:=(i,e,if rfI c (tB c i) e<0 then(stepA (syncA (allA c)).es i e).getD 0 else(sync0 (allA c)).1.length)
def wE (c:Cel) (i:Nat):List Ed:=(evS (auL c.cs) (tA c i)).map (wEd c i)
def wantE (c:Cel) (n:Nat):List Ed:=(List.range n).flatMap (wE c)
theorem Qlk {l:List Aut} {t:List Nat} {e:Nat}:∀{k:Nat},k<=l.length->((stp l t e k).isSome=true↔∀(i:Nat) a,i<k->l[i]?=some a->e∈a.al->(stepA a.es (t.getD i 0) e).isSome=true)
 |0,_=>by simp[stp]
 |k+1,hk=>by
  have ih:=Qlk (l:=l) (t:=t) (e:=e) (k:=k) (by omega)
  obtain⟨a,ha⟩:=Qag (l:=l) (i:=k) (by omega)
  unfold stp
  grind
theorem QhZ {l:List Aut} {t:List Nat} {e:Nat}:(stepT l t e).isSome=true↔∀(i:Nat) a,l[i]?=some a->e∈a.al->(stepA a.es (t.getD i 0) e).isSome=true:=by
 simp_all [stepT,Qlk,List.getElem?_eq_some_iff]
theorem QqY {c:Cel} {r:List Nat} {e:Nat}:rfI c r e<0↔∀(i:Nat) y,c.rs[i]?=some y->e∈y.2.al->(stepA y.2.es (r.getD i 0) e).isSome=true:=by
 have hrng:=@Qdb _ (rfQ c r e) (List.range c.rs.length)
 have hiff:rfI c r e<0↔(List.range c.rs.length).any (rfQ c r e)=false:=by
  grind [QfY,rfI]
 simp_all [List.getElem?_eq_some_iff,rfQ,stepA]
theorem Qed {c:Cel} {t:List Nat} {e:Nat} (ht:c.cs.length<=t.length):(stepT (allA c) t e).isSome=true↔(stepT (auL c.cs) (t.take c.cs.length) e).isSome=true/\rfI c (t.drop c.cs.length) e<0:=by
 rw[QhZ,QhZ,QqY]
 constructor
 ·intro h
  refine⟨fun i a ha he=>?_,fun i y hy he=>?_⟩
  ·have hi : i < c.cs.length := by grind
   have:=h i a (by simp_all [allA,List.getElem?_append_left]) he
   grind
  simp_all [allA,List.getElem?_append_right]
 grind [allA]
theorem Qnr {a b:List Nat} (ha:a.Pairwise (· < ·)) (hb:b.Pairwise (· < ·)) (h:∀x,x∈a↔x∈b):a=b:=by
 refine List.Perm.eq_of_pairwise (le:=fun x y=>x<y) (fun x y _ _ h1 h2=>by omega) ha hb ?_
 exact(List.perm_ext_iff_of_nodup (ha.imp fun h=>by omega) (hb.imp fun h=>by omega)).2 h
theorem Qll {c:Cel} (h:WfCel c):evA (allA c)=evA (auL c.cs):=by
 refine Qnr (QcT (Qa9 h)) (QcT (QaN h)) fun e=>⟨QmK h,fun he=>?_⟩
 obtain⟨a,ha,hea⟩:=(QdF (QaN h)).1 he
 exact(QdF (Qa9 h)).2 ⟨a,List.mem_append.2 (.inl ha),hea⟩
theorem Qh0 {α β:Type} {p:α->Bool} {f:α->β} {g1 g2:α->Option β}:∀{l:List α},(∀x∈l,p x=false->g1 x=none)->(∀x∈l,p x=true->(g1 x=some (f x)/\g2 x=none)\/(g1 x=none/\g2 x=some (f x)))->
  ((l.filter p).map f).Perm (l.filterMap g1++(l.filter p).filterMap g2)
 |[],_,_=>by simp
 | x :: l, h0, h1 => by
  have ih:=Qh0 (l:=l) (fun y hy=>h0 y (by simp[hy])) fun y hy=>h1 y (by simp[hy])
  cases hp:p x with
  |false=>
   rw[List.filter_cons_of_neg (by simp[hp]),List.filterMap_cons,h0 x (by simp) hp]
   exact ih
  | true =>
   rw[List.filter_cons_of_pos hp,List.map_cons,List.filterMap_cons,List.filterMap_cons]
   rcases h1 x (by simp) hp with⟨e1,e2⟩|⟨e1,e2⟩
   ·simp_all
   ·rw [e1, e2]
    exact(ih.cons _).trans List.perm_middle.symm
theorem QfR {β:Type} {A B C:Nat->List β}:∀{n:Nat},(∀i,i<n->(C i).Perm (A i++B i))->((List.range n).flatMap C).Perm ((List.range n).flatMap A++(List.range n).flatMap B)
 |0,_=>by simp
 |n+1,h=>by
  have ih:=QfR (A:=A) (B:=B) (C:=C) (n:=n) fun i hi=>h i (by omega)
  have h1:=h n (by omega)
  rw[List.range_succ,List.flatMap_append,List.flatMap_append,List.flatMap_append]
  simp only[List.flatMap_cons,List.flatMap_nil,List.append_nil]
  refine(ih.append h1).trans ?_
  grind [List.Perm.append_left,List.Perm.append_right,List.perm_append_comm]
theorem Qlm {c:Cel} {i:Nat} (hi:i<(sync0 (allA c)).1.length):(sync0 (allA c)).1[i]?=some ((sync0 (allA c)).1.getD i []):=by
 simp_all
theorem QpZ {c:Cel} (h:WfCel c) {i:Nat} (hi:i<(sync0 (allA c)).1.length):(wE c i).Perm (rowE (allA c) (evA (allA c)) (sync0 (allA c)).1 i ((sync0 (allA c)).1.getD i [])++rfE c i):=by
 have ht:=Qlm hi
 obtain⟨hin,hp⟩:=QeC h _ (List.mem_of_getElem? ht)
 have hl:c.cs.length<=((sync0 (allA c)).1.getD i []).length:=by rw[hin.1,Qba];omega
 have hwb:=Qcj (Qa9 h) (by rw[Qba];have:=h.c3;have:=h.r2;omega)
 have hes:(syncA (allA c)).es=(sync0 (allA c)).2:=rfl
 have hsp:=(QcK (fun a ha=>(Qa9 h a ha).pos) fun a ha=>(Qa9 h a ha).wf.esn).ed
 have hrf:rfE c i=(evS (auL c.cs) (tA c i)).filterMap fun e=>if 0<=rfI c (tB c i) e then some (i,e,(sync0 (allA c)).1.length)else none:=by
  unfold rfE yls
  have hpA:tA c i∈(sync0 (auL c.cs)).1:=hp
  grind [Qlc,QaN,ylE]
 rw[hrf,Qll h]
 unfold wE evS rowE
 refine Qh0 (fun e he hp=>?_) fun e he hp=>?_
 ·cases hs : stepT (allA c) ((sync0 (allA c)).1.getD i []) e with
  |none=>rfl
  |some n=>
   have:=((Qed hl).1 (by rw[hs];rfl:(stepT (allA c) ((sync0 (allA c)).1.getD i []) e).isSome=true)).1
   rw[show tA c i=((sync0 (allA c)).1.getD i []).take c.cs.length from rfl]at hp
   rw[hp]at this;cases this
 ·by_cases hneg : rfI c (tB c i) e < 0
  ·left
   have hs:=(Qed hl).2 ⟨hp,hneg⟩
   obtain⟨n,hn⟩:=Option.isSome_iff_exists.1 hs
   rw[hn,if_neg (by omega)]
   refine⟨?_,rfl⟩
   have hmem:(i,e,ixT (sync0 (allA c)).1 n)∈(syncA (allA c)).es:=by
    grind [rowE,Qll]
   have hst:=Qd4 hwb.es hmem
   simp_all [wEd]
  ·right
   have hs:stepT (allA c) ((sync0 (allA c)).1.getD i []) e=none:=by
    cases hs:stepT (allA c) ((sync0 (allA c)).1.getD i []) e with
    |none=>rfl
    |some n=>exact absurd ((Qed hl).1 (by rw[hs];rfl:(stepT (allA c) ((sync0 (allA c)).1.getD i []) e).isSome=true)).2 hneg
   rw[hs,if_pos (by omega)]
   refine⟨rfl,?_⟩
   simp_all [wEd,if_neg]
theorem Qjt {c:Cel} (h:WfCel c):(wantE c (sync0 (allA c)).1.length).Perm (allE c (sync0 (allA c)).1.length):=by
 have hsp:=(QcK (fun a ha=>(Qa9 h a ha).pos) fun a ha=>(Qa9 h a ha).wf.esn).ed
 unfold wantE allE addE
 rw[show(syncA (allA c)).es=(sync0 (allA c)).2 from rfl,hsp]
 grind [QfR,QpZ]
theorem QlO {c:Cel} (h:WfCel c) (n:Nat):(wantE c n).Pairwise ltE:=by
 unfold wantE
 refine Qek (fun j=>⟨?_,fun x hx=>?_⟩) n
 ·unfold wE evS
  rw[List.pairwise_map]
  exact((QcT (QaN h)).filter _).imp fun h=> .inr ⟨rfl,h⟩
 ·obtain⟨e,_,rfl⟩:=List.mem_map.1 hx;rfl
theorem QqZ {c:Cel} (h:WfCel c):∀e∈allE c (sync0 (allA c)).1.length,SmE e:=by
 have hwb:=Qcj (Qa9 h) (by rw[Qba];have:=h.c3;have:=h.r2;omega)
 have hn:(sync0 (allA c)).1.length<=243:=hwb.nb
 intro e he
 rcases List.mem_append.1 (show e∈(syncA (allA c)).es++addE c _ from he)with he|he
 ·have h1 := hwb.esn e he
  have h2:=hwb.al5 _ (hwb.ev e he)
  grind [syncA,SmE]
 ·unfold addE at he
  obtain⟨i,hi,he⟩:=List.mem_flatMap.1 he
  have hi:=List.mem_range.1 hi
  unfold rfE at he
  obtain⟨y,hy,rfl⟩:=List.mem_map.1 he
  grind [QrW,SmE]
theorem QmQ {c:Cel} (h:WfCel c) {i:Nat} (hi:i<(sync0 (allA c)).1.length):(rfE c i).length<=5:=by
 have hpA:tA c i∈(sync0 (auL c.cs)).1:=(QeC h _ (List.mem_of_getElem? (Qlm hi))).2
 unfold rfE yls
 rw[List.length_map,Qlc (QaN h) (Qiq hpA)]
 refine Nat.le_trans (List.length_filterMap_le ..) (Nat.le_trans (List.length_filter_le ..) (Qcp (QaN h)))
theorem Qju (c:Cel) (n:Nat):addE c (n+1)=addE c n++rfE c n:=by simp_all [addE,List.range_succ]
theorem Qjv (c:Cel) (n:Nat):badL c (n+1)=badL c n++(if(vioV (tA c n) c.xs c.ks).2.2 then[n]else[]):=by
 simp_all [badL,List.range_succ,List.filter_cons]
theorem Qhc {c:Cel} (h:WfCel c):∀{n:Nat},n<=(sync0 (allA c)).1.length->(addE c n).length<=5*n
 |0,_=>by simp[addE]
 |n+1,hn=>by
  have h1:=Qhc h (n:=n) (by omega)
  grind [QmQ,Qju]
theorem Qln (c:Cel) (n:Nat):(badL c n).length<=n:=by
 grind [badL]
end Go.AM.SO
namespace Go.AM.SO
open Go.Proofs Go.AM.SD Go.AM.SE
theorem _root_.Go.AM.au26 {p:Prop} (h:p:=by repeat' (first|exact RB.nil|(refine RnL.same ?_;first|rfl|(simp only[noRef,noRefs,Qai,Bool.and_self,Bool.and_true,Bool.true_and,Qae,Qau,Qab,Qak,QaH,Qaf,QbJ];done))|exact RnM.keyM rfl|exact RnL.nil|exact(True.intro:RnM _ _ _ [] [])|refine RnL.cons ?_ ?_|(refine Rn.same ?_;first|rfl|(simp only[noRef,noRefs,Qai,Bool.and_self,Bool.and_true,Bool.true_and,Qae,Qau,Qab,Qak,QaH,Qaf,QbJ];done))|exact Rn.x1 rfl rfl|exact Rn.x2 rfl rfl|exact Rn.x3 rfl rfl|exact Rn.x4 rfl rfl|exact Rn.x5 rfl|exact Rn.x6 rfl|exact Rn.x7 rfl|refine RB.newnil rfl rfl ?_|refine RB.cells rfl rfl rfl ?_ ?_|refine RB.map rfl rfl rfl ?_ ?_|refine RB.cellsB rfl rfl ?_ ?_|refine RB.mapB rfl rfl ?_ ?_)):p:=h
theorem _root_.Go.AM.au27 {p:Prop} (h:p:=by repeat (first|exact RT.nil|(refine RT.cons ?_ ?_; · (first|exact Rn.any|exact Rn.x1 rfl rfl|exact Rn.x2 rfl rfl|exact Rn.x3 rfl rfl|exact Rn.x4 rfl rfl|exact Rn.x5 rfl|exact Rn.x6 rfl|exact Rn.x7 rfl|(refine Rn.slot ?_ ?_;(first|rfl|(rw[Int.natCast_add];rfl));(first|rfl|(simp only[noRef,noRefs,Qai,Bool.and_self,Bool.and_true,Bool.true_and,Qae,Qau,Qab,Qak,QaH,Qaf,QbJ];done)))|(refine Rn.fn ?_ ?_<;>(repeat' (first|exact RnL.nil|refine RnL.cons ?_ ?_|exact Rn.same rfl|exact Rn.x6 rfl|exact Rn.x2 rfl rfl|exact Rn.x5 rfl|exact Rn.x1 rfl rfl))))))):p:=h
theorem clone75 (l:List Ed) (hl:l.length<=1000000):HSpec Tryz.prog 75 [egsN l] .e (.sl 83 0 0 l.length 3) (hp [(83,.cells 0 (l.flatMap edC))]):=by
 cases l with
 | nil =>
  refine HSpec.empty ?_ ?_
  ·refine HSpec.QcQ 100 TV.ok75 rfl ?_
   have hq:aEqN false .nilsl= .ret (.bool true):=rfl
   simp(disch:=first|omega|exact PairsOK.mk rfl|(simp only[lenW]<;>omega)) only[TV.s75,hq,Qaa,Qac,Qad,wW,wV,simprocAttr]
   exact⟨.inr trivial,_,rfl,⟨[(83,.nil)],rfl,au0,au26,au27⟩⟩
  ·refine HSpec.QcQ 100 TV.ok75 rfl ?_
   have hq:aEqN false .nsl= .ret (.bool false):=rfl
   simp(disch:=first|omega|exact PairsOK.mk rfl|(simp only[lenW]<;>omega)) only[TV.s75,hq,QgD,Qaa,Qac,Qad,wW,wV,simprocAttr]
   exact⟨.inr trivial,_,rfl,⟨[(83,.blk 103 1)],rfl,au0,au26,au27⟩⟩
 |cons x l=>
  refine HSpec.QcQ 100 TV.ok75 rfl ?_
  have hq:aEqN false (egsN (x::l))= .ret (.bool false):=rfl
  have hone:((x::l).flatMap edC).all AV.one=true:=Qcx (fun _=>rfl) _
  have hln:((x::l).flatMap edC).length=(x::l).length*3:=Qbi (k:=3) (fun _=>rfl) _
  generalize x::l=q at*
  simp(disch:=first|omega|exact PairsOK.mk rfl|(simp only[lenW]<;>omega)) only[TV.s75,hq,hone,hln,Qaa,Qac,Qad,wW,wV,simprocAttr]
  refine⟨.inr trivial,_,rfl,?_⟩
  refine⟨[(83,.blk 103 1)],rfl,au0,?_,au27⟩
  exact RB.cells rfl rfl gg (RnL.same (Qaf _)) RB.nil
abbrev lpC:SCode:=(.region [Zm 16 98 []] [] [3,4,5,58,59,60,97,98,99])
abbrev lpD:SCode:=(.block 3 (.region [Zf 100 3 2 [],
 Zl 101 100 [0],
 Zl 102 7 [],
 Zm 103 16 [],
 Zl 104 6 [],
 Zz 105 (.build [(.int .i64 0),(.int .i64 0),(.int .i64 0)] [(0,1,(.t 102)),(1,1,(.t 103)),(2,1,(.t 104))]) [2,3,4],
 Zz 106 (.bslice false .dyn 3 1 [(.int .i64 0),(.int .i64 0),(.int .i64 0)] [(0,3,(.t 105))]) [5],
 Zz 107 (.append .dyn 3 24 (.t 101) (.t 106)) [1,6],
 Zf 108 3 2 (Za [] 8),
 Zs 1 108 107 (Za [8,7,7] 8)] [] [2,6,7,16,100,101,102,103,104,105,106,107,108]))
def jkH (Y:List Ed):Nat->Heap->Heap
 |0,h=>h
 |j+1,h=>(jkH Y j h).set (1007+20*j) (.cells 0 (edC (Y.getD j (0,0,0))))
theorem QmR {Y:List Ed} {h:Heap} {j:Nat}:jkH Y (j+1) h=(jkH Y j h).set (1007+20*j) (.cells 0 (edC (Y.getD j (0,0,0)))):=rfl
theorem jk_hi {Y:List Ed} {h:Heap} {k:Nat}:∀{j:Nat},1007+20*j<=k->k<1099511627775->(jkH Y j h).get k=h.get k
 |0,_,_=>rfl
 |j+1,hk,hl=>by
  unfold jkH
  rw[QaF (by omega) (by omega)]
  exact jk_hi (by omega) hl
theorem jk_lo {Y:List Ed} {h:Heap} {k:Nat} (hk:k<1000):∀{j:Nat},j<=5->(jkH Y j h).get k=h.get k
 |0,_=>rfl
 |j+1,hj=>by
  unfold jkH
  rw[QaF (by omega) (by omega)]
  exact jk_lo hk (by omega)
theorem Qo9 {h:Heap} {k j:Nat} {x:Blk} (hk:k<1099511627775):(h.set k x).get j=if j=k then some x else h.get j:=by
 by_cases e:j=k
 ·subst e;rw[QaC hk,if_pos rfl]
 ·rw[QaF hk e,if_neg e]
abbrev cpG (c:Cel) (q:Aut) (n:Nat):List AV:=[sliN q.al,.int .i64 ((q.n:Int)+1),sliN q.ms,egsN (wantE c n)]
def cpV (c:Cel):AV:= .tup [.agg (cpG c (syncA (allA c)) (sync0 (allA c)).1.length),sliN (badL c (sync0 (allA c)).1.length++[(sync0 (allA c)).1.length]),.int .i64 0]
theorem Qjw (c:Cel):noRef (cpV c)=true:=by
 unfold cpV
 simp only[noRef,noRefs,Qae,Qaf];rfl
theorem Qbj (l:List Ed):(l.flatMap edC).length=l.length*3:=Qbi (k:=3) (fun _=>rfl) l
theorem complete19 (c : Cel) (h : WfCel c) : PSpec Tryz.prog 19 [celV c] (cpV c) := by
  have hnr:=Qbf c
  have hns:=Qjw c
  refine PSpec.of_rn 64 TS.ok19 rfl (by rw[noRefs,SU.Qa8];rfl) hns ?_
  have h0:=h.c0
  have h3:=h.c3
  have h2:=h.r2
  have hO:=open70 c h
  have hin:=QeC h
  have hPi:=Qev (fun a ha=>(QaN h a ha).pos) fun a ha=>(QaN h a ha).wf.esn
  have hwb:=Qcj (Qa9 h) (by rw[Qba];omega)
  have hT243:(sync0 (allA c)).1.length<=243:=hwb.nb
  have hal:=Qbq hwb.al hwb.al5
  have hms:=Qbq hwb.ms hwb.msn
  have hel:=hwb.el
  have hPin:∀x∈(sync0 (auL c.cs)).1,InT (auL c.cs) x:=hPi.inT
  have hpn:(syncA (auL c.cs)).n=(sync0 (auL c.cs)).1.length:=rfl
  have hqn:(syncA (allA c)).n=(sync0 (allA c)).1.length:=rfl
  have hsplit:=fun t (ht:c.cs.length<=t.length)=>split71 c t h0 ht
  have hviol:=fun t (ht:InT (auL c.cs) t)=>violated73 c h ht
  have href:=fun k r=>refused74 c k r
  have hfor:=fun{k:Nat} hk r hr hrn {b m:Nat} H H' n=>@refused160 c h k hk r hr hrn b m H H' n
  have hst:=Qec c (syncA (auL c.cs)) (syncA (allA c)) (sync0 (auL c.cs)).1 (sync0 (allA c)).1
  have hae0:allE c 0=(syncA (allA c)).es:=by unfold allE addE;simp
  have haes:∀i,allE c (i+1)=allE c i++rfE c i:=fun i=>by unfold allE;rw[Qju,List.append_assoc]
  have hael:∀i,i<=(sync0 (allA c)).1.length->(allE c i).length<=2500:=fun i hi=>by
    have:=Qhc h hi
    unfold allE;rw[List.length_append];omega
  have hrl:∀i,i<(sync0 (allA c)).1.length->∀Y,rfE c i=Y->Y.length<=5:=fun i hi Y hY=>by rw[<-hY];exact QmQ h hi
  have hrfE:∀i t,(sync0 (allA c)).1[i]?=some t->rfE c i=(yls c (ixT (sync0 (auL c.cs)).1 (t.take c.cs.length)) (t.drop c.cs.length)).map fun y=>(i,y.1,(sync0 (allA c)).1.length):=fun i t ht=>by
    unfold rfE tA tB;rw[List.getD_eq_getElem?_getD,ht];rfl
  have hbs:∀i t,(sync0 (allA c)).1[i]?=some t->badL c (i+1)=badL c i++(if(vioV (t.take c.cs.length) c.xs c.ks).2.2 then[i]else[]):=fun i t ht=>by
    rw[Qjv];unfold tA;rw[List.getD_eq_getElem?_getD,ht];rfl
  have hbl:=Qln c
  have hperm:=Qjt h
  have hsrt:=QlO h (sync0 (allA c)).1.length
  have hsm:=QqZ h
  have hcA:=clone41 (syncA (allA c)).al (by omega)
  have hcM:=clone41 (syncA (allA c)).ms (by omega)
  have hcE:=clone75 (syncA (allA c)).es (by omega)
  have hb0:badL c 0=[]:=rfl
  clear hwb hPi
  rw[cpV]at*
  rw[stC]at hO hsplit href
  generalize syncA (auL c.cs)=p at*
  generalize syncA (allA c)=q at*
  generalize (sync0 (auL c.cs)).1=P at*
  generalize (sync0 (allA c)).1=T at*
  have hnT:=Qci T
  have hS:noRef (.fptr (stG c p q P T))=true:=by rw[noRef];exact hst
  have hqi:((q.n:Int)=(T.length:Int)):=by omega
  have hq4:¬(4096:Int)<=(q.n:Int):=by omega
  have hle:=Qbj q.es
  simp(disch:=first|omega|exact PairsOK.mk rfl|(simp only[lenW]<;>omega)) only[TS.s19,Qaa,Qac,Qad,wW,wV,simprocAttr]
  refine cp hO ?_
  simp(disch:=first|omega|exact PairsOK.mk rfl|(simp only[lenW]<;>omega)) only[hq4,Qaa,Qac,Qad,wW,wV,simprocAttr]
  refine Qe6 [] 19 (x:= .f 75) (ag:=[.t 52]) (d:=some 53) rfl rfl rfl ?_
  simp(disch:=first|omega|exact PairsOK.mk rfl|(simp only[lenW]<;>omega)) only[Qaa,Qac,Qad,wW,wV,simprocAttr]
  refine cp hcA ?_
  simp(disch:=first|omega|exact PairsOK.mk rfl|(simp only[lenW]<;>omega)) only[Qaa,Qac,Qad,wW,wV,simprocAttr]
  refine cp hcM ?_
  simp(disch:=first|omega|exact PairsOK.mk rfl|(simp only[lenW]<;>omega)) only[Qaa,Qac,Qad,wW,wV,simprocAttr]
  refine⟨75,q.es.flatMap edC,q.es.length,3,rfl,⟨hcE.1,by show noRefs [egsN q.es]=true;rw[noRefs,Qak];rfl,83,0,0,_,_,rfl,Nat.zero_le _,gg,hcE⟩,Qaf _,by decide,gg,?_⟩
  simp(disch:=first|omega|exact PairsOK.mk rfl|(simp only[lenW]<;>omega)) only[Qaa,Qac,Qad,wW,wV,simprocAttr]
  refine⟨trivial,?_⟩
  refine Qaj 200 (fun i:Nat=>[(2,.ptr 52 0 0),(3,.sl 61 0 0 (badL c i).length 1),(5,.fptr (stG c p q P T)),(6,.ptr 53 0 0),(58,tuV T),(59,.int .i64 T.length),(60,.int .i64 i)]) (fun i=>[(52,.cells 0 [sliN q.al,.int .i64 ((q.n:Int)+1),sliN q.ms,.sl 60 0 0 ((allE c i).length) 3]),(53,.cells 0 [.int .i64 (q.n:Int)]),(60,.cells 0 ((allE c i).flatMap edC)),(61,.cells 0 (ints (nz (badL c i))))]) (fun i=>i<=T.length) (fun i=>T.length-i) 0 0 800
    (fun _:Unit=>[(2,.ptr 52 0 0),(3,.sl 61 0 0 (badL c T.length).length 1),(6,.ptr 53 0 0)]) (fun _=>[(52,.cells 0 [sliN q.al,.int .i64 ((q.n:Int)+1),sliN q.ms,.sl 60 0 0 ((allE c T.length).length) 3]),(53,.cells 0 [.int .i64 (q.n:Int)]),(60,.cells 0 ((allE c T.length).flatMap edC)),(61,.cells 0 (ints (nz (badL c T.length))))]) (fun _=>True) ?_ (Nat.zero_le _) ?_ ?_
  · rw [hae0, hb0]
    refine⟨[(52,.blk 65 0),(53,.blk 82 0),(60,.blk 105 0),(61,.nil)],rfl,RO.zero,?_,RT.cons (Rn.x2 rfl rfl) (RT.cons (Rn.x4 rfl rfl) (RT.cons (Rn.same hS) (RT.cons (Rn.x2 rfl rfl) (RT.cons (Rn.same hnT) au27))))⟩
    exact RB.cells rfl rfl gg (RnL.cons (Rn.same (Qab _)) (RnL.cons (Rn.same rfl) (RnL.cons (Rn.same (Qab _)) (RnL.cons (Rn.x1 rfl rfl) RnL.nil)))) (RB.cells rfl rfl gg (RnL.same rfl) (RB.cells rfl rfl gg (RnL.same (Qaf _)) (RB.newnil rfl rfl RB.nil)))
  · rintro i hi
    by_cases hlt:i<T.length
    · obtain ⟨t, ht⟩ := Qag hlt
      obtain⟨hit,hpt⟩:=hin t (List.mem_of_getElem? ht)
      have htl:c.cs.length<=t.length:=by rw[hit.1,Qba];omega
      have hi1:=Qld (A:=auL c.cs) (B:=auL c.rs) hit
      have hi2:=Qle (A:=auL c.cs) (B:=auL c.rs) hit
      rw[QaS]at hi1 hi2
      have hsp:=hsplit t htl
      have hky:=key72 h hi1
      have hv:=hviol _ hi1
      have hk:ixT P (t.take c.cs.length)<p.n:=by rw[hpn];exact QhU hpt
      have hr2:(t.drop c.cs.length).length=c.rs.length:=by rw[hi2.1,QaS]
      have hrn2:∀(j:Nat) y,c.rs[j]?=some y->(t.drop c.cs.length).getD j 0<y.2.n:=fun j y hy=>hi2.2 j y.2 (by rw[List.getElem?_map,hy];rfl)
      have hrfi:=hrfE i t ht
      have hbi:=hbs i t ht
      have hbl2:=hbl i
      have hail:=hael (i+1) (by omega)
      have hai:=haes i
      have hbil:(ints (nz (badL c i))).length=(badL c i).length:=by simp[ints]
      generalize t.take c.cs.length=t1 at*
      generalize t.drop c.cs.length=t2 at*
      have hrf:=href (ixT P t1) t2
      generalize vioV t1 c.xs c.ks=v at*
      obtain⟨v1,v2,v3⟩:=v
      dsimp only at hv hbi
      have hai2:(allE c i).length+(rfE c i).length<=2500:=by rw[hai,List.length_append]at hail;exact hail
      have hnone:∀{x1 x2 x3 x4 x5:Blk},(hp [(52,x1),(60,x4),(53,x2),(54,x3),(61,x5)]).get 150=none:=fun{x1 x2 x3 x4 x5}=>by simp(disch:=omega) only[QaU,Qkw,QaF,get_e]
      obtain⟨Y,hYd⟩:∃Y:List Ed,Y=(yls c (ixT P t1) t2).map fun y=>(i,y.1,T.length):=⟨_,rfl⟩
      rw[<-hYd]at hrfi
      have hYl:Y.length=(yls c (ixT P t1) t2).length:=by rw[hYd,List.length_map]
      have hYg:∀(j:Nat) y,(yls c (ixT P t1) t2)[j]?=some y->Y[j]?=some (i,y.1,T.length):=fun j y hy=>by rw[hYd,List.getElem?_map,hy];rfl
      rw[hrfi]at hai hai2
      have hY0:(allE c i++Y.take 0).flatMap edC=(allE c i).flatMap edC:=by simp
      have hlen:∀j,j<=Y.length->((allE c i++Y.take j).flatMap edC).length=((allE c i).length+j)*3:=fun j hj=>by rw[Qbj,List.length_append,List.length_take,Nat.min_eq_left hj]
      have hstep:∀(j:Nat) y,(yls c (ixT P t1) t2)[j]?=some y->(allE c i++Y.take (j+1)).flatMap edC=(allE c i++Y.take j).flatMap edC++[.int .i64 (i:Int),.int .i64 (y.1:Int),.int .i64 (T.length:Int)]:=fun j y hy=>by
        rw[take_succ' (hYg j y hy),<-List.append_assoc,List.flatMap_append];rfl
      have hjunk:∀(j:Nat) y,(yls c (ixT P t1) t2)[j]?=some y->edC (Y.getD j (0,0,0))=[.int .i64 (i:Int),.int .i64 (y.1:Int),.int .i64 (T.length:Int)]:=fun j y hy=>by
        rw[List.getD_eq_getElem?_getD,hYg j y hy];rfl
      have hY5:(yls c (ixT P t1) t2).length<=5:=by rw[<-hYl];exact hrl i hlt _ hrfi
      simp(disch:=first|omega|exact PairsOK.mk rfl|(simp only[lenW]<;>omega)) only[hlt,Qir ht,Qaa,Qac,Qad,wW,wV,simprocAttr]
      refine cp hsp ?_
      simp(disch:=first|omega|exact PairsOK.mk rfl|(simp only[lenW]<;>omega)) only[Qaa,Qac,Qad,wW,wV,simprocAttr]
      refine cp hv ?_
      cases v3 with
      | true =>
        simp(disch:=first|omega|exact PairsOK.mk rfl|(simp only[lenW]<;>omega)) only[hbil,Qaa,Qac,Qad,wW,wV,simprocAttr]
        refine cp hky ?_
        simp(disch:=first|omega|exact PairsOK.mk rfl|(simp only[lenW]<;>omega)) only[Qaa,Qac,Qad,wW,wV,simprocAttr]
        refine QdZ (c:=keyC) (f:=ixV P) (x:=t1) (l:=P) (QeA (QaN h) hi1 hPin) hpt ?_
        simp(disch:=first|omega|exact PairsOK.mk rfl|(simp only[lenW]<;>omega)) only[ixV,Qaa,Qac,Qad,wW,wV,simprocAttr]
        refine cp hrf ?_
        simp(disch:=first|omega|exact PairsOK.mk rfl|(simp only[lenW]<;>omega)) only[Qaa,Qac,Qad,wW,wV,simprocAttr]
        refine Qjr (n':=900) (b:=150) (T':=[(2,.ptr 52 0 0),(3,.sl 61 0 0 (badL c (i+1)).length 1),(5,.fptr (stG c p q P T)),(6,.ptr 53 0 0),(7,.ptr 54 0 0),(58,tuV T),(59,.int .i64 T.length),(60,.int .i64 i),(97,rfF c (ixT P t1) t2)]) (L:=[(52,.cells 0 [sliN q.al,.int .i64 ((q.n:Int)+1),sliN q.ms,.sl 60 (0) 0 ((allE c i).length+0) 3]),(60,.cells (0) ((allE c i++Y.take (0)).flatMap edC)),(53,.cells 0 [.int .i64 (q.n:Int)]),(54,.cells 0 [.int .i64 (i:Int)]),(61,.cells 0 (ints (nz (badL c (i+1)))))]) ?_ rfl hnone rfl (hfor (m:=1000) hk t2 hr2 hrn2 (fun j=>(((jkH Y (j) (hp [(53,.cells 0 [.int .i64 (q.n:Int)]),(54,.cells 0 [.int .i64 (i:Int)]),(61,.cells 0 (ints (nz (badL c (i+1)))))])).set 60 (.cells (j) ((allE c i++Y.take (j)).flatMap edC))).set 52 (.cells 0 [sliN q.al,.int .i64 ((q.n:Int)+1),sliN q.ms,.sl 60 (j) 0 ((allE c i).length+j) 3])).set 150 (.loop 0 118 ([(2,.ptr 52 0 0),(3,.sl 61 0 0 (badL c (i+1)).length 1),(5,.fptr (stG c p q P T)),(6,.ptr 53 0 0),(7,.ptr 54 0 0),(58,tuV T),(59,.int .i64 T.length),(60,.int .i64 i),(97,rfF c (ixT P t1) t2)]) [98,99] (.s lpC) (.s lpD) .ready)) _ Y.length ?_ (Nat.le_of_eq hYl) ?_ (.inl ⟨hYl,rfl⟩)) gg ?_
        · rw [hY0, hbi]
          rw[if_pos rfl,List.length_append,QaI,QaB]
          refine⟨[(52,.blk 52 0),(60,.blk 60 0),(53,.blk 53 0),(54,.blk 204 0),(61,.blk 61 1)],rfl,RO.zero,?_,RT.cons (Rn.x2 rfl rfl) (RT.cons (Rn.x1 rfl rfl) (RT.cons (Rn.same hS) (RT.cons (Rn.x2 rfl rfl) (RT.cons (Rn.x2 rfl rfl) (RT.cons (Rn.same hnT) (RT.cons (Rn.same rfl) (RT.cons (Rn.same rfl) (RT.cons (Rn.same (QfP _ _ _)) RT.nil))))))))⟩
          exact RB.cells rfl rfl gg (RnL.cons (Rn.same (Qab _)) (RnL.cons (Rn.same rfl) (RnL.cons (Rn.same (Qab _)) (RnL.cons (Rn.x1 rfl rfl) RnL.nil)))) (RB.cells rfl rfl gg (RnL.same (Qaf _)) (RB.cells rfl rfl gg (RnL.same rfl) (RB.cells rfl rfl gg (RnL.same rfl) (RB.cells rfl rfl gg (RnL.same (SU.Qas (Qae _) rfl)) RB.nil))))
        · exact(by repeat (first|exact Fresh.e|exact Fresh.le (by assumption) (by omega)|refine Fresh.set ?_ (by omega) (by omega)))
        · intro j y hj hy
          have hj5:j<=5:=by omega
          have hln:=hlen j (by omega)
          have hstp:=hstep j y hy
          have hjk:=hjunk j y hy
          have hsz:(allE c i).length+j<=2600:=by omega
          have hlo:∀{h:Heap} {k:Nat},k<1000->(jkH Y j h).get k=h.get k:=fun hk=>jk_lo hk hj5
          have hhi:∀{h:Heap} {k:Nat},1007+20*j<=k->k<1099511627775->(jkH Y j h).get k=h.get k:=fun hk hl=>jk_hi hk hl
          refine RSpec.of_wS (n:=1000+20*j) rfl gg rfl rfl rfl ?_
          simp(disch:=first|omega|exact PairsOK.mk rfl|(simp only[lenW]<;>omega)) only[upsT,hln,hqi,hlo,hhi,Qaa,Qac,Qad,wW,wV,simprocAttr]
          refine⟨rfl,fun x=>?_⟩
          rw[hstp,QmR,hjk]
          simp(disch:=omega) only[Qo9]
          repeat' split
          all_goals first|rfl|omega
        · have hlo : ∀ {h : Heap} {k : Nat}, k < 1000 -> (jkH Y Y.length h).get k = h.get k := fun hk => jk_lo hk (by omega)
          unfold leftQ
          simp(disch:=first|omega|exact PairsOK.mk rfl|(simp only[lenW]<;>omega)) only[List.take_length,Qaa,Qac,Qad,wW,wV,simprocAttr]
          refine⟨i+1,by omega,by omega,?_⟩
          rw[hai,List.length_append]
          refine⟨[(52,.blk 52 0),(53,.blk 53 0),(60,.blk 60 Y.length),(61,.blk 61 0)],rfl,RO.zero,?_,RT.cons (Rn.x2 rfl rfl) (RT.cons (Rn.x1 rfl rfl) (RT.cons (Rn.same hS) (RT.cons (Rn.x2 rfl rfl) (RT.cons (Rn.same hnT) au27))))⟩
          exact RB.cells rfl rfl (by first|(simp(disch:=omega) only[QaC,QaF,QaU,hlo];done)|(simp(disch:=omega) only[QaC,QaF,QaU,hlo];rfl)) (RnL.cons (Rn.same (Qab _)) (RnL.cons (Rn.same rfl) (RnL.cons (Rn.same (Qab _)) (RnL.cons (Rn.x1 rfl rfl) RnL.nil)))) (RB.cells rfl rfl (by first|(simp(disch:=omega) only[QaC,QaF,QaU,hlo];done)|(simp(disch:=omega) only[QaC,QaF,QaU,hlo];rfl)) (RnL.same rfl) (RB.cells rfl rfl (by first|(simp(disch:=omega) only[QaC,QaF,QaU,hlo];done)|(simp(disch:=omega) only[QaC,QaF,QaU,hlo];rfl)) (RnL.same (Qaf _)) (RB.cells rfl rfl (by first|(simp(disch:=omega) only[QaC,QaF,QaU,hlo];done)|(simp(disch:=omega) only[QaC,QaF,QaU,hlo];rfl)) (RnL.same (Qae _)) RB.nil)))
      | false =>
        simp(disch:=first|omega|exact PairsOK.mk rfl|(simp only[lenW]<;>omega)) only[Qaa,Qac,Qad,wW,wV,simprocAttr]
        refine cp hky ?_
        simp(disch:=first|omega|exact PairsOK.mk rfl|(simp only[lenW]<;>omega)) only[Qaa,Qac,Qad,wW,wV,simprocAttr]
        refine QdZ (c:=keyC) (f:=ixV P) (x:=t1) (l:=P) (QeA (QaN h) hi1 hPin) hpt ?_
        simp(disch:=first|omega|exact PairsOK.mk rfl|(simp only[lenW]<;>omega)) only[ixV,Qaa,Qac,Qad,wW,wV,simprocAttr]
        refine cp hrf ?_
        simp(disch:=first|omega|exact PairsOK.mk rfl|(simp only[lenW]<;>omega)) only[Qaa,Qac,Qad,wW,wV,simprocAttr]
        refine Qjr (n':=900) (b:=150) (T':=[(2,.ptr 52 0 0),(3,.sl 61 0 0 (badL c (i+1)).length 1),(5,.fptr (stG c p q P T)),(6,.ptr 53 0 0),(7,.ptr 54 0 0),(58,tuV T),(59,.int .i64 T.length),(60,.int .i64 i),(97,rfF c (ixT P t1) t2)]) (L:=[(52,.cells 0 [sliN q.al,.int .i64 ((q.n:Int)+1),sliN q.ms,.sl 60 (0) 0 ((allE c i).length+0) 3]),(60,.cells (0) ((allE c i++Y.take (0)).flatMap edC)),(53,.cells 0 [.int .i64 (q.n:Int)]),(54,.cells 0 [.int .i64 (i:Int)]),(61,.cells 0 (ints (nz (badL c (i+1)))))]) ?_ rfl hnone rfl (hfor (m:=1000) hk t2 hr2 hrn2 (fun j=>(((jkH Y (j) (hp [(53,.cells 0 [.int .i64 (q.n:Int)]),(54,.cells 0 [.int .i64 (i:Int)]),(61,.cells 0 (ints (nz (badL c (i+1)))))])).set 60 (.cells (j) ((allE c i++Y.take (j)).flatMap edC))).set 52 (.cells 0 [sliN q.al,.int .i64 ((q.n:Int)+1),sliN q.ms,.sl 60 (j) 0 ((allE c i).length+j) 3])).set 150 (.loop 0 118 ([(2,.ptr 52 0 0),(3,.sl 61 0 0 (badL c (i+1)).length 1),(5,.fptr (stG c p q P T)),(6,.ptr 53 0 0),(7,.ptr 54 0 0),(58,tuV T),(59,.int .i64 T.length),(60,.int .i64 i),(97,rfF c (ixT P t1) t2)]) [98,99] (.s lpC) (.s lpD) .ready)) _ Y.length ?_ (Nat.le_of_eq hYl) ?_ (.inl ⟨hYl,rfl⟩)) gg ?_
        · rw [hY0, hbi]
          rw[if_neg (by simp),List.append_nil]
          refine⟨[(52,.blk 52 0),(60,.blk 60 0),(53,.blk 53 0),(54,.blk 204 0),(61,.blk 61 0)],rfl,RO.zero,?_,RT.cons (Rn.x2 rfl rfl) (RT.cons (Rn.x1 rfl rfl) (RT.cons (Rn.same hS) (RT.cons (Rn.x2 rfl rfl) (RT.cons (Rn.x2 rfl rfl) (RT.cons (Rn.same hnT) (RT.cons (Rn.same rfl) (RT.cons (Rn.same rfl) (RT.cons (Rn.same (QfP _ _ _)) RT.nil))))))))⟩
          exact RB.cells rfl rfl gg (RnL.cons (Rn.same (Qab _)) (RnL.cons (Rn.same rfl) (RnL.cons (Rn.same (Qab _)) (RnL.cons (Rn.x1 rfl rfl) RnL.nil)))) (RB.cells rfl rfl gg (RnL.same (Qaf _)) (RB.cells rfl rfl gg (RnL.same rfl) (RB.cells rfl rfl gg (RnL.same rfl) (RB.cells rfl rfl gg (RnL.same (Qae _)) RB.nil))))
        · exact(by repeat (first|exact Fresh.e|exact Fresh.le (by assumption) (by omega)|refine Fresh.set ?_ (by omega) (by omega)))
        · intro j y hj hy
          have hj5:j<=5:=by omega
          have hln:=hlen j (by omega)
          have hstp:=hstep j y hy
          have hjk:=hjunk j y hy
          have hsz:(allE c i).length+j<=2600:=by omega
          have hlo:∀{h:Heap} {k:Nat},k<1000->(jkH Y j h).get k=h.get k:=fun hk=>jk_lo hk hj5
          have hhi:∀{h:Heap} {k:Nat},1007+20*j<=k->k<1099511627775->(jkH Y j h).get k=h.get k:=fun hk hl=>jk_hi hk hl
          refine RSpec.of_wS (n:=1000+20*j) rfl gg rfl rfl rfl ?_
          simp(disch:=first|omega|exact PairsOK.mk rfl|(simp only[lenW]<;>omega)) only[upsT,hln,hqi,hlo,hhi,Qaa,Qac,Qad,wW,wV,simprocAttr]
          refine⟨rfl,fun x=>?_⟩
          rw[hstp,QmR,hjk]
          simp(disch:=omega) only[Qo9]
          repeat' split
          all_goals first|rfl|omega
        · have hlo : ∀ {h : Heap} {k : Nat}, k < 1000 -> (jkH Y Y.length h).get k = h.get k := fun hk => jk_lo hk (by omega)
          unfold leftQ
          simp(disch:=first|omega|exact PairsOK.mk rfl|(simp only[lenW]<;>omega)) only[List.take_length,Qaa,Qac,Qad,wW,wV,simprocAttr]
          refine⟨i+1,by omega,by omega,?_⟩
          rw[hai,List.length_append]
          refine⟨[(52,.blk 52 0),(53,.blk 53 0),(60,.blk 60 Y.length),(61,.blk 61 0)],rfl,RO.zero,?_,RT.cons (Rn.x2 rfl rfl) (RT.cons (Rn.x1 rfl rfl) (RT.cons (Rn.same hS) (RT.cons (Rn.x2 rfl rfl) (RT.cons (Rn.same hnT) au27))))⟩
          exact RB.cells rfl rfl (by first|(simp(disch:=omega) only[QaC,QaF,QaU,hlo];done)|(simp(disch:=omega) only[QaC,QaF,QaU,hlo];rfl)) (RnL.cons (Rn.same (Qab _)) (RnL.cons (Rn.same rfl) (RnL.cons (Rn.same (Qab _)) (RnL.cons (Rn.x1 rfl rfl) RnL.nil)))) (RB.cells rfl rfl (by first|(simp(disch:=omega) only[QaC,QaF,QaU,hlo];done)|(simp(disch:=omega) only[QaC,QaF,QaU,hlo];rfl)) (RnL.same rfl) (RB.cells rfl rfl (by first|(simp(disch:=omega) only[QaC,QaF,QaU,hlo];done)|(simp(disch:=omega) only[QaC,QaF,QaU,hlo];rfl)) (RnL.same (Qaf _)) (RB.cells rfl rfl (by first|(simp(disch:=omega) only[QaC,QaF,QaU,hlo];done)|(simp(disch:=omega) only[QaC,QaF,QaU,hlo];rfl)) (RnL.same (Qae _)) RB.nil)))
    · have e : i = T.length := by omega
      subst e
      simp(disch:=first|omega|exact PairsOK.mk rfl|(simp only[lenW]<;>omega)) only[hlt,Qaa,Qac,Qad,wW,wV,simprocAttr]
      refine⟨(),[(52,.blk 52 0),(53,.blk 53 0),(60,.blk 60 0),(61,.blk 61 0)],rfl,RO.zero,?_,RT.cons (Rn.x2 rfl rfl) (RT.cons (Rn.x1 rfl rfl) (RT.cons (Rn.x2 rfl rfl) RT.nil))⟩
      exact RB.cells rfl rfl gg (RnL.cons (Rn.same (Qab _)) (RnL.cons (Rn.same rfl) (RnL.cons (Rn.same (Qab _)) (RnL.cons (Rn.x1 rfl rfl) RnL.nil)))) (RB.cells rfl rfl gg (RnL.same rfl) (RB.cells rfl rfl gg (RnL.same (Qaf _)) (RB.cells rfl rfl gg (RnL.same (Qae _)) RB.nil)))
  rintro _ _
  have hal9:=hael T.length (Nat.le_refl _)
  have hwl:(wantE c T.length).length=(allE c T.length).length:=hperm.length_eq
  have hbl9:=hbl T.length
  have hbil9:(ints (nz (badL c T.length))).length=(badL c T.length).length:=by simp[ints]
  simp(disch:=first|omega|exact PairsOK.mk rfl|(simp only[lenW]<;>omega)) only[Qaa,Qac,Qad,wW,wV,simprocAttr]
  refine ch (sort76 (l:=allE c T.length) (M:=wantE c T.length) (b:=60) (γ:=0) hsm (by omega) hperm hsrt gg (by omega)) ?_
  have hel9:=Qbj (wantE c T.length)
  rw[hwl]at hel9
  have e1:cpG c q T.length=[sliN q.al,.int .i64 ((T.length:Int)+1),sliN q.ms,.fsl ((wantE c T.length).flatMap edC) (allE c T.length).length 3]:=by rw[cpG,hqi,egsN,hwl]
  have e2:sliN (badL c T.length++[T.length])= .fsl (ints (nz (badL c T.length))++[.int .i64 (T.length:Int)]) ((badL c T.length).length+1) 1:=by
    rw[sliN,List.length_append,QaI,QaB];rfl
  rw[e1,e2]
  simp(disch:=first|omega|exact PairsOK.mk rfl|(simp only[lenW]<;>omega)) only[hbil9,hqi,Qaa,Qac,Qad,wW,wV,simprocAttr]
  refine⟨.inr trivial,_,rfl,?_⟩
  refine Rn.tup (RnL.cons (Rn.agg (RnL.cons (Rn.same (Qab _)) (RnL.cons (Rn.same rfl) (RnL.cons (Rn.same (Qab _)) (RnL.cons (Rn.fz0 (b:=60) (g:=0) gg hel9 (RnL.same (Qaf _))) RnL.nil))))) (RnL.cons (Rn.fz0 (b:=61) (g:=1) gg (by rw[List.length_append,hbil9];simp) (RnL.same (SU.Qas (Qae _) rfl))) (RnL.cons (Rn.same rfl) RnL.nil)))
end Go.AM.SO
namespace Go.AM.SO
open Go.Proofs Go.AM.SD Go.AM.SE
theorem automata29N (l:List (List UInt8×Aut)) (hl:l.length<=1000):PSpec Tryz.prog 29 [itsN l] (auts (l.map (·.2))):=by
  refine PSpec.of_rn 64 TP.ok29 rfl (by rw[noRefs,Qb0];rfl) (QaL _) ?_
  have hni:=Qb0 l
  simp(disch:=first|omega|exact PairsOK.mk rfl|(simp only[lenW]<;>omega)) only[TP.s29,Qaa,Qac,Qad,wW,wV,simprocAttr]
  refine Qaj 100 (fun i:Nat=>[(3,.sl 60 0 0 i 4),(6,itsN l),(7,.int .i64 l.length),(8,.int .i64 i)]) (fun i=>[(60,.cells 0 (((l.take i).map (·.2)).flatMap auC))]) (fun i=>i<=l.length) (fun i=>l.length-i) 0 0 160 (fun _:Unit=>[(3,auts (l.map (·.2)))]) (fun _=>[]) (fun _=>True) ?_ (Nat.zero_le _) ?_ ?_
  · refine ⟨[(60, .nil)], rfl, au0, ?_, au27⟩
    exact RB.newnil rfl rfl RB.nil
  · rintro i hi
    by_cases hlt:i<l.length
    · obtain ⟨x, hx⟩ := Qag hlt
      have hdr:=QmM hx
      have hdl:5<=((l.flatMap itN).drop (i*5)).length:=by rw[hdr];simp
      have htl:((l.take i).map (·.2)).length=i:=by rw[List.length_map,List.length_take];omega
      have htm:(((l.take i).map (·.2)).flatMap auC).length=i*4:=by rw[Qcs,htl]
      have hap:((l.take (i+1)).map (·.2)).flatMap auC=((l.take i).map (·.2)).flatMap auC++auC x.2:=by rw[take_succ' hx];simp
      simp(disch:=first|omega|exact PairsOK.mk rfl|(simp only[lenW]<;>omega)) only[hlt,hdr,hdl,htm,Qab,Qak,Qaa,Qac,Qad,wW,wV,simprocAttr]
      refine⟨i+1,by omega,by omega,?_⟩
      rw[hap]
      refine⟨[(60,.blk 60 1)],rfl,au0,?_,au27⟩
      exact RB.cells rfl rfl gg (RnL.same (SU.Qas (QaH _) (QaH [x.2]))) RB.nil
    · have e : i = l.length := by omega
      subst e
      simp(disch:=first|omega|exact PairsOK.mk rfl|(simp only[lenW]<;>omega)) only[hlt,List.take_length,Qaa,Qac,Qad,wW,wV,simprocAttr]
      exact⟨(),[],rfl,RO.zero,RB.nil,RT.cons (Rn.fzm (b:=60) (g:=0) gg rfl rfl (by simp) (by rw[Qcs];simp) (RnL.same (QaH _))) RT.nil⟩
  rintro _ _
  simp(disch:=first|omega|exact PairsOK.mk rfl|(simp only[lenW]<;>omega)) only[Qaa,Qac,Qad,wW,wV,simprocAttr]
  exact⟨.inr trivial,_,rfl,Rn.same (QaL _)⟩
theorem Qr2 (c:Cel):(nmL' 99 c.cs++nmL' 114 c.rs).map (·.2)=allA c:=by
 unfold nmL' allA
 rw[List.map_append,List.map_map,List.map_map];rfl
end Go.AM.SO
namespace Go.AM.TW
open Go.Proofs
set_option maxHeartbeats 4000000
noncomputable section
def cf:YA.Cf:={most:= .pure,always:=[31,48].map fun k=>(k,.heap)}
def s9:SFn:=by
 refine(?f:YA.Yt Tryz.prog cf 9 [[0,2],[20,21,22,23,24,25],[1,26,27],[2,1,26,28,29],[31,32,30,33,34,35],[37,38,39,40,36,41,42,43],[6,9,44,45,46,47,48],[3,4,5,7,8,49],[2,49,50,51,52],[53,54,55,56,57,58,59,60],[],[61],[],[64,65],[67,68,69,70,71,72,73,74,75,76,77,78,79,80,81,66,82,83],[14,15,84,85],[89,90,91,92,93],[89,94,95,96,97,98,99,100],[],[104,105,106],[107,108],[109,110,111,112,113,114,115,116,117],[18,118,119,120,121,122],[123],[3,4,5,7,8,10,11,12,62,63,88,87,86,152,146,151,147,150,149,148,13,101,102,103,17,19,124],[2,19,124,125,126,127,128,129,130],[17,18,118,131,132,133,134,135,136,137,138,139],[140],[13,101,102,103,141],[3,4,5,7,8,10,11,12,62,63,88,87,86,152,146,151,147,150,149,148,142,143,144,145,153]] [(15,[(14,18)])]) ?s ?h
 case h=>exact YA.rr
 exact fun s _=>s
def s49:SFn:=by
 refine(?f:YA.Yt Tryz.prog cf 49 [[0,4],[1,2,3,5,6,7,8,9,10,11,12,13,14]]) ?s ?h
 case h=>exact YA.rr
 exact fun s _=>s
theorem ok9:okFn Tryz.prog 9 s9=true:=by kernel_rfl
theorem ok49:okFn Tryz.prog 49 s49=true:=by kernel_rfl
end
end Go.AM.TW
namespace Go.AM.SO
open Go.Proofs Go.AM.SD Go.AM.SE
theorem Qq0 {es:List Ed} {s e:Nat}:(es.find? (edQ s e)).map (·.2.2)=stepA es s e:=by
 unfold stepA
 congr 2
theorem Qhd {es:List Ed} {s e t:Nat} (h:stepA es s e=some t):∃(k:Nat) (y:Ed),idxQ (edQ s e) es=k/\es[k]?=some y/\y.2.2=t:=by
 have ha:es.any (edQ s e)=true:=by rw[Qlf,h];rfl
 have hf:=Qq0 (es:=es) (s:=s) (e:=e)
 rw[Qg9,h]at hf
 cases hy:es[es.findIdx (edQ s e)]? with
 |none=>rw[hy]at hf;simp at hf
 |some y=>
  rw[hy]at hf
  exact⟨_,y,Qd7 ha,hy,by simpa using hf⟩
theorem Qpa {c:Cel} (h:WfCel c) {i:Nat} (hi:i<(sync0 (allA c)).1.length) {e:Nat} (he:e∈evS (auL c.cs) (tA c i)) (hneg:rfI c (tB c i) e<0):(stepA (syncA (allA c)).es i e).isSome=true:=by
 have ht:=Qlm hi
 have hin:=(QeC h _ (List.mem_of_getElem? ht)).1
 have hl:c.cs.length<=((sync0 (allA c)).1.getD i []).length:=by rw[hin.1,Qba];omega
 have hwb:=Qcj (Qa9 h) (by rw[Qba];have:=h.c3;have:=h.r2;omega)
 have hsp:=(QcK (fun a ha=>(Qa9 h a ha).pos) fun a ha=>(Qa9 h a ha).wf.esn).ed
 obtain⟨hee,hst⟩:=List.mem_filter.1 he
 obtain⟨n,hn⟩:=Option.isSome_iff_exists.1 ((Qed hl).2 ⟨hst,hneg⟩)
 have hmem:(i,e,ixT (sync0 (allA c)).1 n)∈(syncA (allA c)).es:=by
  show _∈(sync0 (allA c)).2
  rw[hsp]
  refine List.mem_flatMap.2 ⟨i,List.mem_range.2 hi,?_⟩
  unfold rowE
  exact List.mem_filterMap.2 ⟨e,by rw[Qll h];exact hee,by rw[hn];rfl⟩
 have:=Qd4 hwb.es hmem
 dsimp only at this
 rw[this];rfl
theorem Qp0 {c:Cel} {i:Nat} {t r:List Nat} (h:(vioV t c.xs c.ks).2.2=true):∃k x:Int,rsnD c i t r=some (i,k,x,-1)/\k≠3:=by
 have hv:=Qf4 t c.xs c.ks
 refine⟨_,_,by unfold rsnD;rw[if_pos h],?_⟩
 rw[hv]at h⊢
 split
 ·show (1 : Int) ≠ 3
  decide
 ·split
  ·show (2 : Int) ≠ 3
   decide
  ·show (0 : Int) ≠ 3
   decide
theorem Qq1 {c:Cel} {i:Nat} {t r:List Nat} (h:(vioV t c.xs c.ks).2.2=false):rsnD c i t r=none\/∃x y:Int,rsnD c i t r=some (i,3,x,y):=by
 unfold rsnD
 rw[if_neg (by simp[h])]
 cases(evS (auL c.cs) t).find? fun e=>decide (0<=rfI c r e)&& !(c.ev e).c with
 |none=>exact .inl rfl
 |some e=>exact .inr ⟨_,_,rfl⟩
theorem Qh1 (c:Cel) (n:Nat):wantE c (n+1)=wantE c n++wE c n:=by unfold wantE;rw[List.range_succ,List.flatMap_append];simp
theorem Qq2 {c:Cel} {i j e:Nat} (h:(evS (auL c.cs) (tA c i))[j]?=some e):(wE c i).take (j+1)=(wE c i).take j++[wEd c i e]:=by
 refine take_succ' ?_
 unfold wE;rw[List.getElem?_map,h];rfl
theorem ed49 (x:Ed) (i e:Nat):PSpec Tryz.prog 49 [.agg [.int .i64 (x.1:Int),.int .i64 (x.2.1:Int),.int .i64 (x.2.2:Int)],.fptr [.int .i64 (i:Int)],.fptr [.int .i64 (e:Int)]] (.bool (edQ i e x)):=by
  refine PSpec.Qal 64 TW.ok49 rfl (by simp only[noRefs,noRef,Qae];rfl) rfl ?_
  have hd2:decide ((x.2.1:Int)=(e:Int))=decide (x.2.1=e):=decide_eq_decide.2 (by omega)
  unfold edQ
  by_cases h1:x.1=i
  · have h1' : ((x.1 : Int) = (i : Int)) = True := eq_true (by omega)
    have h1a:decide (x.1=i)=true:=by simp[h1]
    rw[h1a,Bool.true_and]
    simp(disch:=first|omega|exact PairsOK.mk rfl|(simp only[lenW]<;>omega)) only[TW.s49,h1',hd2,Qaa,Qac,Qad,wW,wV,simprocAttr]
    exact⟨.inr trivial,_,rfl,rfl⟩
  · have h1' : ((x.1 : Int) = (i : Int)) = False := eq_false (by omega)
    have h1a:decide (x.1=i)=false:=by simp[h1]
    rw[h1a,Bool.false_and]
    simp(disch:=first|omega|exact PairsOK.mk rfl|(simp only[lenW]<;>omega)) only[TW.s49,h1',hd2,Qaa,Qac,Qad,wW,wV,simprocAttr]
    exact⟨.inr trivial,_,rfl,rfl⟩
theorem law9 (p : Pln) (h : POk p) (hxn : p.xn <= 9223372036854775807) :
    W2 Tryz.prog ⟨TW.s9.n,0⟩ TW.s9.body (fun e B=>(e= .normal\/e= .ret)/\resV B.T B.h TW.s9.res=some [.bool true]) ⟨argT 0 [plnV p],.e⟩:=by
  refine(wpC.toW (n:=40) (Q:=fun e T h _=>(e= .normal\/e= .ret)/\resV T h TW.s9.res=some [.bool true]) (show wS Tryz.prog ⟨TW.s9.n,0⟩ TW.s9.body [] 40 _ _ _ from ?_)).mono fun e B ⟨_,h⟩=>h
  have hlen:=SU.Qij h
  have hone:=SU.Qik h
  have hnr:=@SU.Qdv p
  have hS:=short25 p h hxn
  have hM:=SU.Make26 p h
  have hw:=@Qrn p
  have hnc:=Qbf (mkC p)
  have htk:(plnC p).take 152=plnC p:=by rw[<-hlen,List.take_length]
  show wS _ _ _ _ _ (argT 0 [.agg (plnC p)]) _ _
  have hS':PSpec Tryz.prog 25 [.agg (plnC p)] (.bool (decide (p.xn<=4))):=hS
  have hM':PSpec Tryz.prog 26 [.agg (plnC p)] (celV (mkC p)):=hM
  clear hS hM
  generalize plnC p=C at*
  generalize mkC p=c at*
  by_cases h4:p.xn<=4
  · have e4 : decide (p.xn <= 4) = true := by simp [h4]
    rw[e4]at hS'
    have h0:=hw.c0
    have h3:=hw.c3
    have h2:=hw.r2
    have hO:=complete19 c hw
    have hI:=items43 c h0 (by omega) (by omega)
    have hA:=automata29N (nmL' 99 c.cs++nmL' 114 c.rs) (by rw[List.length_append,QbP,QbP];omega)
    rw[Qr2]at hA
    have hY:=Qla c hw
    obtain⟨hAO,hT,hT5⟩:=Qg8 (Qa9 hw) (by rw[Qba];omega)
    have hwl:(wantE c (sync0 (allA c)).1.length).length=(allE c (sync0 (allA c)).1.length).length:=(Qjt hw).length_eq
    have hadl:=Qhc hw (Nat.le_refl (sync0 (allA c)).1.length)
    have hel:=(Qcj (Qa9 hw) (by rw[Qba];omega)).el
    have hwl2:(wantE c (sync0 (allA c)).1.length).length<=5000:=by rw[hwl];unfold allE;rw[List.length_append];omega
    have hQ:=eq43 ⟨(syncA (allA c)).al,(sync0 (allA c)).1.length+1,(syncA (allA c)).ms,wantE c (sync0 (allA c)).1.length⟩ ⟨(syncA (allA c)).al,(sync0 (allA c)).1.length+1,(syncA (allA c)).ms,wantE c (sync0 (allA c)).1.length⟩ ⟨hAO.al,hAO.ms,by dsimp only;omega⟩ ⟨hAO.al,hAO.ms,by dsimp only;omega⟩
    rw[QfH]at hQ
    have hbl:=Qln c
    have hQ2:=eq41N (badL c (sync0 (allA c)).1.length++[(sync0 (allA c)).1.length]) (badL c (sync0 (allA c)).1.length++[(sync0 (allA c)).1.length]) (by have:=hbl (sync0 (allA c)).1.length;rw[List.length_append,List.length_singleton];omega)
    rw[decide_eq_true rfl]at hQ2
    have hin:=QeC hw
    have hqn:(syncA (allA c)).n=(sync0 (allA c)).1.length:=rfl
    have hre:=fun i t (ht:InT (auL c.cs) t) r hr hi=>reason44 c hw i ht r hr hi
    have hpo:=fun t (ht:InT (auL c.cs) t)=>possible46 c hw ht
    have hrf:=fun r (hr:r.length=c.rs.length) e=>refd47 c hw r hr e
    have hbs:∀i t,(sync0 (allA c)).1[i]?=some t->badL c (i+1)=badL c i++(if(vioV (t.take c.cs.length) c.xs c.ks).2.2 then[i]else[]):=fun i t ht=>by
      rw[Qjv];unfold tA;rw[List.getD_eq_getElem?_getD,ht];rfl
    have htA:∀i t,(sync0 (allA c)).1[i]?=some t->tA c i=t.take c.cs.length:=fun i t ht=>by unfold tA;rw[List.getD_eq_getElem?_getD,ht];rfl
    have htB:∀i t,(sync0 (allA c)).1[i]?=some t->tB c i=t.drop c.cs.length:=fun i t ht=>by unfold tB;rw[List.getD_eq_getElem?_getD,ht];rfl
    have hws:=fun i hi e he hneg=>@Qpa c hw i hi e he hneg
    have hed:∀i e,rfI c (tB c i) e<0->∀t,stepA (syncA (allA c)).es i e=some t->wEd c i e=(i,e,t):=fun i e hn t ht=>by unfold wEd;rw[if_pos hn,ht];rfl
    have hed2:∀i e,¬rfI c (tB c i) e<0->wEd c i e=(i,e,(sync0 (allA c)).1.length):=fun i e hn=>by unfold wEd;rw[if_neg hn]
    have hwpre:∀i,i<=(sync0 (allA c)).1.length->(wantE c i).length<=5*i:=fun i hi=>by
      clear hwl hwl2
      induction i with
      |zero=>simp[wantE]
      | succ i ih =>
        have:=ih (by omega)
        have h5:(wE c i).length<=5:=by unfold wE evS;rw[List.length_map];exact Nat.le_trans (List.length_filter_le ..) (Qcp (QaN hw))
        rw[Qh1,List.length_append];omega
    have hev5:∀t,(evS (auL c.cs) t).length<=5:=fun t=>Nat.le_trans (List.length_filter_le ..) (Qcp (QaN hw))
    have hIx:=fun(i e:Nat)=>index48 (K:=49) (cap:=[.fptr [.int .i64 (i:Int)],.fptr [.int .i64 (e:Int)]]) (edQ i e) (syncA (allA c)).es (by omega) (by simp only[noRefs,noRef];rfl) fun y _=>ed49 y i e
    have hcpn:noRef (cpV c)=true:=Qjw c
    rw[cpV]at*
    generalize hqd:syncA (allA c)=q at*
    generalize hTd:(sync0 (allA c)).1=T at*
    have hnT:=Qci T
    have hqn':(q.n:Int)=(T.length:Int):=by omega
    have hnS:noRefs [sliN q.al,.int .i64 ((T.length:Int)+1),sliN q.ms,egsN (wantE c T.length)]=true:=by simp only[noRefs,Qab,Qak,Bool.true_and,Bool.and_true];rfl
    have hnq:noRefs [sliN q.al,.int .i64 (T.length:Int),sliN q.ms,egsN q.es]=true:=by simp only[noRefs,Qab,Qak,Bool.true_and,Bool.and_true];rfl
    obtain⟨bd,hbd⟩:∃bd,bd=badL c T.length++[T.length]:=⟨_,rfl⟩
    rw[<-hbd]at hO
    have ecp:cpG c q T.length=[sliN q.al,.int .i64 ((T.length:Int)+1),sliN q.ms,egsN (wantE c T.length)]:=by rw[cpG,hqn']
    simp(disch:=first|omega|exact PairsOK.mk rfl|(simp only[lenW]<;>omega)) only[TW.s9,hlen,hone,htk,Qaa,Qac,Qad,wW,wV,simprocAttr]
    refine cp SK.known15 ?_
    simp(disch:=first|omega|exact PairsOK.mk rfl|(simp only[lenW]<;>omega)) only[hlen,htk,Qaa,Qac,Qad,wW,wV,simprocAttr]
    refine cp hS' ?_
    simp(disch:=first|omega|exact PairsOK.mk rfl|(simp only[lenW]<;>omega)) only[hlen,htk,Qaa,Qac,Qad,wW,wV,simprocAttr]
    refine cp hM' ?_
    simp(disch:=first|omega|exact PairsOK.mk rfl|(simp only[lenW]<;>omega)) only[Qaa,Qac,Qad,wW,wV,simprocAttr]
    refine cp hO ?_
    simp(disch:=first|omega|exact PairsOK.mk rfl|(simp only[lenW]<;>omega)) only[Qaa,Qac,Qad,wW,wV,simprocAttr]
    refine cp hI ?_
    simp(disch:=first|omega|exact PairsOK.mk rfl|(simp only[lenW]<;>omega)) only[Qaa,Qac,Qad,wW,wV,simprocAttr]
    refine cp hA ?_
    simp(disch:=first|omega|exact PairsOK.mk rfl|(simp only[lenW]<;>omega)) only[Qaa,Qac,Qad,wW,wV,simprocAttr]
    refine cp hY ?_
    simp(disch:=first|omega|exact PairsOK.mk rfl|(simp only[lenW]<;>omega)) only[hqn',Qaa,Qac,Qad,wW,wV,simprocAttr]
    refine Qaj 200 (fun i:Nat=>[(3,.ptr 51 0 0),(4,.ptr 52 0 0),(5,sliN bd),(7,.ptr 53 0 0),(8,tuV T),(10,.int .i64 c.cs.length),(11,.ptr 54 0 0),(12,.sl 61 0 0 (badL c i).length 1),(62,.int .i64 T.length),(63,.int .i64 i)]) (fun i=>[(51,.cells 0 [evsV c.ev,its 99 c.cs,its 114 c.rs,exs c.xs,cos c.ks]),(52,.cells 0 [sliN q.al,.int .i64 ((T.length:Int)+1),sliN q.ms,egsN (wantE c T.length)]),(53,.cells 0 [sliN q.al,.int .i64 (T.length:Int),sliN q.ms,egsN q.es]),(54,.cells 0 [sliN q.al,.int .i64 ((T.length:Int)+1),sliN q.ms,.sl 60 0 0 ((wantE c i).length) 3]),(60,.cells 0 ((wantE c i).flatMap edC)),(61,.cells 0 (ints (nz (badL c i))))]) (fun i=>i<=T.length) (fun i=>T.length-i) 0 0 1500
      (fun _:Unit=>[(4,.ptr 52 0 0),(5,sliN bd),(7,.ptr 53 0 0),(11,.ptr 54 0 0),(12,.sl 61 0 0 (badL c T.length).length 1)]) (fun _=>[(52,.cells 0 [sliN q.al,.int .i64 ((T.length:Int)+1),sliN q.ms,egsN (wantE c T.length)]),(53,.cells 0 [sliN q.al,.int .i64 (T.length:Int),sliN q.ms,egsN q.es]),(54,.cells 0 [sliN q.al,.int .i64 ((T.length:Int)+1),sliN q.ms,egsN (wantE c T.length)]),(61,.cells 0 (ints (nz (badL c T.length))))]) (fun _=>True) ?_ (Nat.zero_le _) ?_ ?_
    · refine ⟨[(51, .blk 51 0), (52, .blk 59 0), (53, .blk 71 0), (54, .blk 93 0), (60, .nil), (61, .nil)], rfl, RO.zero, ?_, RT.cons (Rn.x2 rfl rfl) (RT.cons (Rn.x2 rfl rfl) (RT.cons (Rn.same (Qab _)) (RT.cons (Rn.x2 rfl rfl) (RT.cons (Rn.same hnT) (RT.cons (Rn.same rfl) (RT.cons (Rn.x2 rfl rfl) (RT.cons (Rn.x4 rfl rfl) au27)))))))⟩
      exact RB.cells rfl rfl gg (RnL.same hnc) (RB.cells rfl rfl gg (RnL.same hnS) (RB.cells rfl rfl gg (RnL.same hnq) (RB.cells rfl rfl gg (RnL.cons (Rn.same (Qab _)) (RnL.cons (Rn.same rfl) (RnL.cons (Rn.same (Qab _)) (RnL.cons (Rn.x4 rfl rfl) RnL.nil)))) (RB.newnil rfl rfl (RB.newnil rfl rfl RB.nil)))))
    · rintro i hi
      by_cases hlt:i<T.length
      · obtain ⟨t, ht⟩ := Qag hlt
        obtain⟨hit,hpt⟩:=hin t (List.mem_of_getElem? ht)
        have htl:c.cs.length<=t.length:=by rw[hit.1,Qba];omega
        have hi1:=Qld (A:=auL c.cs) (B:=auL c.rs) hit
        have hi2:=Qle (A:=auL c.cs) (B:=auL c.rs) hit
        rw[QaS]at hi1 hi2
        have hr2:(t.drop c.cs.length).length=c.rs.length:=by rw[hi2.1,QaS]
        have hR1:=hre i _ hi1 _ hr2 (by omega)
        have hP:=hpo _ hi1
        have hrfi:=hrf _ hr2
        have hbi:=hbs i t ht
        have hbl2:=hbl i
        have hbil:(ints (nz (badL c i))).length=(badL c i).length:=by simp[ints]
        have hwi:=hwpre i (by omega)
        have hL5:=hev5 (t.take c.cs.length)
        have hhk:=Qir ht
        have hml:min c.cs.length t.length=c.cs.length:=Nat.min_eq_left htl
        have e1:sliN (t.take c.cs.length)= .fsl (ints (nz (t.take c.cs.length))) c.cs.length 1:=by rw[sliN,List.length_take,hml]
        have e2:sliN (t.drop c.cs.length)= .fsl (ints (nz (t.drop c.cs.length))) (t.length-c.cs.length) 1:=by rw[sliN,List.length_drop]
        have htd:(t.drop c.cs.length).take (t.length-c.cs.length)=t.drop c.cs.length:=List.take_of_length_le (by rw[List.length_drop];exact Nat.le_refl _)
        have hclt:(c.cs.length:Int)<=(t.length:Int):=by omega
        rw[e1,e2]at hR1
        rw[e1]at hP
        rw[e2]at hrfi
        have hLd:evS (auL c.cs) (tA c i)=evS (auL c.cs) (t.take c.cs.length):=by rw[htA i t ht]
        have hwsi:=hws i hlt
        have hedi:=hed i
        have hed2i:=hed2 i
        rw[hLd,htB i t ht]at hwsi
        rw[htB i t ht]at hedi hed2i
        have hwll:(wE c i).length=(evS (auL c.cs) (t.take c.cs.length)).length:=by unfold wE;rw[List.length_map,hLd]
        have hwes:=Qh1 c i
        have hov:=@Qp0 c i (t.take c.cs.length) (t.drop c.cs.length)
        have hon:=@Qq1 c i (t.take c.cs.length) (t.drop c.cs.length)
        generalize rsnD c i (t.take c.cs.length) (t.drop c.cs.length)=o at*
        generalize hvd:(vioV (t.take c.cs.length) c.xs c.ks).2.2=v3 at*
        have hwEt:∀(j e:Nat),(evS (auL c.cs) (t.take c.cs.length))[j]?=some e->(wE c i).take (j+1)=(wE c i).take j++[wEd c i e]:=fun j e he=>Qq2 (by rw[hLd];exact he)
        generalize hLL:evS (auL c.cs) (t.take c.cs.length)=L at*
        obtain⟨t2,ht2⟩:∃t2,t2=t.drop c.cs.length:=⟨_,rfl⟩
        rw[<-ht2]at hwsi hedi hed2i hrfi
        have htd2:t2.take (t.length-c.cs.length)=t2:=by rw[ht2];exact htd
        simp(disch:=first|omega|exact PairsOK.mk rfl|(simp only[lenW]<;>omega)) only[hlt,hhk,hclt,QbG,Qby,htd,Qaa,Qac,Qad,wW,wV,simprocAttr]
        refine Qne [] rfl rfl ?_
        simp(disch:=first|omega|exact PairsOK.mk rfl|(simp only[lenW]<;>omega)) only[hlt,hhk,hclt,QbG,Qby,htd,Qaa,Qac,Qad,wW,wV,simprocAttr]
        refine cp hR1 ?_
        unfold rsV
        cases v3 with
        | true =>
          obtain⟨k,x,ho,hk3⟩:=hov rfl
          rw[ho]
          have hz:rsC (i,k,x,-1)=[.int .i64 (i:Int),.int .i64 k,.int .i64 x,.int .i64 (-1)]:=rfl
          simp(disch:=first|omega|exact PairsOK.mk rfl|(simp only[lenW]<;>omega)) only[hz,Option.isSome_some,hk3,hbil,hhk,hclt,QbG,Qaa,Qac,Qad,wW,wV,simprocAttr]
          refine⟨trivial,?_⟩
          refine cp hP ?_
          simp(disch:=first|omega|exact PairsOK.mk rfl|(simp only[lenW]<;>omega)) only[Qaa,Qac,Qad,wW,wV,simprocAttr]
          refine Qaj 600 (fun j:Nat=>[(3,.ptr 51 0 0),(4,.ptr 52 0 0),(5,sliN bd),(7,.ptr 53 0 0),(8,tuV T),(10,.int .i64 c.cs.length),(11,.ptr 54 0 0),(12,.sl 61 0 0 (badL c (i+1)).length 1),(13,.ptr 55 0 0),(62,.int .i64 T.length),(63,.int .i64 i),(101,sliN L),(102,.int .i64 L.length),(103,.int .i64 j)]) (fun j=>[(51,.cells 0 [evsV c.ev,its 99 c.cs,its 114 c.rs,exs c.xs,cos c.ks]),(52,.cells 0 [sliN q.al,.int .i64 ((T.length:Int)+1),sliN q.ms,egsN (wantE c T.length)]),(53,.cells 0 [sliN q.al,.int .i64 (T.length:Int),sliN q.ms,egsN q.es]),(54,.cells 0 [sliN q.al,.int .i64 ((T.length:Int)+1),sliN q.ms,.sl 60 0 0 ((wantE c i++(wE c i).take j).length) 3]),(55,.cells 0 [.int .i64 (i:Int)]),(60,.cells 0 ((wantE c i++(wE c i).take j).flatMap edC)),(61,.cells 0 (ints (nz (badL c (i+1)))))]) (fun j=>j<=L.length) (fun j=>L.length-j) 0 2 800
            (fun _:Unit=>[(3,.ptr 51 0 0),(4,.ptr 52 0 0),(5,sliN bd),(7,.ptr 53 0 0),(8,tuV T),(10,.int .i64 c.cs.length),(11,.ptr 54 0 0),(12,.sl 61 0 0 (badL c (i+1)).length 1),(13,.ptr 55 0 0),(62,.int .i64 T.length),(63,.int .i64 i)]) (fun _=>[(51,.cells 0 [evsV c.ev,its 99 c.cs,its 114 c.rs,exs c.xs,cos c.ks]),(52,.cells 0 [sliN q.al,.int .i64 ((T.length:Int)+1),sliN q.ms,egsN (wantE c T.length)]),(53,.cells 0 [sliN q.al,.int .i64 (T.length:Int),sliN q.ms,egsN q.es]),(54,.cells 0 [sliN q.al,.int .i64 ((T.length:Int)+1),sliN q.ms,.sl 60 0 0 ((wantE c (i+1)).length) 3]),(55,.cells 0 [.int .i64 (i:Int)]),(60,.cells 0 ((wantE c (i+1)).flatMap edC)),(61,.cells 0 (ints (nz (badL c (i+1)))))]) (fun _=>True) ?_ (Nat.zero_le _) ?_ ?_
          · rw [List.take_zero, List.append_nil, hbi]
            rw[if_pos rfl,List.length_append,QaI,QaB]
            refine⟨[(51,.blk 51 0),(52,.blk 52 0),(53,.blk 53 0),(54,.blk 54 0),(55,.blk 202 0),(60,.blk 60 0),(61,.blk 61 1)],rfl,RO.zero,?_,RT.cons (Rn.x2 rfl rfl) (RT.cons (Rn.x2 rfl rfl) (RT.cons (Rn.same (Qab _)) (RT.cons (Rn.x2 rfl rfl) (RT.cons (Rn.same hnT) (RT.cons (Rn.same rfl) (RT.cons (Rn.x2 rfl rfl) (RT.cons (Rn.x1 rfl rfl) (RT.cons (Rn.x2 rfl rfl) au27))))))))⟩
            exact RB.cells rfl rfl gg (RnL.same hnc) (RB.cells rfl rfl gg (RnL.same hnS) (RB.cells rfl rfl gg (RnL.same hnq) (RB.cells rfl rfl gg (RnL.cons (Rn.same (Qab _)) (RnL.cons (Rn.same rfl) (RnL.cons (Rn.same (Qab _)) (RnL.cons (Rn.x1 rfl rfl) RnL.nil)))) (RB.cells rfl rfl gg (RnL.same rfl) (RB.cells rfl rfl gg (RnL.same (Qaf _)) (RB.cells rfl rfl gg (RnL.same (SU.Qas (Qae _) rfl)) RB.nil))))))
          · rintro j hj
            by_cases hlt2:j<L.length
            · obtain ⟨e, he⟩ := Qag hlt2
              have hR:=hrfi e
              have htk2:=hwEt j e he
              have hhd:=Qaz he
              rw[Qby]at hhd
              have hln:=Qbj (wantE c i++(wE c i).take j)
              rw[List.length_append]at hln
              have hl5:(wantE c i++(wE c i).take j).length<=5000:=by
                rw[List.length_append,List.length_take];omega
              rw[List.length_append]at hl5
              by_cases hneg:rfI c t2 e<0
              · obtain ⟨to, hto⟩ := Option.isSome_iff_exists.1 (hwsi e (List.mem_of_getElem? he) hneg)
                obtain⟨k,y,hk1,hk2,hk3⟩:=Qhd hto
                have hwe:=hedi e hneg to hto
                have hI2:=hIx i e
                rw[hk1]at hI2
                have hkl:k<q.es.length:=(List.getElem?_eq_some_iff.1 hk2).1
                have hdr:=QaP hk2
                have hdl:3<=((q.es.flatMap edC).drop (k*3)).length:=by rw[hdr];simp
                have hk0:¬(k:Int)<0:=by omega
                simp(disch:=first|omega|exact PairsOK.mk rfl|(simp only[lenW]<;>omega)) only[hlt2,hhd,hhk,hclt,QbG,Qby,htd2,ht2.symm,Qaa,Qac,Qad,wW,wV,simprocAttr]
                refine cp hR ?_
                simp(disch:=first|omega|exact PairsOK.mk rfl|(simp only[lenW]<;>omega)) only[hneg,Qaa,Qac,Qad,wW,wV,simprocAttr]
                refine SU.chc (HSpec.lend (FrzL.cons (FrzTo.same _) (FrzL.cons (FrzTo.fn FrzL.nil (FrzL.cons (FrzTo.ptr (g:=0) (cs:=[.int .i64 (i:Int)]) gg (FrzL.same _)) (FrzL.cons (FrzTo.ptr (g:=0) (cs:=[.int .i64 (e:Int)]) gg (FrzL.same _)) FrzL.nil))) FrzL.nil)) hI2 rfl) ?_
                simp(disch:=first|omega|exact PairsOK.mk rfl|(simp only[lenW]<;>omega)) only[hk0,hkl,hdr,hdl,hln,hk3,Qaa,Qac,Qad,wW,wV,simprocAttr]
                refine⟨j+1,by omega,by omega,?_⟩
                rw[htk2,<-List.append_assoc,List.flatMap_append,List.length_append,hwe]
                refine⟨[(51,.blk 51 0),(52,.blk 52 0),(53,.blk 53 0),(54,.blk 54 0),(55,.blk 55 0),(60,.blk 60 1),(61,.blk 61 0)],rfl,RO.zero,?_,RT.cons (Rn.x2 rfl rfl) (RT.cons (Rn.x2 rfl rfl) (RT.cons (Rn.same (Qab _)) (RT.cons (Rn.x2 rfl rfl) (RT.cons (Rn.same hnT) (RT.cons (Rn.same rfl) (RT.cons (Rn.x2 rfl rfl) (RT.cons (Rn.x1 rfl rfl) (RT.cons (Rn.x2 rfl rfl) au27))))))))⟩
                exact RB.cells rfl rfl gg (RnL.same hnc) (RB.cells rfl rfl gg (RnL.same hnS) (RB.cells rfl rfl gg (RnL.same hnq) (RB.cells rfl rfl gg (RnL.cons (Rn.same (Qab _)) (RnL.cons (Rn.same rfl) (RnL.cons (Rn.same (Qab _)) (RnL.cons (Rn.x1 rfl rfl) RnL.nil)))) (RB.cells rfl rfl gg (RnL.same rfl) (RB.cells rfl rfl gg (RnL.same (SU.Qas (Qaf _) rfl)) (RB.cells rfl rfl gg (RnL.same (Qae _)) RB.nil))))))
              · have hwe := hed2i e hneg
                simp(disch:=first|omega|exact PairsOK.mk rfl|(simp only[lenW]<;>omega)) only[hlt2,hhd,hhk,hclt,QbG,Qby,htd2,ht2.symm,Qaa,Qac,Qad,wW,wV,simprocAttr]
                refine cp hR ?_
                simp(disch:=first|omega|exact PairsOK.mk rfl|(simp only[lenW]<;>omega)) only[hneg,hln,Qaa,Qac,Qad,wW,wV,simprocAttr]
                refine⟨j+1,by omega,by omega,?_⟩
                rw[htk2,<-List.append_assoc,List.flatMap_append,List.length_append,hwe]
                refine⟨[(51,.blk 51 0),(52,.blk 52 0),(53,.blk 53 0),(54,.blk 54 0),(55,.blk 55 0),(60,.blk 60 1),(61,.blk 61 0)],rfl,RO.zero,?_,RT.cons (Rn.x2 rfl rfl) (RT.cons (Rn.x2 rfl rfl) (RT.cons (Rn.same (Qab _)) (RT.cons (Rn.x2 rfl rfl) (RT.cons (Rn.same hnT) (RT.cons (Rn.same rfl) (RT.cons (Rn.x2 rfl rfl) (RT.cons (Rn.x1 rfl rfl) (RT.cons (Rn.x2 rfl rfl) au27))))))))⟩
                exact RB.cells rfl rfl gg (RnL.same hnc) (RB.cells rfl rfl gg (RnL.same hnS) (RB.cells rfl rfl gg (RnL.same hnq) (RB.cells rfl rfl gg (RnL.cons (Rn.same (Qab _)) (RnL.cons (Rn.same rfl) (RnL.cons (Rn.same (Qab _)) (RnL.cons (Rn.x1 rfl rfl) RnL.nil)))) (RB.cells rfl rfl gg (RnL.same rfl) (RB.cells rfl rfl gg (RnL.same (SU.Qas (Qaf _) rfl)) (RB.cells rfl rfl gg (RnL.same (Qae _)) RB.nil))))))
            · have e : j = L.length := by omega
              subst e
              have hall:(wE c i).take L.length=wE c i:=List.take_of_length_le (by omega)
              simp(disch:=first|omega|exact PairsOK.mk rfl|(simp only[lenW]<;>omega)) only[hlt2,Qaa,Qac,Qad,wW,wV,simprocAttr]
              refine⟨(),?_⟩
              rw[hwes,hall,List.length_append]
              refine⟨[(51,.blk 51 0),(52,.blk 52 0),(53,.blk 53 0),(54,.blk 54 0),(55,.blk 55 0),(60,.blk 60 0),(61,.blk 61 0)],rfl,RO.zero,?_,RT.cons (Rn.x2 rfl rfl) (RT.cons (Rn.x2 rfl rfl) (RT.cons (Rn.same (Qab _)) (RT.cons (Rn.x2 rfl rfl) (RT.cons (Rn.same hnT) (RT.cons (Rn.same rfl) (RT.cons (Rn.x2 rfl rfl) (RT.cons (Rn.x1 rfl rfl) (RT.cons (Rn.x2 rfl rfl) au27))))))))⟩
              exact RB.cells rfl rfl gg (RnL.same hnc) (RB.cells rfl rfl gg (RnL.same hnS) (RB.cells rfl rfl gg (RnL.same hnq) (RB.cells rfl rfl gg (RnL.cons (Rn.same (Qab _)) (RnL.cons (Rn.same rfl) (RnL.cons (Rn.same (Qab _)) (RnL.cons (Rn.x1 rfl rfl) RnL.nil)))) (RB.cells rfl rfl gg (RnL.same rfl) (RB.cells rfl rfl gg (RnL.same (Qaf _)) (RB.cells rfl rfl gg (RnL.same (Qae _)) RB.nil))))))
          rintro _ _
          simp(disch:=first|omega|exact PairsOK.mk rfl|(simp only[lenW]<;>omega)) only[Qaa,Qac,Qad,wW,wV,simprocAttr]
          refine⟨i+1,by omega,by omega,?_⟩
          refine⟨[(51,.blk 51 0),(52,.blk 52 0),(53,.blk 53 0),(54,.blk 54 0),(60,.blk 60 0),(61,.blk 61 0)],rfl,RO.zero,?_,RT.cons (Rn.x2 rfl rfl) (RT.cons (Rn.x2 rfl rfl) (RT.cons (Rn.same (Qab _)) (RT.cons (Rn.x2 rfl rfl) (RT.cons (Rn.same hnT) (RT.cons (Rn.same rfl) (RT.cons (Rn.x2 rfl rfl) (RT.cons (Rn.x1 rfl rfl) au27)))))))⟩
          exact RB.cells rfl rfl gg (RnL.same hnc) (RB.cells rfl rfl gg (RnL.same hnS) (RB.cells rfl rfl gg (RnL.same hnq) (RB.cells rfl rfl gg (RnL.cons (Rn.same (Qab _)) (RnL.cons (Rn.same rfl) (RnL.cons (Rn.same (Qab _)) (RnL.cons (Rn.x1 rfl rfl) RnL.nil)))) (RB.cells rfl rfl gg (RnL.same (Qaf _)) (RB.cells rfl rfl gg (RnL.same (Qae _)) RB.nil)))))
        | false =>
          rcases hon rfl with ho|⟨x,y,ho⟩
          · rw [ho]
            simp(disch:=first|omega|exact PairsOK.mk rfl|(simp only[lenW]<;>omega)) only[Option.isSome_none,hhk,hclt,QbG,Qaa,Qac,Qad,wW,wV,simprocAttr]
            refine⟨trivial,?_⟩
            refine cp hP ?_
            simp(disch:=first|omega|exact PairsOK.mk rfl|(simp only[lenW]<;>omega)) only[Qaa,Qac,Qad,wW,wV,simprocAttr]
            refine Qaj 600 (fun j:Nat=>[(3,.ptr 51 0 0),(4,.ptr 52 0 0),(5,sliN bd),(7,.ptr 53 0 0),(8,tuV T),(10,.int .i64 c.cs.length),(11,.ptr 54 0 0),(12,.sl 61 0 0 (badL c (i+1)).length 1),(13,.ptr 55 0 0),(62,.int .i64 T.length),(63,.int .i64 i),(101,sliN L),(102,.int .i64 L.length),(103,.int .i64 j)]) (fun j=>[(51,.cells 0 [evsV c.ev,its 99 c.cs,its 114 c.rs,exs c.xs,cos c.ks]),(52,.cells 0 [sliN q.al,.int .i64 ((T.length:Int)+1),sliN q.ms,egsN (wantE c T.length)]),(53,.cells 0 [sliN q.al,.int .i64 (T.length:Int),sliN q.ms,egsN q.es]),(54,.cells 0 [sliN q.al,.int .i64 ((T.length:Int)+1),sliN q.ms,.sl 60 0 0 ((wantE c i++(wE c i).take j).length) 3]),(55,.cells 0 [.int .i64 (i:Int)]),(60,.cells 0 ((wantE c i++(wE c i).take j).flatMap edC)),(61,.cells 0 (ints (nz (badL c (i+1)))))]) (fun j=>j<=L.length) (fun j=>L.length-j) 0 2 800
              (fun _:Unit=>[(3,.ptr 51 0 0),(4,.ptr 52 0 0),(5,sliN bd),(7,.ptr 53 0 0),(8,tuV T),(10,.int .i64 c.cs.length),(11,.ptr 54 0 0),(12,.sl 61 0 0 (badL c (i+1)).length 1),(13,.ptr 55 0 0),(62,.int .i64 T.length),(63,.int .i64 i)]) (fun _=>[(51,.cells 0 [evsV c.ev,its 99 c.cs,its 114 c.rs,exs c.xs,cos c.ks]),(52,.cells 0 [sliN q.al,.int .i64 ((T.length:Int)+1),sliN q.ms,egsN (wantE c T.length)]),(53,.cells 0 [sliN q.al,.int .i64 (T.length:Int),sliN q.ms,egsN q.es]),(54,.cells 0 [sliN q.al,.int .i64 ((T.length:Int)+1),sliN q.ms,.sl 60 0 0 ((wantE c (i+1)).length) 3]),(55,.cells 0 [.int .i64 (i:Int)]),(60,.cells 0 ((wantE c (i+1)).flatMap edC)),(61,.cells 0 (ints (nz (badL c (i+1)))))]) (fun _=>True) ?_ (Nat.zero_le _) ?_ ?_
            · rw [List.take_zero, List.append_nil, hbi]
              rw[if_neg (by simp),List.append_nil]
              refine⟨[(51,.blk 51 0),(52,.blk 52 0),(53,.blk 53 0),(54,.blk 54 0),(55,.blk 202 0),(60,.blk 60 0),(61,.blk 61 0)],rfl,RO.zero,?_,RT.cons (Rn.x2 rfl rfl) (RT.cons (Rn.x2 rfl rfl) (RT.cons (Rn.same (Qab _)) (RT.cons (Rn.x2 rfl rfl) (RT.cons (Rn.same hnT) (RT.cons (Rn.same rfl) (RT.cons (Rn.x2 rfl rfl) (RT.cons (Rn.x1 rfl rfl) (RT.cons (Rn.x2 rfl rfl) au27))))))))⟩
              exact RB.cells rfl rfl gg (RnL.same hnc) (RB.cells rfl rfl gg (RnL.same hnS) (RB.cells rfl rfl gg (RnL.same hnq) (RB.cells rfl rfl gg (RnL.cons (Rn.same (Qab _)) (RnL.cons (Rn.same rfl) (RnL.cons (Rn.same (Qab _)) (RnL.cons (Rn.x1 rfl rfl) RnL.nil)))) (RB.cells rfl rfl gg (RnL.same rfl) (RB.cells rfl rfl gg (RnL.same (Qaf _)) (RB.cells rfl rfl gg (RnL.same (Qae _)) RB.nil))))))
            · rintro j hj
              by_cases hlt2:j<L.length
              · obtain ⟨e, he⟩ := Qag hlt2
                have hR:=hrfi e
                have htk2:=hwEt j e he
                have hhd:=Qaz he
                rw[Qby]at hhd
                have hln:=Qbj (wantE c i++(wE c i).take j)
                rw[List.length_append]at hln
                have hl5:(wantE c i++(wE c i).take j).length<=5000:=by
                  rw[List.length_append,List.length_take];omega
                rw[List.length_append]at hl5
                by_cases hneg:rfI c t2 e<0
                · obtain ⟨to, hto⟩ := Option.isSome_iff_exists.1 (hwsi e (List.mem_of_getElem? he) hneg)
                  obtain⟨k,y,hk1,hk2,hk3⟩:=Qhd hto
                  have hwe:=hedi e hneg to hto
                  have hI2:=hIx i e
                  rw[hk1]at hI2
                  have hkl:k<q.es.length:=(List.getElem?_eq_some_iff.1 hk2).1
                  have hdr:=QaP hk2
                  have hdl:3<=((q.es.flatMap edC).drop (k*3)).length:=by rw[hdr];simp
                  have hk0:¬(k:Int)<0:=by omega
                  simp(disch:=first|omega|exact PairsOK.mk rfl|(simp only[lenW]<;>omega)) only[hlt2,hhd,hhk,hclt,QbG,Qby,htd2,ht2.symm,Qaa,Qac,Qad,wW,wV,simprocAttr]
                  refine cp hR ?_
                  simp(disch:=first|omega|exact PairsOK.mk rfl|(simp only[lenW]<;>omega)) only[hneg,Qaa,Qac,Qad,wW,wV,simprocAttr]
                  refine SU.chc (HSpec.lend (FrzL.cons (FrzTo.same _) (FrzL.cons (FrzTo.fn FrzL.nil (FrzL.cons (FrzTo.ptr (g:=0) (cs:=[.int .i64 (i:Int)]) gg (FrzL.same _)) (FrzL.cons (FrzTo.ptr (g:=0) (cs:=[.int .i64 (e:Int)]) gg (FrzL.same _)) FrzL.nil))) FrzL.nil)) hI2 rfl) ?_
                  simp(disch:=first|omega|exact PairsOK.mk rfl|(simp only[lenW]<;>omega)) only[hk0,hkl,hdr,hdl,hln,hk3,Qaa,Qac,Qad,wW,wV,simprocAttr]
                  refine⟨j+1,by omega,by omega,?_⟩
                  rw[htk2,<-List.append_assoc,List.flatMap_append,List.length_append,hwe]
                  refine⟨[(51,.blk 51 0),(52,.blk 52 0),(53,.blk 53 0),(54,.blk 54 0),(55,.blk 55 0),(60,.blk 60 1),(61,.blk 61 0)],rfl,RO.zero,?_,RT.cons (Rn.x2 rfl rfl) (RT.cons (Rn.x2 rfl rfl) (RT.cons (Rn.same (Qab _)) (RT.cons (Rn.x2 rfl rfl) (RT.cons (Rn.same hnT) (RT.cons (Rn.same rfl) (RT.cons (Rn.x2 rfl rfl) (RT.cons (Rn.x1 rfl rfl) (RT.cons (Rn.x2 rfl rfl) au27))))))))⟩
                  exact RB.cells rfl rfl gg (RnL.same hnc) (RB.cells rfl rfl gg (RnL.same hnS) (RB.cells rfl rfl gg (RnL.same hnq) (RB.cells rfl rfl gg (RnL.cons (Rn.same (Qab _)) (RnL.cons (Rn.same rfl) (RnL.cons (Rn.same (Qab _)) (RnL.cons (Rn.x1 rfl rfl) RnL.nil)))) (RB.cells rfl rfl gg (RnL.same rfl) (RB.cells rfl rfl gg (RnL.same (SU.Qas (Qaf _) rfl)) (RB.cells rfl rfl gg (RnL.same (Qae _)) RB.nil))))))
                · have hwe := hed2i e hneg
                  simp(disch:=first|omega|exact PairsOK.mk rfl|(simp only[lenW]<;>omega)) only[hlt2,hhd,hhk,hclt,QbG,Qby,htd2,ht2.symm,Qaa,Qac,Qad,wW,wV,simprocAttr]
                  refine cp hR ?_
                  simp(disch:=first|omega|exact PairsOK.mk rfl|(simp only[lenW]<;>omega)) only[hneg,hln,Qaa,Qac,Qad,wW,wV,simprocAttr]
                  refine⟨j+1,by omega,by omega,?_⟩
                  rw[htk2,<-List.append_assoc,List.flatMap_append,List.length_append,hwe]
                  refine⟨[(51,.blk 51 0),(52,.blk 52 0),(53,.blk 53 0),(54,.blk 54 0),(55,.blk 55 0),(60,.blk 60 1),(61,.blk 61 0)],rfl,RO.zero,?_,RT.cons (Rn.x2 rfl rfl) (RT.cons (Rn.x2 rfl rfl) (RT.cons (Rn.same (Qab _)) (RT.cons (Rn.x2 rfl rfl) (RT.cons (Rn.same hnT) (RT.cons (Rn.same rfl) (RT.cons (Rn.x2 rfl rfl) (RT.cons (Rn.x1 rfl rfl) (RT.cons (Rn.x2 rfl rfl) au27))))))))⟩
                  exact RB.cells rfl rfl gg (RnL.same hnc) (RB.cells rfl rfl gg (RnL.same hnS) (RB.cells rfl rfl gg (RnL.same hnq) (RB.cells rfl rfl gg (RnL.cons (Rn.same (Qab _)) (RnL.cons (Rn.same rfl) (RnL.cons (Rn.same (Qab _)) (RnL.cons (Rn.x1 rfl rfl) RnL.nil)))) (RB.cells rfl rfl gg (RnL.same rfl) (RB.cells rfl rfl gg (RnL.same (SU.Qas (Qaf _) rfl)) (RB.cells rfl rfl gg (RnL.same (Qae _)) RB.nil))))))
              · have e : j = L.length := by omega
                subst e
                have hall:(wE c i).take L.length=wE c i:=List.take_of_length_le (by omega)
                simp(disch:=first|omega|exact PairsOK.mk rfl|(simp only[lenW]<;>omega)) only[hlt2,Qaa,Qac,Qad,wW,wV,simprocAttr]
                refine⟨(),?_⟩
                rw[hwes,hall,List.length_append]
                refine⟨[(51,.blk 51 0),(52,.blk 52 0),(53,.blk 53 0),(54,.blk 54 0),(55,.blk 55 0),(60,.blk 60 0),(61,.blk 61 0)],rfl,RO.zero,?_,RT.cons (Rn.x2 rfl rfl) (RT.cons (Rn.x2 rfl rfl) (RT.cons (Rn.same (Qab _)) (RT.cons (Rn.x2 rfl rfl) (RT.cons (Rn.same hnT) (RT.cons (Rn.same rfl) (RT.cons (Rn.x2 rfl rfl) (RT.cons (Rn.x1 rfl rfl) (RT.cons (Rn.x2 rfl rfl) au27))))))))⟩
                exact RB.cells rfl rfl gg (RnL.same hnc) (RB.cells rfl rfl gg (RnL.same hnS) (RB.cells rfl rfl gg (RnL.same hnq) (RB.cells rfl rfl gg (RnL.cons (Rn.same (Qab _)) (RnL.cons (Rn.same rfl) (RnL.cons (Rn.same (Qab _)) (RnL.cons (Rn.x1 rfl rfl) RnL.nil)))) (RB.cells rfl rfl gg (RnL.same rfl) (RB.cells rfl rfl gg (RnL.same (Qaf _)) (RB.cells rfl rfl gg (RnL.same (Qae _)) RB.nil))))))
            rintro _ _
            simp(disch:=first|omega|exact PairsOK.mk rfl|(simp only[lenW]<;>omega)) only[Qaa,Qac,Qad,wW,wV,simprocAttr]
            refine⟨i+1,by omega,by omega,?_⟩
            refine⟨[(51,.blk 51 0),(52,.blk 52 0),(53,.blk 53 0),(54,.blk 54 0),(60,.blk 60 0),(61,.blk 61 0)],rfl,RO.zero,?_,RT.cons (Rn.x2 rfl rfl) (RT.cons (Rn.x2 rfl rfl) (RT.cons (Rn.same (Qab _)) (RT.cons (Rn.x2 rfl rfl) (RT.cons (Rn.same hnT) (RT.cons (Rn.same rfl) (RT.cons (Rn.x2 rfl rfl) (RT.cons (Rn.x1 rfl rfl) au27)))))))⟩
            exact RB.cells rfl rfl gg (RnL.same hnc) (RB.cells rfl rfl gg (RnL.same hnS) (RB.cells rfl rfl gg (RnL.same hnq) (RB.cells rfl rfl gg (RnL.cons (Rn.same (Qab _)) (RnL.cons (Rn.same rfl) (RnL.cons (Rn.same (Qab _)) (RnL.cons (Rn.x1 rfl rfl) RnL.nil)))) (RB.cells rfl rfl gg (RnL.same (Qaf _)) (RB.cells rfl rfl gg (RnL.same (Qae _)) RB.nil)))))
          · rw [ho]
            have hz:rsC (i,3,x,y)=[.int .i64 (i:Int),.int .i64 3,.int .i64 x,.int .i64 y]:=rfl
            simp(disch:=first|omega|exact PairsOK.mk rfl|(simp only[lenW]<;>omega)) only[hz,Option.isSome_some,hhk,hclt,QbG,Qaa,Qac,Qad,wW,wV,simprocAttr]
            refine⟨trivial,?_⟩
            refine cp hP ?_
            simp(disch:=first|omega|exact PairsOK.mk rfl|(simp only[lenW]<;>omega)) only[Qaa,Qac,Qad,wW,wV,simprocAttr]
            refine Qaj 600 (fun j:Nat=>[(3,.ptr 51 0 0),(4,.ptr 52 0 0),(5,sliN bd),(7,.ptr 53 0 0),(8,tuV T),(10,.int .i64 c.cs.length),(11,.ptr 54 0 0),(12,.sl 61 0 0 (badL c (i+1)).length 1),(13,.ptr 55 0 0),(62,.int .i64 T.length),(63,.int .i64 i),(101,sliN L),(102,.int .i64 L.length),(103,.int .i64 j)]) (fun j=>[(51,.cells 0 [evsV c.ev,its 99 c.cs,its 114 c.rs,exs c.xs,cos c.ks]),(52,.cells 0 [sliN q.al,.int .i64 ((T.length:Int)+1),sliN q.ms,egsN (wantE c T.length)]),(53,.cells 0 [sliN q.al,.int .i64 (T.length:Int),sliN q.ms,egsN q.es]),(54,.cells 0 [sliN q.al,.int .i64 ((T.length:Int)+1),sliN q.ms,.sl 60 0 0 ((wantE c i++(wE c i).take j).length) 3]),(55,.cells 0 [.int .i64 (i:Int)]),(60,.cells 0 ((wantE c i++(wE c i).take j).flatMap edC)),(61,.cells 0 (ints (nz (badL c (i+1)))))]) (fun j=>j<=L.length) (fun j=>L.length-j) 0 2 800
              (fun _:Unit=>[(3,.ptr 51 0 0),(4,.ptr 52 0 0),(5,sliN bd),(7,.ptr 53 0 0),(8,tuV T),(10,.int .i64 c.cs.length),(11,.ptr 54 0 0),(12,.sl 61 0 0 (badL c (i+1)).length 1),(13,.ptr 55 0 0),(62,.int .i64 T.length),(63,.int .i64 i)]) (fun _=>[(51,.cells 0 [evsV c.ev,its 99 c.cs,its 114 c.rs,exs c.xs,cos c.ks]),(52,.cells 0 [sliN q.al,.int .i64 ((T.length:Int)+1),sliN q.ms,egsN (wantE c T.length)]),(53,.cells 0 [sliN q.al,.int .i64 (T.length:Int),sliN q.ms,egsN q.es]),(54,.cells 0 [sliN q.al,.int .i64 ((T.length:Int)+1),sliN q.ms,.sl 60 0 0 ((wantE c (i+1)).length) 3]),(55,.cells 0 [.int .i64 (i:Int)]),(60,.cells 0 ((wantE c (i+1)).flatMap edC)),(61,.cells 0 (ints (nz (badL c (i+1)))))]) (fun _=>True) ?_ (Nat.zero_le _) ?_ ?_
            · rw [List.take_zero, List.append_nil, hbi]
              rw[if_neg (by simp),List.append_nil]
              refine⟨[(51,.blk 51 0),(52,.blk 52 0),(53,.blk 53 0),(54,.blk 54 0),(55,.blk 202 0),(60,.blk 60 0),(61,.blk 61 0)],rfl,RO.zero,?_,RT.cons (Rn.x2 rfl rfl) (RT.cons (Rn.x2 rfl rfl) (RT.cons (Rn.same (Qab _)) (RT.cons (Rn.x2 rfl rfl) (RT.cons (Rn.same hnT) (RT.cons (Rn.same rfl) (RT.cons (Rn.x2 rfl rfl) (RT.cons (Rn.x1 rfl rfl) (RT.cons (Rn.x2 rfl rfl) au27))))))))⟩
              exact RB.cells rfl rfl gg (RnL.same hnc) (RB.cells rfl rfl gg (RnL.same hnS) (RB.cells rfl rfl gg (RnL.same hnq) (RB.cells rfl rfl gg (RnL.cons (Rn.same (Qab _)) (RnL.cons (Rn.same rfl) (RnL.cons (Rn.same (Qab _)) (RnL.cons (Rn.x1 rfl rfl) RnL.nil)))) (RB.cells rfl rfl gg (RnL.same rfl) (RB.cells rfl rfl gg (RnL.same (Qaf _)) (RB.cells rfl rfl gg (RnL.same (Qae _)) RB.nil))))))
            · rintro j hj
              by_cases hlt2:j<L.length
              · obtain ⟨e, he⟩ := Qag hlt2
                have hR:=hrfi e
                have htk2:=hwEt j e he
                have hhd:=Qaz he
                rw[Qby]at hhd
                have hln:=Qbj (wantE c i++(wE c i).take j)
                rw[List.length_append]at hln
                have hl5:(wantE c i++(wE c i).take j).length<=5000:=by
                  rw[List.length_append,List.length_take];omega
                rw[List.length_append]at hl5
                by_cases hneg:rfI c t2 e<0
                · obtain ⟨to, hto⟩ := Option.isSome_iff_exists.1 (hwsi e (List.mem_of_getElem? he) hneg)
                  obtain⟨k,y,hk1,hk2,hk3⟩:=Qhd hto
                  have hwe:=hedi e hneg to hto
                  have hI2:=hIx i e
                  rw[hk1]at hI2
                  have hkl:k<q.es.length:=(List.getElem?_eq_some_iff.1 hk2).1
                  have hdr:=QaP hk2
                  have hdl:3<=((q.es.flatMap edC).drop (k*3)).length:=by rw[hdr];simp
                  have hk0:¬(k:Int)<0:=by omega
                  simp(disch:=first|omega|exact PairsOK.mk rfl|(simp only[lenW]<;>omega)) only[hlt2,hhd,hhk,hclt,QbG,Qby,htd2,ht2.symm,Qaa,Qac,Qad,wW,wV,simprocAttr]
                  refine cp hR ?_
                  simp(disch:=first|omega|exact PairsOK.mk rfl|(simp only[lenW]<;>omega)) only[hneg,Qaa,Qac,Qad,wW,wV,simprocAttr]
                  refine SU.chc (HSpec.lend (FrzL.cons (FrzTo.same _) (FrzL.cons (FrzTo.fn FrzL.nil (FrzL.cons (FrzTo.ptr (g:=0) (cs:=[.int .i64 (i:Int)]) gg (FrzL.same _)) (FrzL.cons (FrzTo.ptr (g:=0) (cs:=[.int .i64 (e:Int)]) gg (FrzL.same _)) FrzL.nil))) FrzL.nil)) hI2 rfl) ?_
                  simp(disch:=first|omega|exact PairsOK.mk rfl|(simp only[lenW]<;>omega)) only[hk0,hkl,hdr,hdl,hln,hk3,Qaa,Qac,Qad,wW,wV,simprocAttr]
                  refine⟨j+1,by omega,by omega,?_⟩
                  rw[htk2,<-List.append_assoc,List.flatMap_append,List.length_append,hwe]
                  refine⟨[(51,.blk 51 0),(52,.blk 52 0),(53,.blk 53 0),(54,.blk 54 0),(55,.blk 55 0),(60,.blk 60 1),(61,.blk 61 0)],rfl,RO.zero,?_,RT.cons (Rn.x2 rfl rfl) (RT.cons (Rn.x2 rfl rfl) (RT.cons (Rn.same (Qab _)) (RT.cons (Rn.x2 rfl rfl) (RT.cons (Rn.same hnT) (RT.cons (Rn.same rfl) (RT.cons (Rn.x2 rfl rfl) (RT.cons (Rn.x1 rfl rfl) (RT.cons (Rn.x2 rfl rfl) au27))))))))⟩
                  exact RB.cells rfl rfl gg (RnL.same hnc) (RB.cells rfl rfl gg (RnL.same hnS) (RB.cells rfl rfl gg (RnL.same hnq) (RB.cells rfl rfl gg (RnL.cons (Rn.same (Qab _)) (RnL.cons (Rn.same rfl) (RnL.cons (Rn.same (Qab _)) (RnL.cons (Rn.x1 rfl rfl) RnL.nil)))) (RB.cells rfl rfl gg (RnL.same rfl) (RB.cells rfl rfl gg (RnL.same (SU.Qas (Qaf _) rfl)) (RB.cells rfl rfl gg (RnL.same (Qae _)) RB.nil))))))
                · have hwe := hed2i e hneg
                  simp(disch:=first|omega|exact PairsOK.mk rfl|(simp only[lenW]<;>omega)) only[hlt2,hhd,hhk,hclt,QbG,Qby,htd2,ht2.symm,Qaa,Qac,Qad,wW,wV,simprocAttr]
                  refine cp hR ?_
                  simp(disch:=first|omega|exact PairsOK.mk rfl|(simp only[lenW]<;>omega)) only[hneg,hln,Qaa,Qac,Qad,wW,wV,simprocAttr]
                  refine⟨j+1,by omega,by omega,?_⟩
                  rw[htk2,<-List.append_assoc,List.flatMap_append,List.length_append,hwe]
                  refine⟨[(51,.blk 51 0),(52,.blk 52 0),(53,.blk 53 0),(54,.blk 54 0),(55,.blk 55 0),(60,.blk 60 1),(61,.blk 61 0)],rfl,RO.zero,?_,RT.cons (Rn.x2 rfl rfl) (RT.cons (Rn.x2 rfl rfl) (RT.cons (Rn.same (Qab _)) (RT.cons (Rn.x2 rfl rfl) (RT.cons (Rn.same hnT) (RT.cons (Rn.same rfl) (RT.cons (Rn.x2 rfl rfl) (RT.cons (Rn.x1 rfl rfl) (RT.cons (Rn.x2 rfl rfl) au27))))))))⟩
                  exact RB.cells rfl rfl gg (RnL.same hnc) (RB.cells rfl rfl gg (RnL.same hnS) (RB.cells rfl rfl gg (RnL.same hnq) (RB.cells rfl rfl gg (RnL.cons (Rn.same (Qab _)) (RnL.cons (Rn.same rfl) (RnL.cons (Rn.same (Qab _)) (RnL.cons (Rn.x1 rfl rfl) RnL.nil)))) (RB.cells rfl rfl gg (RnL.same rfl) (RB.cells rfl rfl gg (RnL.same (SU.Qas (Qaf _) rfl)) (RB.cells rfl rfl gg (RnL.same (Qae _)) RB.nil))))))
              · have e : j = L.length := by omega
                subst e
                have hall:(wE c i).take L.length=wE c i:=List.take_of_length_le (by omega)
                simp(disch:=first|omega|exact PairsOK.mk rfl|(simp only[lenW]<;>omega)) only[hlt2,Qaa,Qac,Qad,wW,wV,simprocAttr]
                refine⟨(),?_⟩
                rw[hwes,hall,List.length_append]
                refine⟨[(51,.blk 51 0),(52,.blk 52 0),(53,.blk 53 0),(54,.blk 54 0),(55,.blk 55 0),(60,.blk 60 0),(61,.blk 61 0)],rfl,RO.zero,?_,RT.cons (Rn.x2 rfl rfl) (RT.cons (Rn.x2 rfl rfl) (RT.cons (Rn.same (Qab _)) (RT.cons (Rn.x2 rfl rfl) (RT.cons (Rn.same hnT) (RT.cons (Rn.same rfl) (RT.cons (Rn.x2 rfl rfl) (RT.cons (Rn.x1 rfl rfl) (RT.cons (Rn.x2 rfl rfl) au27))))))))⟩
                exact RB.cells rfl rfl gg (RnL.same hnc) (RB.cells rfl rfl gg (RnL.same hnS) (RB.cells rfl rfl gg (RnL.same hnq) (RB.cells rfl rfl gg (RnL.cons (Rn.same (Qab _)) (RnL.cons (Rn.same rfl) (RnL.cons (Rn.same (Qab _)) (RnL.cons (Rn.x1 rfl rfl) RnL.nil)))) (RB.cells rfl rfl gg (RnL.same rfl) (RB.cells rfl rfl gg (RnL.same (Qaf _)) (RB.cells rfl rfl gg (RnL.same (Qae _)) RB.nil))))))
            rintro _ _
            simp(disch:=first|omega|exact PairsOK.mk rfl|(simp only[lenW]<;>omega)) only[Qaa,Qac,Qad,wW,wV,simprocAttr]
            refine⟨i+1,by omega,by omega,?_⟩
            refine⟨[(51,.blk 51 0),(52,.blk 52 0),(53,.blk 53 0),(54,.blk 54 0),(60,.blk 60 0),(61,.blk 61 0)],rfl,RO.zero,?_,RT.cons (Rn.x2 rfl rfl) (RT.cons (Rn.x2 rfl rfl) (RT.cons (Rn.same (Qab _)) (RT.cons (Rn.x2 rfl rfl) (RT.cons (Rn.same hnT) (RT.cons (Rn.same rfl) (RT.cons (Rn.x2 rfl rfl) (RT.cons (Rn.x1 rfl rfl) au27)))))))⟩
            exact RB.cells rfl rfl gg (RnL.same hnc) (RB.cells rfl rfl gg (RnL.same hnS) (RB.cells rfl rfl gg (RnL.same hnq) (RB.cells rfl rfl gg (RnL.cons (Rn.same (Qab _)) (RnL.cons (Rn.same rfl) (RnL.cons (Rn.same (Qab _)) (RnL.cons (Rn.x1 rfl rfl) RnL.nil)))) (RB.cells rfl rfl gg (RnL.same (Qaf _)) (RB.cells rfl rfl gg (RnL.same (Qae _)) RB.nil)))))
      · have e : i = T.length := by omega
        subst e
        simp(disch:=first|omega|exact PairsOK.mk rfl|(simp only[lenW]<;>omega)) only[hlt,Qaa,Qac,Qad,wW,wV,simprocAttr]
        refine⟨(),[(52,.blk 52 0),(53,.blk 53 0),(54,.blk 54 0),(61,.blk 61 0)],rfl,RO.zero,?_,RT.cons (Rn.x2 rfl rfl) (RT.cons (Rn.same (Qab _)) (RT.cons (Rn.x2 rfl rfl) (RT.cons (Rn.x2 rfl rfl) (RT.cons (Rn.x1 rfl rfl) RT.nil))))⟩
        exact RB.cells rfl rfl gg (RnL.same hnS) (RB.cells rfl rfl gg (RnL.same hnq) (RB.cells rfl rfl gg (RnL.cons (Rn.same (Qab _)) (RnL.cons (Rn.same rfl) (RnL.cons (Rn.same (Qab _)) (RnL.cons (Rn.fzm (b:=60) (g:=0) gg rfl rfl rfl (Qbj _) (RnL.same (Qaf _))) RnL.nil)))) (RB.cells rfl rfl gg (RnL.same (Qae _)) RB.nil)))
    rintro _ _
    have eq1:(⟨q.al,T.length+1,q.ms,wantE c T.length⟩:Aut)=⟨q.al,T.length+1,q.ms,wantE c T.length⟩:=rfl
    have hbl9:=hbl T.length
    have hbil9:(ints (nz (badL c T.length))).length=(badL c T.length).length:=by simp[ints]
    have hbd2:sliN bd= .fsl (ints (nz (badL c T.length))++[.int .i64 (T.length:Int)]) ((badL c T.length).length+1) 1:=by
      rw[hbd,sliN,List.length_append,QaI,QaB];rfl
    rw[<-hbd]at hQ2
    rw[hbd2]at hQ2⊢
    simp(disch:=first|omega|exact PairsOK.mk rfl|(simp only[lenW]<;>omega)) only[Qaa,Qac,Qad,wW,wV,simprocAttr]
    refine cp hQ ?_
    simp(disch:=first|omega|exact PairsOK.mk rfl|(simp only[lenW]<;>omega)) only[hbil9,Qaa,Qac,Qad,wW,wV,simprocAttr]
    refine SU.chc (HSpec.lend (FrzL.cons (FrzTo.same _) (FrzL.cons (FrzTo.sl (g:=1) (cs:=ints (nz (badL c T.length))++[.int .i64 (T.length:Int)]) gg (by rw[List.length_append,hbil9];simp) (by rw[List.drop_zero,List.take_of_length_le (by rw[List.length_append,hbil9];simp)];exact FrzL.same _)) FrzL.nil)) hQ2 rfl) ?_
    simp(disch:=first|omega|exact PairsOK.mk rfl|(simp only[lenW]<;>omega)) only[Qaa,Qac,Qad,wW,wV,simprocAttr]
    exact⟨.inr trivial,rfl⟩
  · have e4 : decide (p.xn <= 4) = false := by simp [h4]
    rw[e4]at hS'
    simp(disch:=first|omega|exact PairsOK.mk rfl|(simp only[lenW]<;>omega)) only[TW.s9,hlen,hone,htk,Qaa,Qac,Qad,wW,wV,simprocAttr]
    refine cp SK.known15 ?_
    simp(disch:=first|omega|exact PairsOK.mk rfl|(simp only[lenW]<;>omega)) only[hlen,htk,Qaa,Qac,Qad,wW,wV,simprocAttr]
    refine cp hS' ?_
    simp(disch:=first|omega|exact PairsOK.mk rfl|(simp only[lenW]<;>omega)) only[hlen,htk,Qaa,Qac,Qad,wW,wV,simprocAttr]
    refine cp SK.known15 ?_
    simp(disch:=first|omega|exact PairsOK.mk rfl|(simp only[lenW]<;>omega)) only[Qaa,Qac,Qad,wW,wV,simprocAttr]
    exact⟨.inr trivial,rfl⟩
theorem okp9:okFn Tryz.prog 9 TW.s9=true:=TW.ok9
theorem law9_in (d0:tyPln.D) (h0:tyPln.wf d0):
  W2 Tryz.prog ⟨TW.s9.n,0⟩ TW.s9.body (fun e B=>(e= .normal\/e= .ret)/\resV B.T B.h TW.s9.res=some [.bool true]) ⟨argT 0 [tyPln.val d0],.e⟩:=by
 obtain⟨p,hp,hl,e0⟩:=QrU h0
 rw[e0]
 exact law9 p hp hl
end Go.AM.SO
