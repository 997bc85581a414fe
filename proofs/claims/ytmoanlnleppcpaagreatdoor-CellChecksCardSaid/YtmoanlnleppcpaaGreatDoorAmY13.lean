/- A part of the proof of CellChecksCardSaid: lemmas on the way (AmTs, AmRs, AmGz, AmRt, AmRq, AmRqa). Conditions: none of ours. -/
import Derived.Shelf.Sort.Plain
import Derived.Shelf.Slices.In.SortNone
import Derived.Shelf.Slices.CompactI
import Derived.Test.YtmoanlnleppcpaaGreatDoorProg
import Derived.KernelRfl
import Derived.Test.YtmoanlnleppcpaaGreatDoorAmY12
set_option linter.unusedSectionVars false
set_option maxHeartbeats 32000000
set_option maxRecDepth 100000
set_option linter.unusedVariables false
set_option linter.unusedSimpArgs false
set_option linter.unusedSectionVars false
namespace Go.AM
open Go.Proofs Go.Shelf Go.Sort
variable {P:Program} {ρ:Ren}
theorem HSpec.rowI {f b γ : Nat} (hcall : Callable P f) (l l' : List Int) (hll : l'.length = l.length) (v : AV) (cv : Option Addr -> Nat -> Value)
    (h0:l=[]->∀a cap w,Calls P f #[.slice a 0 cap] w fun e w'=>e= .returned (cv a cap)/\w'=w)
    (hc:l≠[]->∀blk off cap w,Holds (Value.int .i64) w blk off l.toArray->blk<w.heap.size->l.length<=cap->Calls P f #[.slice (some ⟨blk,off,none⟩) l.length cap] w fun e w'=>
      e= .returned (cv (some ⟨blk,off,none⟩) cap)/\∃n os,w'=grow (putRow (Value.int .i64) (Sort.ahead w n) blk off l'.toArray) os)
    (hv0:l=[]->∀{ok:Okc} (c:Ctx ok) w a cap,VRel c w (.sl b γ 0 0 1) (.slice a 0 cap)->VRel c w v (cv a cap))
    (hv:∀{ok:Okc} (c:Ctx ok) w cb base cap C e fr,c.ρ b γ=some (.loc cb base)->l.length<=cap->w.heap[cb]?=some (.cells C e fr)->base+cap*1<=C.size->VRel c w v (cv (some ⟨cb,base,none⟩) cap))
    {h:Heap} (hb:h.get b=some (.cells γ (l.map (AV.int .i64)))) (hlim:b<1099511627775):
    HSpec P f [.sl b γ 0 l.length 1] h v (h.set b (.cells γ (l'.map (AV.int .i64)))):=by
  refine⟨hcall,?_⟩
  intro c w cargs H ha
  have hget:∀x j,(h.set b x).get j=if j=b then some x else h.get j:=fun x j=>Tr.Qav h (by simp_all [lim]) j x
  obtain⟨v1,hca,hv1⟩:∃v1,cargs.toList=[v1]/\VRel c w (.sl b γ 0 l.length 1) v1:=by
    simp only[VRels]at ha
    obtain⟨v1,vs,e,h1,rfl⟩:=ha
    exact⟨v1,e,h1⟩
  have hca':cargs= #[v1]:=Array.toList_inj.1 (by rw[hca])
  subst hca'
  have none:l=[]->∀p cap,v1= .slice p 0 cap->Calls P f #[v1] w fun e w'=>∃cv c',e= .returned cv/\Evo c w c' w'/\HRel c' (h.set b (.cells γ (l'.map (AV.int .i64)))) w'/\VRel c' w' v cv:=by
    rintro e p cap rfl
    refine(h0 e p cap w).mono ?_
    rintro e1 w' ⟨rfl,rfl⟩
    have e':l'=[]:=List.eq_nil_of_length_eq_zero (by rw[hll,e];rfl)
    refine⟨_,c,rfl,Evo.refl c _,QbI (fun j=>?_) H,hv0 e c _ p cap (by subst e;exact hv1)⟩
    rw[hget,e',<-e,<-hb]
    split
    · rename_i q;rw[q]
    · rfl
  simp only[VRel]at hv1
  rcases hv1 with⟨_,h1,_,rfl⟩|⟨cb,base,o,cap,C,e,fr,hp,rfl,hlc,hC,hcap⟩
  · have e : l = [] := List.eq_nil_of_length_eq_zero h1
    exact none e _ _ rfl
  by_cases hl0:l.length=0
  · have e : l = [] := List.eq_nil_of_length_eq_zero hl0
    exact none e _ _ (by rw[hl0])
  obtain⟨ho,hbd⟩:=hcap.resolve_left (by omega)
  have ho':base=o:=ho.symm
  subst ho'
  obtain⟨C',e',fr',hcO,hC',hfr,hbs,hpre⟩:=H.here hb hp
  rw[hC]at hC';cases hC'
  obtain⟨r,hr⟩:=QgV hpre
  have hblk:=QaE hC
  have hH:Holds (Value.int .i64) w cb base l.toArray:=by
    intro j hj
    have hj':j<l.length:=by simpa using hj
    have hjC:base+j<C.size:=by omega
    refine⟨?_,?_⟩
    · simp only [World.cell?, hC]
      have h2:C.toList[base+j]?=some ((l.map (Value.int .i64))[j]'(by simpa using hj')):=by
        rw[<-List.getElem?_drop,hr,List.getElem?_append_left (by simpa using hj'),List.getElem?_eq_getElem]
      grind
    · simp only [World.frozen?, hC]
      have:=hfr (base+j) hjC
      grind
  have hcon:=hc (fun e=>hl0 (by rw[e];rfl)) cb base cap w hH hblk hlc
  refine hcon.mono ?_
  rintro e1 w' ⟨rfl,n,os,rfl⟩
  have hheap:∀j,j<w.heap.size->(grow (putRow (Value.int .i64) (Sort.ahead w n) cb base l'.toArray) os).heap[j]?=if j=cb then some (.cells (putCells (Value.int .i64) base l'.toArray C) e fr)else w.heap[j]?:=fun j hj=>by
    rw[heap_grow_old _ _ (by grind [putRow,mapBlock,Sort.ahead])]
    show(w.heap.modify cb _)[j]?=_
    rw[Array.getElem?_modify]
    by_cases e2:cb=j
    · subst e2;rw[if_pos rfl,if_pos rfl,hC];rfl
    grind
  have hszw:w.heap.size<=(grow (putRow (Value.int .i64) (Sort.ahead w n) cb base l'.toArray) os).heap.size:=by
    grind [putRow,mapBlock,Sort.ahead]
  have hcb:=hheap cb hblk
  rw[if_pos rfl]at hcb
  have hl':l'.toArray.size=l.length:=by simpa using hll
  obtain ⟨E, H2⟩ := H.put (w' := grow (putRow (Value.int .i64) (Sort.ahead w n) cb base l'.toArray) os) (b := b) (cb := cb) (base := base) (x := .cells γ (l'.map (AV.int .i64))) (by grind [lim]) (fun y hy => H.later b _ hb y hy) (.inr hp) (.inr ⟨γ, base, ⟨_, hb, rfl, fun k => by simp⟩, hp⟩) rfl rfl rfl hszw (by omega)
    (fun j hj hne=>by grind) (fun C2 e2 fr2 h2=>by
      grind [putCells]) (fun E=> .inr ⟨cb,base,_,_,_,by show(if b=b/\γ=γ then _ else _)=_;grind,.inr rfl,hcb,by grind [putCells],by grind [putCells],by
        have hd:(putCells (Value.int .i64) base l'.toArray C).toList.drop base=l'.map (Value.int .i64)++C.toList.drop (base+l'.length):=by
          apply List.ext_getElem?
          grind [putCells]
        rw[hd]
        exact QeU⟩)
  exact⟨_,_,rfl,E,H2,hv _ _ _ _ _ _ _ _ (by show(if b=b/\γ=γ then _ else _)=_;grind) hlc hcb (by grind [putCells])⟩
theorem HSpec.sortI {f b γ:Nat} (L:Lays.n189 P ρ) (hf:ρ.f 189=f) (hcall:Callable P f) (l:List Int) (hl:l.length<4611686018427387904) {h:Heap} (hb:h.get b=some (.cells γ (l.map (AV.int .i64)))) (hlim:b<1099511627775):
  HSpec P f [.sl b γ 0 l.length 1] h (.tup []) (h.set b (.cells γ ((l.mergeSort fun x y=>decide (x<=y)).map (AV.int .i64)))):=by
 subst hf
 refine HSpec.rowI hcall l _ (by simp) _ (fun _ _=> .tuple #[]) (fun _ a cap w=>Any.slices_Sort_int_none L a cap w) (fun _ blk off cap w hH hblk _=>Any.slices_Sort_int L blk off cap l w hH hblk hl) (fun _ _ c w a cap _=>by simp[VRel,VRels]) (fun c w cb base cap C e fr _ _ _ _=>by simp[VRel,VRels]) hb hlim
theorem HSpec.compactI {f b γ:Nat} (L:Lays2.n20 P ρ) (hf:ρ.f 20=f) (hcall:Callable P f) (l:List Int) (hl:l.length<=9223372036854775807) {h:Heap} (hb:h.get b=some (.cells γ (l.map (AV.int .i64)))) (hlim:b<1099511627775) (hcl:(Lib.compact l).length<=l.length):
    HSpec P f [.sl b γ 0 l.length 1] h (.sl b γ 0 (Lib.compact l).length 1) (h.set b (.cells γ ((Lib.compact l++List.replicate (l.length-(Lib.compact l).length) 0).map (AV.int .i64)))):=by
  subst hf
  refine HSpec.rowI hcall l _ (by simp;omega) _ (fun a cap=> .slice a (Lib.compact l).length cap) (fun e a cap w=>by
    subst e;exact Any.slices_Compact_int_empty L a cap w) (fun _ blk off cap w hH hblk hlc=>(Any.slices_Compact_int L blk off cap l w hH hl hlc).mono fun e w' h=>⟨h.1,?_⟩) (fun e _ c w a cap h=>by subst e;exact h) (fun c w cb base cap C e fr h1 h2 h3 h4=>?_) hb hlim
  · obtain ⟨_, q, hq⟩ := h
    refine⟨q, #[],?_⟩
    rw[hq,grow_empty]
  · simp only [VRel]
    exact .inr ⟨cb,base,base,cap,C,e,fr,h1,rfl,by omega,h3,.inr ⟨rfl,h4⟩⟩
end Go.AM
namespace Go.Proofs
open Go.Shelf
def Tryz.Qk8:Go.Shelf.Ren:=⟨fun|189=>183|125=>164|257=>223|128=>217|129=>218|294=>251|295=>252|296=>253|297=>254|298=>255|299=>256|216=>197|300=>257|301=>258|328=>271|329=>238|330=>239|331=>272|332=>273|215=>227|343=>279|n=>n,fun|28=>30|3=>3|46=>253|0=>0|51=>300|53=>302|4=>4|183=>294|182=>293|131=>188|5=>5|9=>9|218=>315|222=>319|228=>336|229=>278|n=>n,fun|n=>n⟩
theorem Tryz.sortI:Go.Proofs.Lays.n189 Tryz.prog Tryz.Qk8:={
 mixed:=by kernel_rfl
 f125:=Tryz.func164.trans (congrArg some (by kernel_rfl))
 f128:=Tryz.func217.trans (congrArg some (by kernel_rfl))
 f129:=Tryz.func218.trans (congrArg some (by kernel_rfl))
 f189:=Tryz.func183.trans (congrArg some (by kernel_rfl))
 f215:=Tryz.func227.trans (congrArg some (by kernel_rfl))
 f216:=Tryz.func197.trans (congrArg some (by kernel_rfl))
 f257:=Tryz.func223.trans (congrArg some (by kernel_rfl))
 f294:=Tryz.func251.trans (congrArg some (by kernel_rfl))
 f295:=Tryz.func252.trans (congrArg some (by kernel_rfl))
 f296:=Tryz.func253.trans (congrArg some (by kernel_rfl))
 f297:=Tryz.func254.trans (congrArg some (by kernel_rfl))
 f298:=Tryz.func255.trans (congrArg some (by kernel_rfl))
 f299:=Tryz.func256.trans (congrArg some (by kernel_rfl))
 f300:=Tryz.func257.trans (congrArg some (by kernel_rfl))
 f301:=Tryz.func258.trans (congrArg some (by kernel_rfl))
 f328:=Tryz.func271.trans (congrArg some (by kernel_rfl))
 f329:=Tryz.func238.trans (congrArg some (by kernel_rfl))
 f330:=Tryz.func239.trans (congrArg some (by kernel_rfl))
 f331:=Tryz.func272.trans (congrArg some (by kernel_rfl))
 f332:=Tryz.func273.trans (congrArg some (by kernel_rfl))
 f343:=Tryz.func279.trans (congrArg some (by kernel_rfl))
 t0:=Tryz.underlying0
 a0:=Tryz.isAgg0
 z0:=Tryz.sizeOf0
 v0:=Tryz.zeroValue0
 t3:=Tryz.underlying3
 a3:=Tryz.isAgg3
 z3:=Tryz.sizeOf3
 v3:=Tryz.zeroValue3
 t4:=Tryz.underlying4
 a4:=Tryz.isAgg4
 z4:=Tryz.sizeOf4
 v4:=Tryz.zeroValue4
 t5:=Tryz.underlying5
 a5:=Tryz.isAgg5
 z5:=Tryz.sizeOf5
 v5:=Tryz.zeroValue5
 t9:=Tryz.underlying9
 a9:=Tryz.isAgg9
 z9:=Tryz.sizeOf9
 v9:=Tryz.zeroValue9
 t28:=Tryz.underlying30
 a28:=Tryz.isAgg30
 z28:=Tryz.sizeOf30
 v28:=Tryz.zeroValue30
 t46:=Tryz.underlying253
 a46:=Tryz.isAgg253
 z46:=Tryz.sizeOf253
 v46:=Tryz.zeroValue253
 t51:=Tryz.underlying300
 a51:=Tryz.isAgg300
 z51:=Tryz.sizeOf300
 v51:=Tryz.zeroValue300
 t53:=Tryz.underlying302
 a53:=Tryz.isAgg302
 z53:=Tryz.sizeOf302
 v53:=Tryz.zeroValue302
 t131:=Tryz.underlying188
 a131:=Tryz.isAgg188
 z131:=Tryz.sizeOf188
 v131:=Tryz.zeroValue188
 t182:=Tryz.underlying293
 a182:=Tryz.isAgg293
 z182:=Tryz.sizeOf293
 v182:=Tryz.zeroValue293
 t183:=Tryz.underlying294
 a183:=Tryz.isAgg294
 z183:=Tryz.sizeOf294
 v183:=Tryz.zeroValue294
 t218:=Tryz.underlying315
 a218:=Tryz.isAgg315
 z218:=Tryz.sizeOf315
 v218:=Tryz.zeroValue315
 t222:=Tryz.underlying319
 a222:=Tryz.isAgg319
 z222:=Tryz.sizeOf319
 v222:=Tryz.zeroValue319
 t228:=Tryz.underlying336
 a228:=Tryz.isAgg336
 z228:=Tryz.sizeOf336
 v228:=Tryz.zeroValue336
 t229:=Tryz.underlying278
 a229:=Tryz.isAgg278
 z229:=Tryz.sizeOf278
 v229:=Tryz.zeroValue278}
def Tryz.Qik:Go.Shelf.Ren:=⟨fun|20=>184|n=>n,fun|22=>30|3=>3|4=>4|0=>0|n=>n,fun|n=>n⟩
theorem Tryz.compactI:Go.Proofs.Lays2.n20 Tryz.prog Tryz.Qik:={
 mixed:=by kernel_rfl
 f20:=Tryz.func184.trans (congrArg some (by kernel_rfl))
 t0:=Tryz.underlying0
 a0:=Tryz.isAgg0
 z0:=Tryz.sizeOf0
 v0:=Tryz.zeroValue0
 t3:=Tryz.underlying3
 a3:=Tryz.isAgg3
 z3:=Tryz.sizeOf3
 v3:=Tryz.zeroValue3
 t4:=Tryz.underlying4
 a4:=Tryz.isAgg4
 z4:=Tryz.sizeOf4
 v4:=Tryz.zeroValue4
 t22:=Tryz.underlying30
 a22:=Tryz.isAgg30
 z22:=Tryz.sizeOf30
 v22:=Tryz.zeroValue30
 i3:=by kernel_rfl}
end Go.Proofs
namespace Go.AM.SO
open Go.Proofs Go.AM.SD Go.AM.SE
theorem Qk9 {d:Array Int} (hs:∀i j,i<=j->j<d.size->d[i]!<=d[j]!):∀m,m<=d.size->(∀x,x∈Lib.compactUpTo d m↔∃j,j<m/\(d[j]!)=x)/\(Lib.compactUpTo d m).Pairwise (· < ·)
 |0,_=>⟨fun x=>by simp[Lib.compactUpTo],by simp[Lib.compactUpTo]⟩
 | m + 1, h => by
  obtain⟨h1,h2⟩:=Qk9 hs m (by omega)
  rw[Lib.compactUpTo_succ]
  have hk:Lib.keeps d m=decide (m=0\/d[m]!≠d[m-1]!):=rfl
  by_cases k:m=0\/d[m]!≠d[m-1]!
  ·rw [hk, decide_eq_true k, if_pos rfl]
   refine⟨fun x=>?_,?_⟩
   ·rw [List.mem_append, h1, List.mem_singleton]
    constructor
    ·rintro (⟨j, hj, e⟩ | e)
     ·exact⟨j,by omega,e⟩
     ·exact⟨m,by omega,e.symm⟩
    ·rintro ⟨j, hj, e⟩
     by_cases e2:j=m
     ·subst e2;exact .inr e.symm
     ·exact .inl ⟨j,by omega,e⟩
   ·rw [List.pairwise_append]
    refine⟨h2,by simp,fun x hx y hy=>?_⟩
    rw[List.mem_singleton]at hy;subst hy
    obtain⟨j,hj,rfl⟩:=(h1 x).1 hx
    have k':=k.resolve_left (by omega)
    have a1:=hs j (m-1) (by omega) (by omega)
    have a2:=hs (m-1) m (by omega) (by omega)
    omega
  ·rw [hk, decide_eq_false k, if_neg (by decide), List.append_nil]
   refine⟨fun x=>?_,h2⟩
   rw[h1]
   constructor
   ·rintro ⟨j, hj, e⟩
    exact⟨j,by omega,e⟩
   ·rintro ⟨j, hj, e⟩
    by_cases e2:j=m
    ·subst e2
     exact⟨j-1,by omega,by omega⟩
    ·exact⟨j,by omega,e⟩
theorem QjY {zs:List Int} (h:zs.Pairwise (· <= ·)):(∀x,x∈Lib.compact zs↔x∈zs)/\(Lib.compact zs).Pairwise (· < ·):=by
  rw[List.pairwise_iff_getElem]at h
  have:=Qk9 (d:=zs.toArray) (fun i j hij hj=>by
    have hj':j<zs.length:=by simpa using hj
    by_cases e:i=j
    · subst e;exact Int.le_refl _
    · have := h i j (by omega) hj' (by omega)
      simpa[getElem!_pos,hj',show i<zs.length by omega]using this) zs.length (by simp)
  refine⟨fun x=>?_,this.2⟩
  unfold Lib.compact
  rw[this.1,List.mem_iff_getElem]
  constructor
  · rintro ⟨j, hj, e⟩
    exact⟨j,hj,by simpa[getElem!_pos,hj]using e⟩
  · rintro ⟨j, hj, e⟩
    exact⟨j,hj,by simpa[getElem!_pos,hj]using e⟩
theorem Qmn {α:Type} {R:α->α->Prop} (hi:∀a,¬R a a) (ha:∀a b,R a b->R b a->False) {X Y:List α} (hX:X.Pairwise R) (hY:Y.Pairwise R) (h:∀x,x∈X↔x∈Y):X=Y:=by
 refine List.Perm.eq_of_pairwise (le:=R) (fun x y _ _ h1 h2=>(ha x y h1 h2).elim) hX hY ?_
 have nd:∀{Z:List α},Z.Pairwise R->Z.Nodup:=fun hZ=>by
  rw[List.nodup_iff_pairwise_ne]
  refine hZ.imp ?_
  intro a b h e
  subst e
  exact hi _ h
 exact(List.perm_ext_iff_of_nodup (nd hX) (nd hY)).2 h
theorem QjZ {A B:List Nat} (hA:A.Pairwise (· < ·)) (hB:B.Pairwise (· < ·)):Lib.compact ((nz A++nz B).mergeSort fun x y=>decide (x<=y))=nz (mrg (fun a b=>a||b) A B):=by
 have hs:((nz A++nz B).mergeSort fun x y=>decide (x<=y)).Pairwise (· <= ·):=by
  refine(List.pairwise_mergeSort (le:=fun x y:Int=>decide (x<=y)) (fun a b c h1 h2=>?_) (fun a b=>?_) _).imp (fun h=>by simpa using h)
  ·simp only[decide_eq_true_eq]at*;omega
  ·simp only[Bool.or_eq_true,decide_eq_true_eq];omega
 obtain⟨h1,h2⟩:=QjY hs
 refine Qmn (R:=(· < ·)) (fun a h=>by omega) (fun a b h1 h2=>by omega) h2 (List.pairwise_map.2 ((Qbr hA hB).imp fun h=>by omega)) fun x=>?_
 rw[h1,List.mem_mergeSort,List.mem_append]
 simp only[nz,List.mem_map]
 constructor
 ·rintro (⟨a, ha, e⟩ | ⟨a, ha, e⟩)
  ·exact⟨a,(QaY hA hB).2 ⟨by simp[ha],.inl ha⟩,e⟩
  ·exact⟨a,(QaY hA hB).2 ⟨by simp[ha],.inr ha⟩,e⟩
 ·rintro ⟨a, ha, e⟩
  rcases((QaY hA hB).1 ha).2 with h|h
  ·exact .inl ⟨a,h,e⟩
  ·exact .inr ⟨a,h,e⟩
theorem call183:Callable Tryz.prog 183:=⟨_,Tryz.func183,by kernel_rfl,by kernel_rfl⟩
theorem call184:Callable Tryz.prog 184:=⟨_,Tryz.func184,by kernel_rfl,by kernel_rfl⟩
theorem sort183 (l l':List Int) (m:Nat) (hm:l.length=m) (hl:m<=1000000) (hs:(l.mergeSort fun x y=>decide (x<=y))=l') {h:Heap} {b γ:Nat} (hb:h.get b=some (.cells γ (ints l))) (hlim:b<1099511627775):
  HSpec Tryz.prog 183 [.sl b γ 0 m 1] h (.tup []) (h.set b (.cells γ (ints l'))):=by
 subst hm;subst hs
 exact HSpec.sortI (f:=183) Tryz.sortI rfl call183 l (by omega) hb hlim
theorem compact184 (l l':List Int) (m:Nat) (hm:l.length=m) (hl:m<=1000000) (hs:Lib.compact l=l') (hle:l'.length<=m) {h:Heap} {b γ:Nat} (hb:h.get b=some (.cells γ (ints l))) (hlim:b<1099511627775):
  HSpec Tryz.prog 184 [.sl b γ 0 m 1] h (.sl b γ 0 l'.length 1) (h.set b (.cells γ (ints (l'++List.replicate (m-l'.length) 0)))):=by
 subst hm;subst hs
 exact HSpec.compactI (f:=184) Tryz.compactI rfl call184 l (by omega) hb hlim hle
theorem Qmo {k:Bool->Bool->Bool} {A B:List Nat}:(mrg k A B).length<=A.length+B.length:=by
 fun_induction mrg k A B<;>simp only[List.length_append,List.length_cons,List.length_nil,apply_ite List.length]at* <;>(repeat' split)<;>omega
theorem union90 (A B:List Nat) (hA:A.Pairwise (· < ·)) (hB:B.Pairwise (· < ·)) (ha:A.length<=1000) (hb:B.length<=1000):PSpec Tryz.prog 90 [sliN A,sliN B] (sliN (mrg (fun a b=>a||b) A B)):=by
 refine PSpec.of_rn 64 TU.ok90 rfl (by simp only[noRefs,noRef,Qaa];rfl) (Qaf _) ?_
 have hcl:=clone56 A (by omega)
 have hU:=QjZ hA hB
 have hone:(ints (nz B)).all AV.one=true:=by simp[ints,AV.one]
 have hl1:(ints (nz A)).length=A.length:=by simp[ints]
 have hl2:(ints (nz B)).length=B.length:=by simp[ints]
 have hap:ints (nz A)++ints (nz B)=ints (nz A++nz B):=by simp[ints]
 have hml:=@Qmo (fun a b=>a||b) A B
 simp(disch:=first|omega|exact PairsOK.mk rfl|(simp only[lenW]<;>omega)) only[TU.s90,wW,wV,simprocAttr]
 refine ch (HSpec.of_O (b:=83) (by(try simp only[noRefs,Qaa,noRef,noRefs,Bool.and_self,Bool.and_true])<;>rfl) hcl (by repeat (first|exact Fresh.e|exact Fresh.le (by assumption) (by omega)|refine Fresh.set ?_ (by omega) (by omega))) rfl) ?_
 simp(disch:=first|omega|exact PairsOK.mk rfl|(simp only[lenW]<;>omega)) only[hone,hl1,hl2,hap,wW,wV,simprocAttr]
 refine ch (sort183 (nz A++nz B) _ _ (by simp) (by omega) rfl gg (by omega)) ?_
 simp(disch:=first|omega|exact PairsOK.mk rfl|(simp only[lenW]<;>omega)) only[wW,wV,simprocAttr]
 refine ch (compact184 _ _ _ (by simp) (by omega) hU (by simpa using hml) gg (by omega)) ?_
 simp(disch:=first|omega|exact PairsOK.mk rfl|(simp only[lenW]<;>omega)) only[wW,wV,simprocAttr]
 refine⟨.inr trivial,_,rfl,?_⟩
 have e:(ints (nz (mrg (fun a b=>a||b) A B)++List.replicate (A.length+B.length-(mrg (fun a b=>a||b) A B).length) 0)).take ((mrg (fun a b=>a||b) A B).length*1)=ints (nz (mrg (fun a b=>a||b) A B)):=by
  unfold ints
  rw[List.map_append,List.take_append_of_le_length (by simp),List.take_of_length_le (by simp)]
 refine Rn.frz (b:=83) (g:=1) (ds:=ints (nz (mrg (fun a b=>a||b) A B)++List.replicate (A.length+B.length-(mrg (fun a b=>a||b) A B).length) 0)) gg (Nat.zero_le _) (fun b' g' _ e=>by simp[π0]at e) (by simp[ints]) ?_
 rw[List.drop_zero,e]
 exact RnL.same (Qaa _)
end Go.AM.SO
namespace Go.AM.TS
open Go.Proofs
set_option maxHeartbeats 4000000
noncomputable section
def cf:YA.Cf:={most:= .pure,always:=[48,52,75,76,115,120].map fun k=>(k,.heap),value:= .pure}
def s19:SFn:=by
 refine(?f:YA.Yt Tryz.prog cf 19 [[0,4],[1,18,19,17,20,21],[22],[5,23,24,25],[23,26,27,28,29,30],[31],[5,6,32,33],[32,34,35,36,37,38,39,40,41,42,43,44,45,46,47,48,49,50,51,52,53,54],[55,56,57],[],[61,62,63,64],[8,66,67,68,65,69,70],[72,73,74,75,76,77,71,78,79,80,81,11,12,14],[13],[82,83,84,85,86],[9,82,87,88,89,90,91,92,93],[10,15,94,95,96],[3,4,5,58,59,60,97,98,99],[2,6,7,16,100,101,102,103,104,105,106,107,108],[7,97,109],[4,5,58,59,60,110,111,112],[6,113,114,115,116,117]] [(14,[(6,19)]),(0,[(0,4)])]) ?s ?h
 case h=>exact YA.rr
 exact fun s _=>s
theorem ok19:okFn Tryz.prog 19 s19=true:=by kernel_rfl
end
end Go.AM.TS
namespace Go.AM.SO
open Go.Proofs Go.AM.SD Go.AM.SE
theorem conds27X (c:CelN) (h:CelOk c) (h0:celErr c≠0):PSpec Tryz.prog 27 [celZ c] (.tup [.agg [.nilsl,.nilsl,.nilsl],.int .i64 (celErr c)]):=by
 have hnr:=QaB c
 have hC:=check21X c h
 refine PSpec.Qaj 64 TP.ok27 rfl (QaW c) rfl ?_
 generalize celErr c=e at*
 simp(disch:=first|omega|exact PairsOK.mk rfl|(simp only[lenW]<;>omega)) only[TP.s27,wW,wV,simprocAttr]
 refine cp hC ?_
 simp(disch:=first|omega|exact PairsOK.mk rfl|(simp only[lenW]<;>omega)) only[h0,wW,wV,simprocAttr]
 exact⟨.inr trivial,_,rfl,rfl⟩
theorem complete19X (c:CelN) (h:CelOk c) (h0:celErr c≠0):PSpec Tryz.prog 19 [celZ c] (.tup [auN,.nilsl,.int .i64 (celErr c)]):=by
 have hnr:=QaB c
 have hC:=open70X c h h0
 refine PSpec.Qaj 64 TS.ok19 rfl (QaW c) rfl ?_
 generalize celErr c=e at*
 simp(disch:=first|omega|exact PairsOK.mk rfl|(simp only[lenW]<;>omega)) only[TS.s19,wW,wV,simprocAttr]
 refine cp hC ?_
 simp(disch:=first|omega|exact PairsOK.mk rfl|(simp only[lenW]<;>omega)) only[h0,wW,wV,simprocAttr]
 exact⟨.inr trivial,_,rfl,rfl⟩
theorem touched35X (c:CelN) (n:Int) (h:CelOk c) (h0:celErr c≠0):PSpec Tryz.prog 35 [celZ c,.int .i64 n] (.tup [.nilsl,.int .i64 (celErr c)]):=by
 have hnr:=QaB c
 have hC:=check21X c h
 refine PSpec.Qaj 64 SO.ok35 rfl (by have:=QaW c;simp only[noRefs,noRef]at*;simpa using this) rfl ?_
 generalize celErr c=e at*
 simp(disch:=first|omega|exact PairsOK.mk rfl|(simp only[lenW]<;>omega)) only[SO.s35,wW,wV,simprocAttr]
 refine cp hC ?_
 simp(disch:=first|omega|exact PairsOK.mk rfl|(simp only[lenW]<;>omega)) only[h0,wW,wV,simprocAttr]
 exact⟨.inr trivial,_,rfl,rfl⟩
theorem select57X (c:CelN) (h:CelOk c) (h0:celErr c≠0):PSpec Tryz.prog 57 [celZ c,.agg [.nilsl,.nilsl,.nilsl,.nilsl]] (.tup [.agg [.nilsl,.nilsl,.nilsl,.nilsl,.nilsl],.int .i64 (celErr c)]):=by
 have hnr:=QaB c
 have hC:=check21X c h
 refine PSpec.Qaj 64 TT.ok57 rfl (by have:=QaW c;simp only[noRefs,noRef]at*;simpa using this) rfl ?_
 generalize celErr c=e at*
 simp(disch:=first|omega|exact PairsOK.mk rfl|(simp only[lenW]<;>omega)) only[TT.s57,wW,wV,simprocAttr]
 refine cp hC ?_
 simp(disch:=first|omega|exact PairsOK.mk rfl|(simp only[lenW]<;>omega)) only[h0,wW,wV,simprocAttr]
 exact⟨.inr trivial,_,rfl,rfl⟩
theorem conds30X (c:CelN) (hc3:c.cs.length<=1000):PSpec Tryz.prog 30 [celZ c] (cdZ (szZ c) c.xs c.ks):=by
  have hnr:=QaB c
  refine PSpec.of_rn 64 TP.ok30 rfl (QaW c) (by rw[noRef];exact Qbu) ?_
  have hci:=QcC c.cs
  have hsz:(szZ c).length=c.cs.length:=by simp[szZ]
  simp(disch:=first|omega|exact PairsOK.mk rfl|(simp only[lenW]<;>omega)) only[TP.s30,wW,wV,simprocAttr]
  refine QaF 100 (fun i:Nat=>[(2,.ptr 51 0 0),(3,.ptr 52 0 0),(12,itsV c.cs),(13,.int .i64 c.cs.length),(14,.int .i64 i)]) (fun i=>[(51,.cells 0 [.nilsl,.nilsl,.nilsl]),(52,.cells 0 [.sl 76 0 0 ((szZ c).take i).length 1,exsZ c.xs,cosZ c.ks]),(76,.cells 0 (ints ((szZ c).take i)))]) (fun i=>i<=c.cs.length) (fun i=>c.cs.length-i) 0 0 160
    (fun _:Unit=>[(2,.ptr 51 0 0),(3,.ptr 52 0 0)]) (fun _=>[(51,.cells 0 [.nilsl,.nilsl,.nilsl]),(52,.cells 0 [sli (szZ c),exsZ c.xs,cosZ c.ks])]) (fun _=>True) ⟨[(51,.blk 65 0),(52,.blk 71 0),(76,.nil)],rfl,au0,?_,au11⟩ (Nat.zero_le _) ?_ ?_
  · exact RB.cells rfl rfl gg (RnL.same rfl) (RB.cells rfl rfl gg (RnL.cons (Rn.x4 rfl rfl) (RnL.cons (Rn.same (Qa9 _)) (RnL.cons (Rn.same (QbM _)) RnL.nil))) (RB.newnil rfl rfl RB.nil))
  · rintro i hi
    by_cases hlt:i<c.cs.length
    · obtain ⟨x, hx⟩ := Qap hlt
      have hdr:=QbQ hx
      have hdl:5<=((c.cs.flatMap itV).drop (i*5)).length:=by rw[hdr];simp
      have hsx:(szZ c)[i]?=some x.2.n:=by unfold szZ;rw[List.getElem?_map,hx];rfl
      have hsuc:=take_succ' hsx
      have htl:((szZ c).take i).length=i:=by rw[List.length_take,hsz];omega
      simp(disch:=first|omega|exact PairsOK.mk rfl|(simp only[lenW]<;>omega)) only[hlt,hdr,hdl,htl,wW,wV,simprocAttr]
      refine⟨i+1,by omega,by omega,?_⟩
      rw[hsuc,List.length_append,QaM,htl]
      refine⟨[(51,.blk 51 0),(52,.blk 52 0),(76,.blk 76 1)],rfl,au0,?_,au11⟩
      exact RB.cells rfl rfl gg (RnL.same rfl) (RB.cells rfl rfl gg (RnL.cons (Rn.x1 rfl rfl) (RnL.cons (Rn.same (Qa9 _)) (RnL.cons (Rn.same (QbM _)) RnL.nil))) (RB.cells rfl rfl gg (RnL.same (SU.QbL (Qaa _) rfl)) RB.nil))
    · have e : i = c.cs.length := by omega
      subst e
      have hta:(szZ c).take c.cs.length=szZ c:=by rw[<-hsz,List.take_length]
      simp(disch:=first|omega|exact PairsOK.mk rfl|(simp only[lenW]<;>omega)) only[hlt,hta,wW,wV,simprocAttr]
      refine⟨(),?_⟩
      refine⟨[(51,.blk 51 0),(52,.blk 52 0)],rfl,au0,?_,au11⟩
      exact RB.cells rfl rfl gg (RnL.same rfl) (RB.cells rfl rfl gg (RnL.cons (Rn.fzm rfl rfl rfl rfl (by simp[ints]) (RnL.same (Qaa _))) (RnL.cons (Rn.same (Qa9 _)) (RnL.cons (Rn.same (QbM _)) RnL.nil))) RB.nil)
  rintro _ _
  simp(disch:=first|omega|exact PairsOK.mk rfl|(simp only[lenW]<;>omega)) only[wW,wV,simprocAttr]
  exact⟨.inr trivial,_,rfl,Rn.same (by rw[noRef];exact Qbu)⟩
end Go.AM.SO
namespace Go.AM.SO
open Go.Proofs Go.AM.SD Go.AM.SE
theorem Qil {A B:List Nat} (hA:A.Pairwise (· < ·)) (hB:B.Pairwise (· < ·)):minB A B= !(A.any fun x=> !decide (x∈B)):=by
 unfold minB
 cases h:A.any (fun x=> !decide (x∈B))with
 |true=>
  obtain⟨x,hx,hn⟩:=List.any_eq_true.1 h
  have hm:x∈mrg (fun a b=>a&& !b) A B:=(QaY hA hB).2 ⟨by simpa[hx]using hn,.inl hx⟩
  exact decide_eq_false fun h0=>by rw[List.eq_nil_of_length_eq_zero h0]at hm;simp at hm
 | false =>
  refine decide_eq_true ?_
  cases hm:mrg (fun a b=>a&& !b) A B with
  |nil=>rfl
  |cons x t=>
   have hx:x∈mrg (fun a b=>a&& !b) A B:=by rw[hm];simp
   obtain⟨h1,_⟩:=(QaY hA hB).1 hx
   simp only[Bool.and_eq_true,decide_eq_true_eq,Bool.not_eq_true',decide_eq_false_iff_not]at h1
   have:=List.any_eq_false.1 h x h1.1
   simp[h1.2]at this
theorem QlD (E:Nat):(List.range E).Pairwise (· < ·):=List.pairwise_lt_range
def chE (c:CelN) (i:Nat):Int:=if i<c.cs.length then csE c i else rsE c (i-c.cs.length)
def chB (c:CelN) (i:Nat):List Nat:=if i<c.cs.length then List.range c.ev.length else uZ c.cs
theorem Qmp {c:CelN} {i:Nat} {x:Itn} (h:(c.cs++c.rs)[i]?=some x):chE c i=itE c.ev.length (chB c i) (nmZ ((c.cs++c.rs).take i)) x:=by
 unfold chE chB csE rsE
 by_cases hi:i<c.cs.length
 ·rw [if_pos hi, if_pos hi]
  rw[List.getElem?_append_left hi]at h
  rw[QaC h,List.take_append_of_le_length (by omega)]
 ·rw [if_neg hi, if_neg hi]
  rw[List.getElem?_append_right (by omega)]at h
  rw[QaC h,List.take_append,List.take_of_length_le (l:=c.cs) (by omega)]
  simp only[nmZ,List.map_append]
theorem Qla {c : CelN} (z0 : evErr c.ev = 0) (z1 : ¬ c.cs.length = 0) (z2 : ¬ (8 < c.cs.length \/ 12 < c.cs.length + c.rs.length)) : celErr c = if fe (chE c) (c.cs.length + c.rs.length) ≠ 0 then fe (chE c) (c.cs.length + c.rs.length) else cdErr (szZ c) c.xs c.ks := by
  unfold celErr
  rw[if_neg (fun h=>h z0),if_neg z1,if_neg z2]
  by_cases h1:∃i,i<c.cs.length/\csE c i≠0/\∀j,j<i->csE c j=0
  · obtain ⟨i, hi, he, hb⟩ := h1
    have e1:=fe_at (f:=csE c) (n:=c.cs.length) rfl he hb hi
    have hc:∀j,j<c.cs.length->chE c j=csE c j:=fun j hj=>if_pos hj
    have e2:=fe_at (f:=chE c) (i:=i) (n:=c.cs.length+c.rs.length) (hc i hi) he (fun j hj=>by rw[hc j (by omega)];exact hb j hj) (by omega)
    rw[e1,e2,if_pos he,if_pos he]
  have hz:∀n,n<=c.cs.length->∀j,j<n->csE c j=0:=fun n=>by
    induction n with
    |zero=>intro _ j hj;omega
    | succ n ih =>
      intro hn
      refine fe_up (ih (by omega)) ?_
      by_cases q:csE c n=0
      · exact q
      · exact absurd ⟨n,by omega,q,ih (by omega)⟩ h1
  have hz:=hz _ (Nat.le_refl _)
  rw[QaX hz,if_neg (fun h=>h rfl)]
  have hc1:∀j,j<c.cs.length->chE c j=0:=fun j hj=>by rw[chE,if_pos hj];exact hz j hj
  have hc2:∀j,chE c (c.cs.length+j)=rsE c j:=fun j=>by rw[chE,if_neg (by omega),Nat.add_sub_cancel_left]
  by_cases h2:∃i,i<c.rs.length/\rsE c i≠0/\∀j,j<i->rsE c j=0
  · obtain ⟨i, hi, he, hb⟩ := h2
    have e1:=fe_at (f:=rsE c) (n:=c.rs.length) rfl he hb hi
    have e2:=fe_at (f:=chE c) (i:=c.cs.length+i) (n:=c.cs.length+c.rs.length) (hc2 i) he (fun j hj=>by
      by_cases q:j<c.cs.length
      · exact hc1 j q
      · have := hb (j - c.cs.length) (by omega)
        rw[<-hc2]at this
        rwa [show c.cs.length+(j-c.cs.length)=j by omega]at this) (by omega)
    rw[e1,e2]
  have hy:∀n,n<=c.rs.length->∀j,j<n->rsE c j=0:=fun n=>by
    induction n with
    |zero=>intro _ j hj;omega
    | succ n ih =>
      intro hn
      refine fe_up (ih (by omega)) ?_
      by_cases q:rsE c n=0
      · exact q
      · exact absurd ⟨n,by omega,q,ih (by omega)⟩ h2
  have hy:=hy _ (Nat.le_refl _)
  rw[QaX hy,if_neg (fun h=>h rfl),QaX (fun j hj=>?_),if_neg (fun h=>h rfl)]
  by_cases q:j<c.cs.length
  · exact hc1 j q
  · have := hy (j - c.cs.length) (by omega)
    rw[<-hc2]at this
    rwa [show c.cs.length+(j-c.cs.length)=j by omega]at this
theorem check56 (c : CelN) (h : CelOk c) : PSpec Tryz.prog 56 [celZ c] (.int .i64 (celErr c)) := by
  have hnr:=QaB c
  refine PSpec.Qaj 64 TT.ok56 rfl (QaW c) rfl ?_
  have hE:=check82X c.ev h.el h.en
  have h3:=h.cl
  have h2:=h.rl
  have hdL:=conds30X c h.cl
  have hdC:=conds32X (szZ c) c.xs c.ks (by simp[szZ];omega) h.xl h.kl h.xi h.ki
  have hI:=items43Z c h.cl h.rl
  by_cases z0:¬evErr c.ev=0
  · have e : celErr c = evErr c.ev := by unfold celErr; rw [if_pos z0]
    rw[e]
    simp(disch:=first|omega|exact PairsOK.mk rfl|(simp only[lenW]<;>omega)) only[TT.s56,wW,wV,simprocAttr]
    refine cp hE ?_
    simp(disch:=first|omega|exact PairsOK.mk rfl|(simp only[lenW]<;>omega)) only[z0,wW,wV,simprocAttr]
    exact⟨.inr trivial,_,rfl,rfl⟩
  replace z0:evErr c.ev=0:=Decidable.not_not.1 z0
  rw[z0]at hE
  have hE32:=QgT z0
  by_cases z1:c.cs.length=0
  · have e : celErr c = 12 := by unfold celErr; rw [if_neg (fun h => h z0), if_pos z1]
    have g1:(c.cs.length:Int)=0:=by omega
    rw[e]
    simp(disch:=first|omega|exact PairsOK.mk rfl|(simp only[lenW]<;>omega)) only[TT.s56,wW,wV,simprocAttr]
    refine cp hE ?_
    simp(disch:=first|omega|exact PairsOK.mk rfl|(simp only[lenW]<;>omega)) only[g1,wW,wV,simprocAttr]
    exact⟨.inr trivial,_,rfl,rfl⟩
  have g1:¬(c.cs.length:Int)=0:=by omega
  by_cases z2:8<c.cs.length
  · have e : celErr c = 3 := by unfold celErr; rw [if_neg (fun h => h z0), if_neg z1, if_pos (.inl z2)]
    have g2:(8:Int)<(c.cs.length:Int):=by omega
    rw[e]
    simp(disch:=first|omega|exact PairsOK.mk rfl|(simp only[lenW]<;>omega)) only[TT.s56,wW,wV,simprocAttr]
    refine cp hE ?_
    simp(disch:=first|omega|exact PairsOK.mk rfl|(simp only[lenW]<;>omega)) only[g1,g2,wW,wV,simprocAttr]
    exact⟨.inr trivial,_,rfl,rfl⟩
  have g2:¬(8:Int)<(c.cs.length:Int):=by omega
  by_cases z3:12<c.cs.length+c.rs.length
  · have e : celErr c = 3 := by unfold celErr; rw [if_neg (fun h => h z0), if_neg z1, if_pos (.inr z3)]
    have g3:(12:Int)<(c.cs.length:Int)+(c.rs.length:Int):=by omega
    rw[e]
    simp(disch:=first|omega|exact PairsOK.mk rfl|(simp only[lenW]<;>omega)) only[TT.s56,wW,wV,simprocAttr]
    refine cp hE ?_
    simp(disch:=first|omega|exact PairsOK.mk rfl|(simp only[lenW]<;>omega)) only[g1,g2,g3,wW,wV,simprocAttr]
    exact⟨.inr trivial,_,rfl,rfl⟩
  have g3:¬(12:Int)<(c.cs.length:Int)+(c.rs.length:Int):=by omega
  rw[Qla z0 z1 (by omega)]
  have hLi:∀x∈c.cs++c.rs,ItOk x:=fun x hx=>(List.mem_append.1 hx).elim (h.ci x) (h.ri x)
  have hch:=@Qmp c
  have hLg:∀i,i<c.cs.length->(c.cs++c.rs)[i]?=c.cs[i]?:=fun i hi=>List.getElem?_append_left hi
  have hLl:(c.cs++c.rs).length=c.cs.length+c.rs.length:=List.length_append
  rw[<-hLl]
  generalize c.cs++c.rs=L at*
  obtain⟨R,hR⟩:∃R,R=if fe (chE c) L.length≠0 then fe (chE c) L.length else cdErr (szZ c) c.xs c.ks:=⟨_,rfl⟩
  rw[<-hR]
  have hnL:=Qa2 L
  have hcsi:∀i,(∀j,j<i->chE c j=0)->∀x∈c.cs.take i,au (natA x.2)=x.2/\WfG (natA x.2):=fun i hb x hx=>by
    obtain⟨j,hj,rfl⟩:=List.getElem_of_mem hx
    rw[List.length_take]at hj
    have hjc:c.cs[j]?=some (c.cs.take i)[j]:=by rw[List.getElem_take];exact List.getElem?_eq_getElem (by omega)
    have h1:=hb j (by omega)
    have hjL:=(hLg j (by omega)).trans hjc
    rw[hch hjL]at h1
    exact(QdF (hLi _ (List.mem_of_getElem? hjL)) h1).2
  have hU:∀i,(∀j,j<i->chE c j=0)->(uZ (c.cs.take i)).length<=32/\(uZ (c.cs.take i)).Pairwise (· < ·):=fun i hb=>
    have hw:∀x∈c.cs.take i,(natA x.2).al.Pairwise (· < ·)/\∀e∈(natA x.2).al,e<32:=fun x hx=>⟨(hcsi i hb x hx).2.al,(hcsi i hb x hx).2.al5⟩
    ⟨Qk7 hw,(Qig (l:=c.cs.take i) (out:=[]) (by simp) (by simp) hw).1⟩
  simp(disch:=first|omega|exact PairsOK.mk rfl|(simp only[lenW]<;>omega)) only[TT.s56,wW,wV,simprocAttr]
  refine cp hE ?_
  simp(disch:=first|omega|exact PairsOK.mk rfl|(simp only[lenW]<;>omega)) only[g1,g2,g3,wW,wV,simprocAttr]
  refine cp hI ?_
  simp(disch:=first|omega|exact PairsOK.mk rfl|(simp only[lenW]<;>omega)) only[wW,wV,simprocAttr]
  refine QaF 240 (fun i:Nat=>[(1,.ptr 50 0 0),(4,itsV L),(5,.ptr 53 0 0),(35,itsV L),(36,.int .i64 L.length),(37,.int .i64 i)]) (fun i=>[(50,.cells 0 [evns c.ev,itsV c.cs,itsV c.rs,exsZ c.xs,cosZ c.ks]),(53,.cells 0 [sliN (uZ (c.cs.take i))])]) (fun i=>i<=L.length/\∀j,j<i->chE c j=0) (fun i=>L.length-i) 0 0 440
    (fun _:Unit=>[(1,.ptr 50 0 0)]) (fun _=>[(50,.cells 0 [evns c.ev,itsV c.cs,itsV c.rs,exsZ c.xs,cosZ c.ks])]) (fun _=>R=cdErr (szZ c) c.xs c.ks) ?_ ⟨Nat.zero_le _,fun j hj=>absurd hj (Nat.not_lt_zero _)⟩ ?_ ?_
  · refine ⟨[(50, .blk 64 0), (53, .blk 93 0)], rfl, au0, ?_, au11⟩
    exact RB.cells rfl rfl gg (RnL.same hnr) (RB.cells rfl rfl gg (RnL.cons Rn.nilK RnL.nil) RB.nil)
  · rintro i ⟨hi, hb⟩
    by_cases hlt:i<L.length
    · obtain ⟨x, hx⟩ := Qap hlt
      have hxm:=List.mem_of_getElem? hx
      have hdr:=QbQ hx
      have hdl:5<=((L.flatMap itV).drop (i*5)).length:=by rw[hdr];simp
      have ke:=hch hx
      have hO:=hLi x hxm
      have hN:=name135 x.1 hO.nm
      have fin:∀e,chE c i=e->e≠0->e=R:=fun e q1 q2=>by
        rw[hR,fe_at q1 q2 hb hlt,if_pos q2]
      have hin:(0:Int)<=i/\(i:Int)<=L.length:=by omega
      have hil:(i:Int)<=L.length:=by omega
      cases ho:nmOk x.1 with
      | false =>
        rw[ho]at hN
        simp(disch:=first|omega|exact PairsOK.mk rfl|(simp only[lenW]<;>omega)) only[hlt,hdr,hdl,wW,wV,simprocAttr]
        refine cp hN ?_
        simp(disch:=first|omega|exact PairsOK.mk rfl|(simp only[lenW]<;>omega)) only[wW,wV,simprocAttr]
        exact⟨.inr trivial,_,rfl,congrArg (AV.int .i64) (fin 7 (ke.trans (itE_7 ho).1) (by decide))⟩
      |true=>
      rw[ho]at hN
      simp(disch:=first|omega|exact PairsOK.mk rfl|(simp only[lenW]<;>omega)) only[hlt,hdr,hdl,wW,wV,simprocAttr]
      refine cp hN ?_
      simp(disch:=first|omega|exact PairsOK.mk rfl|(simp only[lenW]<;>omega)) only[hil,wW,wV,simprocAttr]
      have hc1:=contains136 (K:=137) (cap:=[.fptr (itV x)]) (fun y=>decide (y.1=x.1)) (L.take i) (by rw[List.length_take];have:=h.cl;have:=h.rl;omega) (by rw[noRefs,noRef,Qcv];rfl) (fun y _=>same137 x y)
      have e1:itsV (L.take i)= .fsl ((L.flatMap itV).take (i*5)) i 5:=by
        rw[itsV,List.length_take,Nat.min_eq_left hi,<-Qcw (f:=itV) (k:=5) (fun _=>rfl)]
      rw[e1]at hc1
      have hmem:(L.take i).any (fun y=>decide (y.1=x.1))=true↔x.1∈nmZ (L.take i):=by
        simp only[List.any_eq_true,decide_eq_true_eq,nmZ,List.mem_map]
      refine SU.chc (HSpec.lend (FrzL.cons (FrzTo.same _) (FrzL.cons (FrzTo.fn FrzL.nil (FrzL.cons (FrzTo.ptr (g:=0) (cs:=itV x) gg (FrzL.same _)) FrzL.nil)) FrzL.nil)) hc1 rfl) ?_
      cases hq:(L.take i).any (fun y=>decide (y.1=x.1))with
      | true =>
        simp(disch:=first|omega|exact PairsOK.mk rfl|(simp only[lenW]<;>omega)) only[wW,wV,simprocAttr]
        exact⟨.inr trivial,_,rfl,congrArg (AV.int .i64) (fin 8 (ke.trans (itE_8 ho (hmem.1 hq)).1) (by decide))⟩
      |false=>
      have k9:=ke.trans (itE_9 (E:=c.ev.length) (B:=chB c i) ho (fun hm=>by rw[hmem.2 hm]at hq;cases hq)).1
      unfold itE2 at k9
      have hC:=check37X x.2 hO.al hO.ms (by have:=hO.es;omega)
      have hI:=isCanon60X x.2 hO.al hO.ms hO.es hO.n
      by_cases h0:auErr x.2=0
      · obtain ⟨ea, hw⟩ := QdE h0 hO.n
        rw[if_neg (fun h=>h h0)]at k9
        rw[h0]at hC
        simp(disch:=first|omega|exact PairsOK.mk rfl|(simp only[lenW]<;>omega)) only[wW,wV,simprocAttr]
        refine cp hC ?_
        simp(disch:=first|omega|exact PairsOK.mk rfl|(simp only[lenW]<;>omega)) only[wW,wV,simprocAttr]
        refine cp hI ?_
        cases hc:caB x.2 with
        | false =>
          simp(disch:=first|omega|exact PairsOK.mk rfl|(simp only[lenW]<;>omega)) only[wW,wV,simprocAttr]
          exact⟨.inr trivial,_,rfl,congrArg (AV.int .i64) (fin 6 (k9.trans (if_pos hc)) (by decide))⟩
        |true=>
        rw[if_neg (by rw[hc];decide)]at k9
        by_cases hz:x.2.n=0
        · simp (disch := first | omega | exact PairsOK.mk rfl | (simp only [lenW] <;> omega)) only [hz, wW, wV, simprocAttr]
          exact⟨.inr trivial,_,rfl,congrArg (AV.int .i64) (fin 12 (k9.trans (if_pos hz)) (by decide))⟩
        rw[if_neg hz]at k9
        have hal:=QbK hw.al hw.al5
        have eal:sli x.2.al=sliN (natA x.2).al:=by rw[<-Qcs];exact congrArg (fun b=>sli b.al) ea.symm
        have h36:=contains36 (K:=138) (cap:=[.fptr [evns c.ev,itsV c.cs,itsV c.rs,exsZ c.xs,cosZ c.ks]]) (fun x=>decide ((c.ev.length:Int)<=(x:Int))) (natA x.2).al (by omega) (by rw[noRefs,noRef,hnr];rfl) (fun x _=>ge138 c x)
        rw[<-eal]at h36
        simp(disch:=first|omega|exact PairsOK.mk rfl|(simp only[lenW]<;>omega)) only[hz,wW,wV,simprocAttr]
        refine SU.chc (HSpec.lend (FrzL.cons (FrzTo.same _) (FrzL.cons (FrzTo.fn FrzL.nil (FrzL.cons (FrzTo.ptr (g:=0) (cs:=[evns c.ev,itsV c.cs,itsV c.rs,exsZ c.xs,cosZ c.ks]) gg (FrzL.same _)) FrzL.nil)) FrzL.nil)) h36 rfl) ?_
        cases hq2:(natA x.2).al.any (fun x=>decide ((c.ev.length:Int)<=(x:Int)))with
        | true =>
          simp(disch:=first|omega|exact PairsOK.mk rfl|(simp only[lenW]<;>omega)) only[wW,wV,simprocAttr]
          exact⟨.inr trivial,_,rfl,congrArg (AV.int .i64) (fin 2 (k9.trans (if_pos hq2)) (by decide))⟩
        |false=>
        rw[if_neg (by rw[hq2];decide)]at k9
        have hcl:=(hU i hb).1
        have hcp:=(hU i hb).2
        by_cases hic:i<c.cs.length
        · have hlc : (i : Int) < c.cs.length := by omega
          have hxc:c.cs[i]?=some x:=(hLg i hic).symm.trans hx
          have hUn:=union90 (uZ (c.cs.take i)) (natA x.2).al hcp hw.al (by omega) (by omega)
          rw[<-Qjt hxc,<-eal]at hUn
          have hB:minB (natA x.2).al (chB c i)=true:=by
            rw[chB,if_pos hic,Qil hw.al (QlD _)]
            have:(natA x.2).al.any (fun x=> !decide (x∈List.range c.ev.length))=false:=by
              rw[List.any_eq_false]at hq2⊢
              intro y hy
              have:=hq2 y hy
              simp only[decide_eq_true_eq]at this
              simp only[List.mem_range,Bool.not_eq_true',decide_eq_false_iff_not]
              omega
            rw[this];rfl
          rw[if_neg (by rw[hB];decide)]at k9
          simp(disch:=first|omega|exact PairsOK.mk rfl|(simp only[lenW]<;>omega)) only[hlc,wW,wV,simprocAttr]
          refine cp hUn ?_
          simp(disch:=first|omega|exact PairsOK.mk rfl|(simp only[lenW]<;>omega)) only[wW,wV,simprocAttr]
          refine⟨i+1,by omega,⟨by omega,fe_up hb k9⟩,?_⟩
          refine⟨[(50,.blk 50 0),(53,.blk 53 0)],rfl,au0,?_,au11⟩
          exact RB.cells rfl rfl gg (RnL.same hnr) (RB.cells rfl rfl gg (RnL.same (by simp only[noRefs,noRef,Qaa];rfl)) RB.nil)
        · have hlc : ¬ (i : Int) < c.cs.length := by omega
          have hta:c.cs.take i=c.cs:=List.take_of_length_le (by omega)
          have hta1:c.cs.take (i+1)=c.cs:=List.take_of_length_le (by omega)
          rw[hta]at hcl hcp
          have h39:=contains36 (K:=139) (cap:=[.fptr [sliN (uZ c.cs)]]) (fun x=> !decide (x∈uZ c.cs)) (natA x.2).al (by omega) (by simp only[noRefs,noRef,Qaa];rfl) (fun x _=>not139 (uZ c.cs) x (by omega))
          rw[<-eal]at h39
          have hB:minB (natA x.2).al (chB c i)= !((natA x.2).al.any fun x=> !decide (x∈uZ c.cs)):=by
            rw[chB,if_neg hic,Qil hw.al hcp]
          simp(disch:=first|omega|exact PairsOK.mk rfl|(simp only[lenW]<;>omega)) only[hlc,hta,wW,wV,simprocAttr]
          refine SU.chc (HSpec.lend (FrzL.cons (FrzTo.same _) (FrzL.cons (FrzTo.fn FrzL.nil (FrzL.cons (FrzTo.ptr (g:=0) (cs:=[sliN (uZ c.cs)]) gg (FrzL.same _)) FrzL.nil)) FrzL.nil)) h39 rfl) ?_
          cases hq3:(natA x.2).al.any (fun x=> !decide (x∈uZ c.cs))with
          | true =>
            rw[if_pos (by rw[hB,hq3];rfl)]at k9
            simp(disch:=first|omega|exact PairsOK.mk rfl|(simp only[lenW]<;>omega)) only[wW,wV,simprocAttr]
            exact⟨.inr trivial,_,rfl,congrArg (AV.int .i64) (fin 9 k9 (by decide))⟩
          | false =>
            rw[if_neg (by rw[hB,hq3];decide)]at k9
            simp(disch:=first|omega|exact PairsOK.mk rfl|(simp only[lenW]<;>omega)) only[wW,wV,simprocAttr]
            refine⟨i+1,by omega,⟨by omega,fe_up hb k9⟩,?_⟩
            rw[hta1]
            refine⟨[(50,.blk 50 0),(53,.blk 53 0)],rfl,au0,?_,au11⟩
            exact RB.cells rfl rfl gg (RnL.same hnr) (RB.cells rfl rfl gg (RnL.same (by simp only[noRefs,noRef,Qaa];rfl)) RB.nil)
      · simp (disch := first | omega | exact PairsOK.mk rfl | (simp only [lenW] <;> omega)) only [wW, wV, simprocAttr]
        refine cp hC ?_
        simp(disch:=first|omega|exact PairsOK.mk rfl|(simp only[lenW]<;>omega)) only[h0,wW,wV,simprocAttr]
        exact⟨.inr trivial,_,rfl,congrArg (AV.int .i64) (fin _ (k9.trans (if_pos h0)) h0)⟩
    · have e : i = L.length := by omega
      subst e
      simp(disch:=first|omega|exact PairsOK.mk rfl|(simp only[lenW]<;>omega)) only[hlt,wW,wV,simprocAttr]
      refine⟨(),by rw[hR,QaX hb];rfl,?_⟩
      refine⟨[(50,.blk 50 0)],rfl,au0,?_,au11⟩
      exact RB.cells rfl rfl gg (RnL.same hnr) RB.nil
  rintro _ hRe
  simp(disch:=first|omega|exact PairsOK.mk rfl|(simp only[lenW]<;>omega)) only[wW,wV,simprocAttr]
  refine cp hdL ?_
  simp(disch:=first|omega|exact PairsOK.mk rfl|(simp only[lenW]<;>omega)) only[wW,wV,simprocAttr]
  refine cp hdC ?_
  simp(disch:=first|omega|exact PairsOK.mk rfl|(simp only[lenW]<;>omega)) only[wW,wV,simprocAttr]
  exact⟨.inr trivial,_,rfl,by rw[hRe];rfl⟩
end Go.AM.SO
namespace Go.AM.SO
open Go.Proofs Go.AM.SD Go.AM.SE
theorem CelR.okF {c:CelN} (h:CelR c) (hf:fewB c=true):CelOk c:=by
 unfold fewB at hf
 rw[Bool.and_eq_true,decide_eq_true_eq]at hf
 obtain⟨⟨a1,a2,a3,a4,a5⟩,hs⟩:=hf
 have hI:∀x∈c.cs++c.rs,ItOk x:=fun x hx=>by
  obtain⟨b1,b2,b3,b4⟩:=h.ci x hx
  have hb:=List.all_eq_true.1 hs x hx
  unfold smI at hb
  rw[decide_eq_true_eq]at hb
  exact⟨b1,b2,b3,by omega,by omega⟩
 exact⟨h.el,h.en,by omega,by omega,by omega,by omega,fun x hx=>hI x (List.mem_append_left _ hx),fun x hx=>hI x (List.mem_append_right _ hx),h.xi,h.ki⟩
theorem law11 (c:CelN) (h:CelR c):
  W2 Tryz.prog ⟨TT.s11.n,0⟩ TT.s11.body (fun e B=>(e= .normal\/e= .ret)/\resV B.T B.h TT.s11.res=some [.bool true]) ⟨argT 0 [celZ c],.e⟩:=by
 refine(wpC.toW (n:=40) (Q:=fun e T h _=>(e= .normal\/e= .ret)/\resV T h TT.s11.res=some [.bool true]) (show wS Tryz.prog ⟨TT.s11.n,0⟩ TT.s11.body [] 40 _ _ _ from ?_)).mono fun e B ⟨_,h⟩=>h
 have hnr:=QaB c
 have hkn:=SK.known15
 have hF:=few55 c h
 simp(disch:=first|omega|exact PairsOK.mk rfl|(simp only[lenW]<;>omega)) only[TT.s11,wW,wV,simprocAttr]
 refine cp hkn ?_
 simp(disch:=first|omega|exact PairsOK.mk rfl|(simp only[lenW]<;>omega)) only[wW,wV,simprocAttr]
 refine cp hF ?_
 cases hf:fewB c with
 |false=>
  simp(disch:=first|omega|exact PairsOK.mk rfl|(simp only[lenW]<;>omega)) only[wW,wV,simprocAttr]
  refine cp hkn ?_
  simp(disch:=first|omega|exact PairsOK.mk rfl|(simp only[lenW]<;>omega)) only[wW,wV,simprocAttr]
  exact⟨.inr trivial,rfl⟩
 |true=>
 have hO:=h.okF hf
 have hW:=check56 c hO
 have hC:=check21X c hO
 by_cases h0:celErr c=0
 ·rw [h0] at hW hC
  simp(disch:=first|omega|exact PairsOK.mk rfl|(simp only[lenW]<;>omega)) only[wW,wV,simprocAttr]
  refine cp hW ?_
  simp(disch:=first|omega|exact PairsOK.mk rfl|(simp only[lenW]<;>omega)) only[wW,wV,simprocAttr]
  refine cp hC ?_
  simp(disch:=first|omega|exact PairsOK.mk rfl|(simp only[lenW]<;>omega)) only[wW,wV,simprocAttr]
  exact⟨.inr trivial,rfl⟩
 have p1:=conds27X c hO h0
 have p2:=plant17X c hO h0
 have p3:=specify18X c hO h0
 have p4:=complete19X c hO h0
 have p5:=touched35X c 0 hO h0
 have p6:=select57X c hO h0
 generalize celErr c=E at*
 simp(disch:=first|omega|exact PairsOK.mk rfl|(simp only[lenW]<;>omega)) only[wW,wV,simprocAttr]
 refine cp hW ?_
 simp(disch:=first|omega|exact PairsOK.mk rfl|(simp only[lenW]<;>omega)) only[wW,wV,simprocAttr]
 refine cp hC ?_
 simp(disch:=first|omega|exact PairsOK.mk rfl|(simp only[lenW]<;>omega)) only[h0,wW,wV,simprocAttr]
 refine cp p1 ?_
 simp(disch:=first|omega|exact PairsOK.mk rfl|(simp only[lenW]<;>omega)) only[wW,wV,simprocAttr]
 refine cp p2 ?_
 simp(disch:=first|omega|exact PairsOK.mk rfl|(simp only[lenW]<;>omega)) only[wW,wV,simprocAttr]
 refine cp p3 ?_
 simp(disch:=first|omega|exact PairsOK.mk rfl|(simp only[lenW]<;>omega)) only[wW,wV,simprocAttr]
 refine cp p4 ?_
 simp(disch:=first|omega|exact PairsOK.mk rfl|(simp only[lenW]<;>omega)) only[wW,wV,simprocAttr]
 refine cp p5 ?_
 simp(disch:=first|omega|exact PairsOK.mk rfl|(simp only[lenW]<;>omega)) only[wW,wV,simprocAttr]
 refine cp p6 ?_
 simp(disch:=first|omega|exact PairsOK.mk rfl|(simp only[lenW]<;>omega)) only[wW,wV,simprocAttr]
 exact⟨.inr trivial,rfl⟩
theorem okr11:okFn Tryz.prog 11 TT.s11=true:=TT.ok11
theorem law11_in (d0:tyCel.D) (h0:tyCel.wf d0) (z0:tyCel.sized Tryz.prog [28] d0):
  W2 Tryz.prog ⟨TT.s11.n,0⟩ TT.s11.body (fun e B=>(e= .normal\/e= .ret)/\resV B.T B.h TT.s11.res=some [.bool true]) ⟨argT 0 [tyCel.val d0],.e⟩:=by
 rw[cCel]
 exact law11 _ (Qmm h0 z0)
end Go.AM.SO
