/- A part of the proof of CellSelectsCardSaid: lemmas on the way (AmTs, AmRs, AmRt, AmRq, AmXj, AmCzg, AmCzh, AmXk, AmXl). Conditions: none of ours. -/
import Derived.Shelf.Sort.Plain
import Derived.Shelf.Slices.In.SortNone
import Derived.Shelf.Slices.CompactI
import Derived.Test.YtmoanlnleppcpaaGreatDoorAmW16
set_option linter.unusedSectionVars false
set_option maxHeartbeats 32000000
set_option maxRecDepth 100000
set_option linter.unusedVariables false
set_option linter.unusedSimpArgs false
set_option linter.unusedSectionVars false
namespace Go.AM
open Go.Proofs Go.Shelf Go.Sort
variable{P:Program}{ρ:Ren}
theorem HSpec.rowI{f b γ:Nat}(z:Callable P f)(l d:List Int)(G:d.length=l.length)(v:AV)(cv:Option Addr->Nat->Value)(h0:l=[]->∀a cap w,Calls P f #[.slice a 0 cap] w fun e w'=>e=.returned (cv a cap)/\w'=w)(hc:l≠[]->∀i off cap w,Holds (Value.int .i64) w i off l.toArray->i<w.heap.size->l.length<=cap->Calls P f #[.slice (some ⟨i,off,none⟩) l.length cap] w fun e w'=>e=.returned (cv (some ⟨i,off,none⟩) cap)/\∃n os,w'=grow (putRow (Value.int .i64) (Sort.ahead w n) i off d.toArray) os)(Z:l=[]->∀{ok:Okc}(c:Ctx ok)w a cap,VRel c w (.sl b γ 0 0 1) (.slice a 0 cap)->VRel c w v (cv a cap))(hv:∀{ok:Okc}(c:Ctx ok)w cb base cap C e Y,c.ρ b γ=some (.loc cb base)->l.length<=cap->w.heap[cb]?=some (.cells C e Y)->base+cap*1<=C.size->VRel c w v (cv (some ⟨cb,base,none⟩) cap)){h:Heap}(Q:h.get b=some (.cells γ (l.map (AV.int .i64))))(hlim:b<1099511627775):HSpec P f [.sl b γ 0 l.length 1] h v (h.set b (.cells γ (d.map (AV.int .i64)))):=by
 refine⟨z,?_⟩;intro c w g H ha;have K:∀x j,(h.set b x).get j=if j=b then some x else h.get j:=fun x j=>ZbU h (by simp_all[lim]) j x;obtain⟨v1,S,t⟩:∃v1,g.toList=[v1]/\VRel c w (.sl b γ 0 l.length 1) v1:=by simp only[VRels]at ha;obtain⟨v1,vs,e,h1,rfl⟩:=ha;exact⟨v1,e,h1⟩
 have N:g=#[v1]:=Array.toList_inj.1 (by rw[S]);subst N;have none:l=[]->∀p cap,v1=.slice p 0 cap->Calls P f #[v1] w fun e w'=>∃cv X,e=.returned cv/\Evo c w X w'/\HRel X (h.set b (.cells γ (d.map (AV.int .i64)))) w'/\VRel X w' v cv:=by
  rintro e p cap rfl;refine(h0 e p cap w).mono ?_;rintro e1 w'⟨rfl,rfl⟩;have e':d=[]:=Zbh (by rw[G,e];rfl);refine⟨_,c,rfl,Evo.refl c _,Qcg (fun j=>?_) H,Z e c _ p cap (by subst e;exact t)⟩;rw[K,e',<-e,<-Q];split;·rename_i q;rw[q]
  rfl
 simp only[VRel]at t;rcases t with⟨_,h1,_,rfl⟩|⟨cb,base,o,cap,C,e,Y,hp,rfl,O,I,J⟩;·have e:l=[]:=Zbh h1;exact none e _ _ rfl
 by_cases m:l.length=0;·have e:l=[]:=Zbh m;exact none e _ _ (by rw[m])
 obtain⟨ho,hbd⟩:=J.resolve_left (by omega);have V:base=o:=ho.symm;subst V;obtain⟨C',e',fr',hcO,B,U,hbs,F⟩:=H.here Q hp;rw[I]at B;cases B;obtain⟨r,hr⟩:=QiG F;have hblk:=QaX I;have hH:Holds (Value.int .i64) w cb base l.toArray:=by
  intro j T;have L:j<l.length:=by simpa using T
  have R:base+j<C.size:=by omega
  refine⟨?_,?_⟩
  ·simp only[World.cell?,I];have h2:C.toList[base+j]?=some ((l.map (Value.int .i64))[j]'(by simpa using L)):=by rw[<-Zbi,hr,Za6 (by simpa using L),Zad]
   grind
  simp only[World.frozen?,I];have:=U (base+j) R;grind
 have A:=hc (fun e=>m (by rw[e];rfl)) cb base cap w hH hblk O;refine A.mono ?_;rintro e1 w'⟨rfl,n,os,rfl⟩;have s:∀j,j<w.heap.size->(grow (putRow (Value.int .i64) (Sort.ahead w n) cb base d.toArray) os).heap[j]?=if j=cb then some (.cells (putCells (Value.int .i64) base d.toArray C) e Y)else w.heap[j]?:=fun j T=>by
  rw[heap_grow_old _ _ (by grind[putRow,mapBlock,Sort.ahead])];show(w.heap.modify cb _)[j]?=_;rw[Array.getElem?_modify];by_cases e2:cb=j;·subst e2;rw[if_pos rfl,if_pos rfl,I];rfl
  grind
 have M:w.heap.size<=(grow (putRow (Value.int .i64) (Sort.ahead w n) cb base d.toArray) os).heap.size:=by grind[putRow,mapBlock,Sort.ahead]
 have u:=s cb hblk;rw[if_pos rfl]at u;have hl':d.toArray.size=l.length:=by simpa using G
 obtain⟨E,H2⟩:=H.put (w':=grow (putRow (Value.int .i64) (Sort.ahead w n) cb base d.toArray) os) (b:=b) (cb:=cb) (base:=base) (x:=.cells γ (d.map (AV.int .i64))) (by grind[lim]) (fun y hy=>H.later b _ Q y hy) (.inr hp) (.inr ⟨γ,base,⟨_,Q,rfl,fun k=>by simp⟩,hp⟩) rfl rfl rfl M (by omega) (fun j T hne=>by grind) (fun C2 e2 fr2 h2=>by grind[putCells]) (fun E=>.inr ⟨cb,base,_,_,_,by show(if b=b/\γ=γ then _ else _)=_;grind,.inr rfl,u,by grind[putCells],by grind[putCells],by
  have hd:(putCells (Value.int .i64) base d.toArray C).toList.drop base=d.map (Value.int .i64)++C.toList.drop (base+d.length):=by apply Zbw;grind[putCells]
  rw[hd];exact Qgb⟩);exact⟨_,_,rfl,E,H2,hv _ _ _ _ _ _ _ _ (by show(if b=b/\γ=γ then _ else _)=_;grind) O u (by grind[putCells])⟩
theorem HSpec.sortI{f b γ:Nat}(L:Lays.n189 P ρ)(hf:ρ.f 189=f)(d:Callable P f)(l:List Int)(k:l.length<4611686018427387904){h:Heap}(j:h.get b=some (.cells γ (l.map (AV.int .i64))))(g:b<1099511627775):HSpec P f [.sl b γ 0 l.length 1] h (.tup []) (h.set b (.cells γ ((l.mergeSort fun x y=>decide (x<=y)).map (AV.int .i64)))):=by subst hf;refine HSpec.rowI d l _ (by simp) _ (fun _ _=>.tuple #[]) (fun _ a cap w=>Any.slices_Sort_int_none L a cap w) (fun _ i off cap w hH hblk _=>Any.slices_Sort_int L i off cap l w hH hblk k) (fun _ _ c w a cap _=>by simp[VRel,VRels]) (fun c w n base cap C e m _ _ _ _=>by simp[VRel,VRels]) j g
theorem HSpec.compactI{f b γ:Nat}(L:Lays2.n20 P ρ)(hf:ρ.f 20=f)(d:Callable P f)(l:List Int)(n:l.length<=9223372036854775807){h:Heap}(m:h.get b=some (.cells γ (l.map (AV.int .i64))))(g:b<1099511627775)(k:(Lib.compact l).length<=l.length):HSpec P f [.sl b γ 0 l.length 1] h (.sl b γ 0 (Lib.compact l).length 1) (h.set b (.cells γ ((Lib.compact l++List.replicate (l.length-(Lib.compact l).length) 0).map (AV.int .i64)))):=by
 subst hf;refine HSpec.rowI d l _ (by simp;omega) _ (fun a cap=>.slice a (Lib.compact l).length cap) (fun e a cap w=>by subst e;exact Any.slices_Compact_int_empty L a cap w) (fun _ j off cap w hH hblk i=>(Any.slices_Compact_int L j off cap l w hH n i).mono fun e v h=>⟨h.1,?_⟩) (fun e _ c w a cap h=>by subst e;exact h) (fun c w t base cap C e r h1 u s p=>?_) m g;·obtain⟨_,q,o⟩:=h;refine⟨q,#[],?_⟩;rw[o,grow_empty]
 simp only[VRel];exact .inr ⟨t,base,base,cap,C,e,r,h1,rfl,by omega,s,.inr ⟨rfl,p⟩⟩
end Go.AM
namespace Go.Proofs
open Go.Shelf
def Tryz.Qn5:Go.Shelf.Ren:=⟨fun|189=>183|125=>164|257=>223|128=>217|129=>218|294=>251|295=>252|296=>253|297=>254|298=>255|299=>256|216=>197|300=>257|301=>258|328=>271|329=>238|330=>239|331=>272|332=>273|215=>227|343=>279|n=>n,fun|28=>30|3=>3|46=>253|0=>0|51=>300|53=>302|4=>4|183=>294|182=>293|131=>188|5=>5|9=>9|218=>315|222=>319|228=>336|229=>278|n=>n,fun|n=>n⟩
theorem Tryz.sortI:Go.Proofs.Lays.n189 Tryz.prog Tryz.Qn5:={
 mixed:=by kernel_rfl
 f125:=Tryz.func164.trans (congrArg some (by kernel_rfl))
 f128:=Tryz.func217.trans (congrArg some (by kernel_rfl))
 f129:=Tryz.func218.trans (congrArg some (by kernel_rfl))
 f189:=Tryz.func183.trans (congrArg some (by kernel_rfl))
 f215:=Tryz.func227.trans (congrArg some (by kernel_rfl))
 f216:=Tryz.func197.trans (congrArg some (by kernel_rfl))
 f257:=Tryz.func223.trans (congrArg some (by kernel_rfl))
 f294:=Tryz.func251.trans (congrArg some (by kernel_rfl))
 f295:=Tryz.func252.trans (congrArg some (by kernel_rfl))
 f296:=Tryz.func253.trans (congrArg some (by kernel_rfl))
 f297:=Tryz.func254.trans (congrArg some (by kernel_rfl))
 f298:=Tryz.func255.trans (congrArg some (by kernel_rfl))
 f299:=Tryz.func256.trans (congrArg some (by kernel_rfl))
 f300:=Tryz.func257.trans (congrArg some (by kernel_rfl))
 f301:=Tryz.func258.trans (congrArg some (by kernel_rfl))
 f328:=Tryz.func271.trans (congrArg some (by kernel_rfl))
 f329:=Tryz.func238.trans (congrArg some (by kernel_rfl))
 f330:=Tryz.func239.trans (congrArg some (by kernel_rfl))
 f331:=Tryz.func272.trans (congrArg some (by kernel_rfl))
 f332:=Tryz.func273.trans (congrArg some (by kernel_rfl))
 f343:=Tryz.func279.trans (congrArg some (by kernel_rfl))
 t0:=Tryz.underlying0
 a0:=Tryz.isAgg0
 z0:=Tryz.sizeOf0
 v0:=Tryz.zeroValue0
 t3:=Tryz.underlying3
 a3:=Tryz.isAgg3
 z3:=Tryz.sizeOf3
 v3:=Tryz.zeroValue3
 t4:=Tryz.underlying4
 a4:=Tryz.isAgg4
 z4:=Tryz.sizeOf4
 v4:=Tryz.zeroValue4
 t5:=Tryz.underlying5
 a5:=Tryz.isAgg5
 z5:=Tryz.sizeOf5
 v5:=Tryz.zeroValue5
 t9:=Tryz.underlying9
 a9:=Tryz.isAgg9
 z9:=Tryz.sizeOf9
 v9:=Tryz.zeroValue9
 t28:=Tryz.underlying30
 a28:=Tryz.isAgg30
 z28:=Tryz.sizeOf30
 v28:=Tryz.zeroValue30
 t46:=Tryz.underlying253
 a46:=Tryz.isAgg253
 z46:=Tryz.sizeOf253
 v46:=Tryz.zeroValue253
 t51:=Tryz.underlying300
 a51:=Tryz.isAgg300
 z51:=Tryz.sizeOf300
 v51:=Tryz.zeroValue300
 t53:=Tryz.underlying302
 a53:=Tryz.isAgg302
 z53:=Tryz.sizeOf302
 v53:=Tryz.zeroValue302
 t131:=Tryz.underlying188
 a131:=Tryz.isAgg188
 z131:=Tryz.sizeOf188
 v131:=Tryz.zeroValue188
 t182:=Tryz.underlying293
 a182:=Tryz.isAgg293
 z182:=Tryz.sizeOf293
 v182:=Tryz.zeroValue293
 t183:=Tryz.underlying294
 a183:=Tryz.isAgg294
 z183:=Tryz.sizeOf294
 v183:=Tryz.zeroValue294
 t218:=Tryz.underlying315
 a218:=Tryz.isAgg315
 z218:=Tryz.sizeOf315
 v218:=Tryz.zeroValue315
 t222:=Tryz.underlying319
 a222:=Tryz.isAgg319
 z222:=Tryz.sizeOf319
 v222:=Tryz.zeroValue319
 t228:=Tryz.underlying336
 a228:=Tryz.isAgg336
 z228:=Tryz.sizeOf336
 v228:=Tryz.zeroValue336
 t229:=Tryz.underlying278
 a229:=Tryz.isAgg278
 z229:=Tryz.sizeOf278
 v229:=Tryz.zeroValue278}
def Tryz.Qkp:Go.Shelf.Ren:=⟨fun|20=>184|n=>n,fun|22=>30|3=>3|4=>4|0=>0|n=>n,fun|n=>n⟩
theorem Tryz.compactI:Go.Proofs.Lays2.n20 Tryz.prog Tryz.Qkp:={
 mixed:=by kernel_rfl
 f20:=Tryz.func184.trans (congrArg some (by kernel_rfl))
 t0:=Tryz.underlying0
 a0:=Tryz.isAgg0
 z0:=Tryz.sizeOf0
 v0:=Tryz.zeroValue0
 t3:=Tryz.underlying3
 a3:=Tryz.isAgg3
 z3:=Tryz.sizeOf3
 v3:=Tryz.zeroValue3
 t4:=Tryz.underlying4
 a4:=Tryz.isAgg4
 z4:=Tryz.sizeOf4
 v4:=Tryz.zeroValue4
 t22:=Tryz.underlying30
 a22:=Tryz.isAgg30
 z22:=Tryz.sizeOf30
 v22:=Tryz.zeroValue30
 i3:=by kernel_rfl}
end Go.Proofs
namespace Go.AM.SO
open Go.Proofs Go.AM.SD Go.AM.SE
theorem Qn6{d:Array Int}(c:∀i j,i<=j->j<d.size->d[i]!<=d[j]!):∀m,m<=d.size->(∀x,x∈Lib.compactUpTo d m↔∃j,j<m/\(d[j]!)=x)/\(Lib.compactUpTo d m).Pairwise (·<·)
 |0,_=>⟨fun x=>by simp[Lib.compactUpTo],by simp[Lib.compactUpTo]⟩|m+1,h=>by
  obtain⟨h1,g⟩:=Qn6 c m (by omega);rw[Lib.compactUpTo_succ];have hk:Lib.keeps d m=decide (m=0\/d[m]!≠d[m-1]!):=rfl;by_cases k:m=0\/d[m]!≠d[m-1]!
  ·rw[hk,decide_eq_true k,if_pos rfl];refine⟨fun x=>?_,?_⟩
   ·rw[Zbf,h1,Zbk];constructor
    ·rintro(⟨j,a,e⟩|e);·exact⟨j,by omega,e⟩
     exact⟨m,by omega,e.symm⟩
    rintro⟨j,a,e⟩;by_cases b:j=m;·subst b;exact .inr e.symm
    exact .inl ⟨j,by omega,e⟩
   rw[Zbm];refine⟨g,by simp,fun x l y f=>?_⟩;rw[Zbk]at f;subst f;obtain⟨j,a,rfl⟩:=(h1 x).1 l;have o:=k.resolve_left (by omega);have n:=c j (m-1) (by omega) (by omega);have a2:=c (m-1) m (by omega) (by omega);omega
  rw[hk,decide_eq_false k,if_neg (by decide),Zax];refine⟨fun x=>?_,g⟩;rw[h1];constructor;·rintro⟨j,a,e⟩;exact⟨j,by omega,e⟩
  rintro⟨j,a,e⟩;by_cases b:j=m;·subst b;exact⟨j-1,by omega,by omega⟩
  exact⟨j,by omega,e⟩
theorem Qmx{a:List Int}(h:a.Pairwise (·<=·)):(∀x,x∈Lib.compact a↔x∈a)/\(Lib.compact a).Pairwise (·<·):=by
 rw[Za5]at h;have:=Qn6 (d:=a.toArray) (fun i j d b=>by
  have c:j<a.length:=by simpa using b
  by_cases e:i=j;·subst e;exact Int.le_refl _
  have :=h i j (by omega) c (by omega);simpa[getElem!_pos,c,show i<a.length by omega]using this) a.length (by simp);refine⟨fun x=>?_,this.2⟩;unfold Lib.compact;rw[this.1,Zbs];constructor;·rintro⟨j,b,e⟩;exact⟨j,b,by simpa[getElem!_pos,b]using e⟩
 rintro⟨j,b,e⟩;exact⟨j,b,by simpa[getElem!_pos,b]using e⟩
theorem QqB{α:Type}{R:α->α->Prop}(hi:∀a,¬R a a)(f:∀a b,R a b->R b a->False){X Y:List α}(c:X.Pairwise R)(d:Y.Pairwise R)(h:∀x,x∈X↔x∈Y):X=Y:=by
 refine List.Perm.eq_of_pairwise (le:=R) (fun x y _ _ h1 g=>(f x y h1 g).elim) c d ?_;have nd:∀{Z:List α},Z.Pairwise R->Z.Nodup:=fun i=>by rw[ZaJ];refine i.imp ?_;intro a b h e;subst e;exact hi _ h
 exact(List.perm_ext_iff_of_nodup (nd c) (nd d)).2 h
theorem Qmy{A B:List Nat}(hA:A.Pairwise (·<·))(f:B.Pairwise (·<·)):Lib.compact ((nz A++nz B).mergeSort fun x y=>decide (x<=y))=nz (mrg (fun a b=>a||b) A B):=by
 have i:((nz A++nz B).mergeSort fun x y=>decide (x<=y)).Pairwise (·<=·):=by
  refine(List.pairwise_mergeSort (le:=fun x y:Int=>decide (x<=y)) (fun a b c h1 g=>?_) (fun a b=>?_) _).imp (fun h=>by simpa using h);·simp only[decide_eq_true_eq]at*;omega
  simp only[Zbc,decide_eq_true_eq];omega
 obtain⟨h1,g⟩:=Qmx i;refine QqB (R:=(·<·)) (fun a h=>by omega) (fun a b h1 g=>by omega) g (Za8.2 ((QbE hA f).imp fun h=>by omega)) fun x=>?_;rw[h1,List.mem_mergeSort,Zbf];simp only[nz,Zas];constructor
 ·rintro(⟨a,d,e⟩|⟨a,d,e⟩);·exact⟨a,(Qa7 hA f).2 ⟨by simp[d],.inl d⟩,e⟩
  exact⟨a,(Qa7 hA f).2 ⟨by simp[d],.inr d⟩,e⟩
 rintro⟨a,d,e⟩;rcases((Qa7 hA f).1 d).2 with h|h;·exact .inl ⟨a,h,e⟩
 exact .inr ⟨a,h,e⟩
theorem call183:Callable Tryz.prog 183:=⟨_,Tryz.func183,by kernel_rfl,by kernel_rfl⟩
theorem call184:Callable Tryz.prog 184:=⟨_,Tryz.func184,by kernel_rfl,by kernel_rfl⟩
theorem sort183(l c:List Int)(m:Nat)(hm:l.length=m)(g:m<=1000000)(f:(l.mergeSort fun x y=>decide (x<=y))=c){h:Heap}{b γ:Nat}(d:h.get b=some (.cells γ (ints l)))(a:b<1099511627775):HSpec Tryz.prog 183 [.sl b γ 0 m 1] h (.tup []) (h.set b (.cells γ (ints c))):=by subst hm;subst f;exact HSpec.sortI (f:=183) Tryz.sortI rfl call183 l (by omega) d a
theorem compact184(l c:List Int)(m:Nat)(hm:l.length=m)(g:m<=1000000)(d:Lib.compact l=c)(hle:c.length<=m){h:Heap}{b γ:Nat}(f:h.get b=some (.cells γ (ints l)))(a:b<1099511627775):HSpec Tryz.prog 184 [.sl b γ 0 m 1] h (.sl b γ 0 c.length 1) (h.set b (.cells γ (ints (c++List.replicate (m-c.length) 0)))):=by subst hm;subst d;exact HSpec.compactI (f:=184) Tryz.compactI rfl call184 l (by omega) f a hle
theorem QqC{k:Bool->Bool->Bool}{A B:List Nat}:(mrg k A B).length<=A.length+B.length:=by fun_induction mrg k A B<;>simp only[Zai,ZaB,ZaO,apply_ite List.length]at*<;>(repeat' split)<;>omega
theorem union90(A B:List Nat)(hA:A.Pairwise (·<·))(j:B.Pairwise (·<·))(l:A.length<=1000)(m:B.length<=1000):PSpec Tryz.prog 90 [sliN A,sliN B] (sliN (mrg (fun a b=>a||b) A B)):=by
 refine Zb2 64 TU.ok90 rfl (by simp only[noRefs,noRef,Qaa];rfl) (Qab _) ?_;have h:=clone56 A (by omega);have k:=Qmy hA j;have c:(ints (nz B)).all AV.one=true:=by simp[ints,AV.one]
 have d:(ints (nz A)).length=A.length:=by simp[ints]
 have g:(ints (nz B)).length=B.length:=by simp[ints]
 have i:ints (nz A)++ints (nz B)=ints (nz A++nz B):=by simp[ints]
 have f:=@QqC (fun a b=>a||b) A B;unfold TU.s90;refine Zcx ?_;refine ch (HSpec.of_O (b:=83) (by(try simp only[noRefs,Qaa,noRef,noRefs,Zak,Zac])<;>rfl) h (by repeat(first|exact Fresh.e|exact Fresh.le (by assumption) (by omega)|refine Fresh.set ?_ (by omega) (by omega))) rfl) ?_;refine Zcy (ZcB c d g i) ?_;refine ch (sort183 (nz A++nz B) _ _ (by simp) (by omega) rfl gg (by omega)) ?_;refine Zcx ?_;refine ch (compact184 _ _ _ (by simp) (by omega) k (by simpa using f) gg (by omega)) ?_;refine Zcx ?_;refine⟨.inr trivial,_,rfl,?_⟩;have e:(ints (nz (mrg (fun a b=>a||b) A B)++List.replicate (A.length+B.length-(mrg (fun a b=>a||b) A B).length) 0)).take ((mrg (fun a b=>a||b) A B).length*1)=ints (nz (mrg (fun a b=>a||b) A B)):=by unfold ints;rw[ZaQ,Zby (by simp),ZaD (by simp)]
 refine Rn.frz (b:=83) (g:=1) (ds:=ints (nz (mrg (fun a b=>a||b) A B)++List.replicate (A.length+B.length-(mrg (fun a b=>a||b) A B).length) 0)) gg (Zah _) (fun o n _ e=>by simp[π0]at e) (by simp[ints]) ?_;rw[Za2,e];exact Zb1 (Qaa _)
end Go.AM.SO
namespace Go.AM.SO
open Go.Proofs Go.AM.SD Go.AM.SE
theorem conds30X(c:CelN)(n:c.cs.length<=1000):PSpec Tryz.prog 30 [celZ c] (cdZ (szZ c) c.xs c.ks):=by
 have o:=QbL c;refine Zb2 64 TP.ok30 rfl (QeT c) (by rw[noRef];exact QbX) ?_;have m:=QdH c.cs;have b:(szZ c).length=c.cs.length:=by simp[szZ]
 unfold TP.s30;refine Zcx ?_;refine Qaj 100 (fun i:Nat=>[(2,.ptr 51 0 0),(3,.ptr 52 0 0),(12,itsV c.cs),(13,.int .i64 c.cs.length),(14,.int .i64 i)]) (fun i=>[(51,.cells 0 [.nilsl,.nilsl,.nilsl]),(52,.cells 0 [.sl 76 0 0 ((szZ c).take i).length 1,exsZ c.xs,cosZ c.ks]),(76,.cells 0 (ints ((szZ c).take i)))]) (fun i=>i<=c.cs.length) (fun i=>c.cs.length-i) 0 0 160 (fun _:Unit=>[(2,.ptr 51 0 0),(3,.ptr 52 0 0)]) (fun _=>[(51,.cells 0 [.nilsl,.nilsl,.nilsl]),(52,.cells 0 [sli (szZ c),exsZ c.xs,cosZ c.ks])]) (fun _=>True) ⟨[(51,.blk 65 0),(52,.blk 71 0),(76,.nil)],rfl,au0,?_,au22⟩ (Zah _) ?_ ?_;·exact Zca rfl rfl gg (Zb1 rfl) (Zca rfl rfl gg (Zcg (Rn.x4 rfl rfl) (Zcg (Zb0 (Qbu _)) (Zcg (Zb0 (Qci _)) Zcf))) (Zcb rfl rfl Zb9))
 ·rintro i hi;by_cases a:i<c.cs.length
  ·obtain⟨x,l⟩:=Qac a;have g:=Qc6 l;have j:5<=((c.cs.flatMap itV).drop (i*5)).length:=by rw[g];simp
   have k:(szZ c)[i]?=some x.2.n:=by unfold szZ;rw[ZaV,l];rfl
   have d:=take_succ' k;have f:((szZ c).take i).length=i:=by rw[Zar,b];omega
   refine Zcy (ZcB a g j f) ?_;refine⟨i+1,by omega,by omega,?_⟩;rw[d,Zai,QaA,f];refine⟨[(51,.blk 51 0),(52,.blk 52 0),(76,.blk 76 1)],rfl,au0,?_,au22⟩;exact Zca rfl rfl gg (Zb1 rfl) (Zca rfl rfl gg (Zcg (Rn.x1 rfl rfl) (Zcg (Zb0 (Qbu _)) (Zcg (Zb0 (Qci _)) Zcf))) (Zca rfl rfl gg (Zb1 (SU.QaB (Qaa _) rfl)) Zb9))
  have e:i=c.cs.length:=by omega
  subst e;have h:(szZ c).take c.cs.length=szZ c:=by rw[<-b,Zav]
  refine Zcy (Zcz a h) ?_;refine⟨(),?_⟩;refine⟨[(51,.blk 51 0),(52,.blk 52 0)],rfl,au0,?_,au22⟩;exact Zca rfl rfl gg (Zb1 rfl) (Zca rfl rfl gg (Zcg (Zch rfl rfl rfl rfl (by simp[ints]) (Zb1 (Qaa _))) (Zcg (Zb0 (Qbu _)) (Zcg (Zb0 (Qci _)) Zcf))) Zb9)
 rintro _ _;refine Zcx ?_;exact⟨.inr trivial,_,rfl,Zb0 (by rw[noRef];exact QbX)⟩
end Go.AM.SO
namespace Go.AM.SO
open Go.Proofs Go.AM.SD Go.AM.SE
theorem Qkq{A B:List Nat}(hA:A.Pairwise (·<·))(d:B.Pairwise (·<·)):minB A B=!(A.any fun x=>!decide (x∈B)):=by unfold minB;cases h:A.any (fun x=>!decide (x∈B))with|true=>obtain⟨x,c,g⟩:=Zbl.1 h;have hm:x∈mrg (fun a b=>a&&!b) A B:=(Qa7 hA d).2 ⟨by simpa[c]using g,.inl c⟩;exact decide_eq_false fun f=>by rw[Zbh f]at hm;simp at hm|false=>refine decide_eq_true ?_;cases hm:mrg (fun a b=>a&&!b) A B with|nil=>rfl|cons x t=>
 have c:x∈mrg (fun a b=>a&&!b) A B:=by rw[hm];simp
 obtain⟨h1,_⟩:=(Qa7 hA d).1 c;simp only[Zab,decide_eq_true_eq,Za4,decide_eq_false_iff_not]at h1;have:=Zbx.1 h x h1.1;simp[h1.2]at this
theorem QoQ(E:Nat):(List.range E).Pairwise (·<·):=List.pairwise_lt_range
def chE(c:CelN)(i:Nat):Int:=if i<c.cs.length then csE c i else rsE c (i-c.cs.length)
def chB(c:CelN)(i:Nat):List Nat:=if i<c.cs.length then List.range c.ev.length else uZ c.cs
theorem QqD{c:CelN}{i:Nat}{x:Itn}(h:(c.cs++c.rs)[i]?=some x):chE c i=itEr c.ev.length (chB c i) (nmZ ((c.cs++c.rs).take i)) x:=by
 unfold chE chB csE rsE;by_cases hi:i<c.cs.length;·rw[if_pos hi,if_pos hi];rw[Za6 hi]at h;rw[QaM h,Zby (by omega)]
 rw[if_neg hi,if_neg hi];rw[List.getElem?_append_right (by omega)]at h;rw[QaM h,List.take_append,ZaD (l:=c.cs) (by omega)];simp only[nmZ,ZaQ]
theorem Qn7{c:CelN}(z0:evErr c.ev=0)(s:¬c.cs.length=0)(z2:¬(8<c.cs.length\/12<c.cs.length+c.rs.length)):celErr c=if fe (chE c) (c.cs.length+c.rs.length)≠0 then fe (chE c) (c.cs.length+c.rs.length)else cdErr (szZ c) c.xs c.ks:=by
 unfold celErr;rw[if_neg (fun h=>h z0),if_neg s,if_neg z2];by_cases h1:∃i,i<c.cs.length/\csE c i≠0/\∀j,j<i->csE c j=0;·obtain⟨i,hi,he,f⟩:=h1;have o:=fe_at (f:=csE c) (n:=c.cs.length) rfl he f hi;have hc:∀j,j<c.cs.length->chE c j=csE c j:=fun j a=>if_pos a;have m:=fe_at (f:=chE c) (i:=i) (n:=c.cs.length+c.rs.length) (hc i hi) he (fun j a=>by rw[hc j (by omega)];exact f j a) (by omega);rw[o,m,if_pos he,if_pos he]
 have k:∀n,n<=c.cs.length->∀j,j<n->csE c j=0:=fun n=>by induction n with|zero=>intro _ j a;omega|succ n g=>
  intro r;refine fe_up (g (by omega)) ?_;by_cases q:csE c n=0;·exact q
  exact absurd ⟨n,by omega,q,g (by omega)⟩ h1
 have k:=k _ (ZaG _);rw[Qa6 k,if_neg (fun h=>h rfl)];have d:∀j,j<c.cs.length->chE c j=0:=fun j a=>by rw[chE,if_pos a];exact k j a
 have b:∀j,chE c (c.cs.length+j)=rsE c j:=fun j=>by rw[chE,if_neg (by omega),Nat.add_sub_cancel_left]
 by_cases p:∃i,i<c.rs.length/\rsE c i≠0/\∀j,j<i->rsE c j=0;·obtain⟨i,hi,he,f⟩:=p;have o:=fe_at (f:=rsE c) (n:=c.rs.length) rfl he f hi;have m:=fe_at (f:=chE c) (i:=c.cs.length+i) (n:=c.cs.length+c.rs.length) (b i) he (fun j a=>by
  by_cases q:j<c.cs.length;·exact d j q
  have :=f (j-c.cs.length) (by omega);rw[<-b]at this;rwa[show c.cs.length+(j-c.cs.length)=j by omega]at this) (by omega);rw[o,m]
 have l:∀n,n<=c.rs.length->∀j,j<n->rsE c j=0:=fun n=>by induction n with|zero=>intro _ j a;omega|succ n g=>
  intro r;refine fe_up (g (by omega)) ?_;by_cases q:rsE c n=0;·exact q
  exact absurd ⟨n,by omega,q,g (by omega)⟩ p
 have l:=l _ (ZaG _);rw[Qa6 l,if_neg (fun h=>h rfl),Qa6 (fun j a=>?_),if_neg (fun h=>h rfl)];by_cases q:j<c.cs.length;·exact d j q
 have :=l (j-c.cs.length) (by omega);rw[<-b]at this;rwa[show c.cs.length+(j-c.cs.length)=j by omega]at this
theorem check56(c:CelN)(h:CelOk c):PSpec Tryz.prog 56 [celZ c] (.int .i64 (celErr c)):=by
 have g:=QbL c;refine Zb3 64 TT.ok56 rfl (QeT c) rfl ?_;have u:=check82X c.ev h.el h.en;have h3:=h.cl;have h2:=h.rl;have hdL:=conds30X c h.cl;have hdC:=conds32X (szZ c) c.xs c.ks (by simp[szZ];omega) h.xl h.kl h.xi h.ki;have hI:=items43Z c h.cl h.rl;by_cases z0:¬evErr c.ev=0
 ·have e:celErr c=evErr c.ev:=by unfold celErr;rw[if_pos z0]
  rw[e];unfold TT.s56;refine Zcx ?_;refine cp u ?_;refine Zcy z0 ?_;exact⟨.inr trivial,_,rfl,rfl⟩
 replace z0:evErr c.ev=0:=Decidable.not_not.1 z0;rw[z0]at u;have hE32:=QiF z0;by_cases N:c.cs.length=0
 ·have e:celErr c=12:=by unfold celErr;rw[if_neg (fun h=>h z0),if_pos N]
  have g1:(c.cs.length:Int)=0:=by omega
  rw[e];unfold TT.s56;refine Zcx ?_;refine cp u ?_;refine Zcy g1 ?_;exact⟨.inr trivial,_,rfl,rfl⟩
 have g1:¬(c.cs.length:Int)=0:=by omega
 by_cases z2:8<c.cs.length
 ·have e:celErr c=3:=by unfold celErr;rw[if_neg (fun h=>h z0),if_neg N,if_pos (.inl z2)]
  have g2:(8:Int)<(c.cs.length:Int):=by omega
  rw[e];unfold TT.s56;refine Zcx ?_;refine cp u ?_;refine Zcy (Zcz g1 g2) ?_;exact⟨.inr trivial,_,rfl,rfl⟩
 have g2:¬(8:Int)<(c.cs.length:Int):=by omega
 by_cases z3:12<c.cs.length+c.rs.length
 ·have e:celErr c=3:=by unfold celErr;rw[if_neg (fun h=>h z0),if_neg N,if_pos (.inr z3)]
  have g3:(12:Int)<(c.cs.length:Int)+(c.rs.length:Int):=by omega
  rw[e];unfold TT.s56;refine Zcx ?_;refine cp u ?_;refine Zcy (ZcA g1 g2 g3) ?_;exact⟨.inr trivial,_,rfl,rfl⟩
 have g3:¬(12:Int)<(c.cs.length:Int)+(c.rs.length:Int):=by omega
 rw[Qn7 z0 N (by omega)];have F:∀x∈c.cs++c.rs,ItOk x:=fun x f=>(Zbf.1 f).elim (h.ci x) (h.ri x);have v:=@QqD c;have E:∀i,i<c.cs.length->(c.cs++c.rs)[i]?=c.cs[i]?:=fun i hi=>Za6 hi;have S:(c.cs++c.rs).length=c.cs.length+c.rs.length:=Zai;rw[<-S];generalize c.cs++c.rs=L at*;obtain⟨R,P⟩:∃R,R=if fe (chE c) L.length≠0 then fe (chE c) L.length else cdErr (szZ c) c.xs c.ks:=⟨_,rfl⟩;rw[<-P];have hnL:=Qbt L;have n:∀i,(∀j,j<i->chE c j=0)->∀x∈c.cs.take i,au (natA x.2)=x.2/\WfG (natA x.2):=fun i k x f=>by
  obtain⟨j,Z,rfl⟩:=ZaX f;rw[Zar]at Z;have hjc:c.cs[j]?=some (c.cs.take i)[j]:=by rw[List.getElem_take];exact Zad (by omega)
  have h1:=k j (by omega);have B:=(E j (by omega)).trans hjc;rw[v B]at h1;exact(Qd9 (F _ (Zae B)) h1).2
 have hU:∀i,(∀j,j<i->chE c j=0)->(uZ (c.cs.take i)).length<=32/\(uZ (c.cs.take i)).Pairwise (·<·):=fun i k=>have hw:∀x∈c.cs.take i,(natA x.2).al.Pairwise (·<·)/\∀e∈(natA x.2).al,e<32:=fun x f=>⟨(n i k x f).2.al,(n i k x f).2.al5⟩
  ⟨Qn4 hw,(Qkn (l:=c.cs.take i) (out:=[]) (by simp) (by simp) hw).1⟩;unfold TT.s56;refine Zcx ?_;refine cp u ?_;refine Zcy (ZcA g1 g2 g3) ?_;refine cp hI ?_;refine Zcx ?_;refine Qaj 240 (fun i:Nat=>[(1,.ptr 50 0 0),(4,itsV L),(5,.ptr 53 0 0),(35,itsV L),(36,.int .i64 L.length),(37,.int .i64 i)]) (fun i=>[(50,.cells 0 [evns c.ev,itsV c.cs,itsV c.rs,exsZ c.xs,cosZ c.ks]),(53,.cells 0 [sliN (uZ (c.cs.take i))])]) (fun i=>i<=L.length/\∀j,j<i->chE c j=0) (fun i=>L.length-i) 0 0 440 (fun _:Unit=>[(1,.ptr 50 0 0)]) (fun _=>[(50,.cells 0 [evns c.ev,itsV c.cs,itsV c.rs,exsZ c.xs,cosZ c.ks])]) (fun _=>R=cdErr (szZ c) c.xs c.ks) ?_ ⟨Zah _,fun j Z=>absurd Z (Zaw _)⟩ ?_ ?_;·refine⟨[(50,.blk 64 0),(53,.blk 93 0)],rfl,au0,?_,au22⟩;exact Zca rfl rfl gg (Zb1 g) (Zca rfl rfl gg (Zcg Rn.nilK Zcf) Zb9)
 ·rintro i⟨hi,k⟩;by_cases d:i<L.length
  ·obtain⟨x,f⟩:=Qac d;have U:=Zae f;have q:=Qc6 f;have J:5<=((L.flatMap itV).drop (i*5)).length:=by rw[q];simp
   have X:=v f;have hO:=F x U;have M:=name135 x.1 hO.nm;have fin:∀e,chE c i=e->e≠0->e=R:=fun e q1 q2=>by rw[P,fe_at q1 q2 k d,if_pos q2]
   have hin:(0:Int)<=i/\(i:Int)<=L.length:=by omega
   have Q:(i:Int)<=L.length:=by omega
   cases ho:nmOk x.1 with|false=>rw[ho]at M;refine Zcy (ZcA d q J) ?_;refine cp M ?_;refine Zcx ?_;exact⟨.inr trivial,_,rfl,congrArg (AV.int .i64) (fin 7 (X.trans (Qkf ho).1) (by decide))⟩|true=>
   rw[ho]at M;refine Zcy (ZcA d q J) ?_;refine cp M ?_;refine Zcy Q ?_;have H:=contains136 (K:=137) (cap:=[.fptr (itV x)]) (fun y=>decide (y.1=x.1)) (L.take i) (by rw[Zar];have:=h.cl;have:=h.rl;omega) (by rw[noRefs,noRef,Qdv];rfl) (fun y _=>same137 x y);have e1:itsV (L.take i)=.fsl ((L.flatMap itV).take (i*5)) i 5:=by rw[itsV,Zar,Nat.min_eq_left hi,<-Qdw (f:=itV) (k:=5) (fun _=>rfl)]
   rw[e1]at H;have m:(L.take i).any (fun y=>decide (y.1=x.1))=true↔x.1∈nmZ (L.take i):=by simp only[Zbl,decide_eq_true_eq,nmZ,Zas]
   refine SU.chc (Zcj (Zcl (Zb4 _) (Zcl (FrzTo.fn Zck (Zcl (Zci (g:=0) (cs:=itV x) gg (Zb5 _)) Zck)) Zck)) H rfl) ?_;cases hq:(L.take i).any (fun y=>decide (y.1=x.1))with|true=>refine Zcx ?_;exact⟨.inr trivial,_,rfl,congrArg (AV.int .i64) (fin 8 (X.trans (Qkg ho (m.1 hq)).1) (by decide))⟩|false=>
   have a:=X.trans (Qkh (E:=c.ev.length) (B:=chB c i) ho (fun hm=>by rw[m.2 hm]at hq;cases hq)).1;unfold itE2 at a;have T:=check37X x.2 hO.al hO.ms (by have:=hO.es;omega);have hI:=isCanon60X x.2 hO.al hO.ms hO.es hO.n;by_cases t:auErr x.2=0;·obtain⟨ea,hw⟩:=QeS t hO.n;rw[if_neg (fun h=>h t)]at a;rw[t]at T;refine Zcx ?_;refine cp T ?_;refine Zcx ?_;refine cp hI ?_;cases hc:caB x.2 with|false=>refine Zcx ?_;exact⟨.inr trivial,_,rfl,congrArg (AV.int .i64) (fin 6 (a.trans (if_pos hc)) (by decide))⟩|true=>
    rw[if_neg (by rw[hc];decide)]at a;by_cases K:x.2.n=0;·refine Zcy K ?_;exact⟨.inr trivial,_,rfl,congrArg (AV.int .i64) (fin 12 (a.trans (if_pos K)) (by decide))⟩
    rw[if_neg K]at a;have hal:=Qbf hw.al hw.al5;have p:sli x.2.al=sliN (natA x.2).al:=by rw[<-QaO];exact congrArg (fun b=>sli b.al) ea.symm
    have I:=contains36 (K:=138) (cap:=[.fptr [evns c.ev,itsV c.cs,itsV c.rs,exsZ c.xs,cosZ c.ks]]) (fun x=>decide ((c.ev.length:Int)<=(x:Int))) (natA x.2).al (by omega) (by rw[noRefs,noRef,g];rfl) (fun x _=>ge138 c x);rw[<-p]at I;refine Zcy K ?_;refine SU.chc (Zcj (Zcl (Zb4 _) (Zcl (FrzTo.fn Zck (Zcl (Zci (g:=0) (cs:=[evns c.ev,itsV c.cs,itsV c.rs,exsZ c.xs,cosZ c.ks]) gg (Zb5 _)) Zck)) Zck)) I rfl) ?_;cases l:(natA x.2).al.any (fun x=>decide ((c.ev.length:Int)<=(x:Int)))with|true=>refine Zcx ?_;exact⟨.inr trivial,_,rfl,congrArg (AV.int .i64) (fin 2 (a.trans (if_pos l)) (by decide))⟩|false=>
    rw[if_neg (by rw[l];decide)]at a;have V:=(hU i k).1;have o:=(hU i k).2;by_cases s:i<c.cs.length
    ·have r:(i:Int)<c.cs.length:=by omega
     have hxc:c.cs[i]?=some x:=(E i s).symm.trans f;have C:=union90 (uZ (c.cs.take i)) (natA x.2).al o hw.al (by omega) (by omega);rw[<-QlT hxc,<-p]at C;have O:minB (natA x.2).al (chB c i)=true:=by
      rw[chB,if_pos s,Qkq hw.al (QoQ _)];have:(natA x.2).al.any (fun x=>!decide (x∈List.range c.ev.length))=false:=by rw[Zbx]at l⊢;intro y hy;have:=l y hy;simp only[decide_eq_true_eq]at this;simp only[ZaT,Za4,decide_eq_false_iff_not];omega
      rw[this];rfl
     rw[if_neg (by rw[O];decide)]at a;refine Zcy r ?_;refine cp C ?_;refine Zcx ?_;refine⟨i+1,by omega,⟨by omega,fe_up k a⟩,?_⟩;refine⟨[(50,.blk 50 0),(53,.blk 53 0)],rfl,au0,?_,au22⟩;exact Zca rfl rfl gg (Zb1 g) (Zca rfl rfl gg (Zb1 (by simp only[noRefs,noRef,Qaa];rfl)) Zb9)
    have r:¬(i:Int)<c.cs.length:=by omega
    have G:c.cs.take i=c.cs:=ZaD (by omega);have w:c.cs.take (i+1)=c.cs:=ZaD (by omega);rw[G]at V o;have z:=contains36 (K:=139) (cap:=[.fptr [sliN (uZ c.cs)]]) (fun x=>!decide (x∈uZ c.cs)) (natA x.2).al (by omega) (by simp only[noRefs,noRef,Qaa];rfl) (fun x _=>not139 (uZ c.cs) x (by omega));rw[<-p]at z;have O:minB (natA x.2).al (chB c i)=!((natA x.2).al.any fun x=>!decide (x∈uZ c.cs)):=by rw[chB,if_neg s,Qkq hw.al o]
    refine Zcy (Zcz r G) ?_;refine SU.chc (Zcj (Zcl (Zb4 _) (Zcl (FrzTo.fn Zck (Zcl (Zci (g:=0) (cs:=[sliN (uZ c.cs)]) gg (Zb5 _)) Zck)) Zck)) z rfl) ?_;cases A:(natA x.2).al.any (fun x=>!decide (x∈uZ c.cs))with|true=>rw[if_pos (by rw[O,A];rfl)]at a;refine Zcx ?_;exact⟨.inr trivial,_,rfl,congrArg (AV.int .i64) (fin 9 a (by decide))⟩|false=>rw[if_neg (by rw[O,A];decide)]at a;refine Zcx ?_;refine⟨i+1,by omega,⟨by omega,fe_up k a⟩,?_⟩;rw[w];refine⟨[(50,.blk 50 0),(53,.blk 53 0)],rfl,au0,?_,au22⟩;exact Zca rfl rfl gg (Zb1 g) (Zca rfl rfl gg (Zb1 (by simp only[noRefs,noRef,Qaa];rfl)) Zb9)
   refine Zcx ?_;refine cp T ?_;refine Zcy t ?_;exact⟨.inr trivial,_,rfl,congrArg (AV.int .i64) (fin _ (a.trans (if_pos t)) t)⟩
  have e:i=L.length:=by omega
  subst e;refine Zcy d ?_;refine⟨(),by rw[P,Qa6 k];rfl,?_⟩;refine⟨[(50,.blk 50 0)],rfl,au0,?_,au22⟩;exact Zca rfl rfl gg (Zb1 g) Zb9
 rintro _ Y;refine Zcx ?_;refine cp hdL ?_;refine Zcx ?_;refine cp hdC ?_;refine Zcx ?_;exact⟨.inr trivial,_,rfl,by rw[Y];rfl⟩
end Go.AM.SO
namespace Go.AM.SO
open Go.Proofs Go.AM.SD Go.AM.SE
def evnOf(i:Nat)(e:Evt):Evn:=⟨[UInt8.ofNat (97+i)],e.c,e.o,e.f,e.flt⟩
def itOf(ch:UInt8)(x:Nat×Aut):Itn:=([ch,UInt8.ofNat (48+x.1)],au x.2)
def exOf(x:Nat×List (Nat×Nat)):Exn:=([101,UInt8.ofNat (48+x.1)],x.2.map fun l=>((l.1:Int),(l.2:Int)))
def coOf(x:List (Nat×Int)×Int):Con:=([107],x.1.map (fun t=>((t.1:Int),t.2)),x.2)
def toN(c:Cel):CelN:=⟨[evnOf 0 (c.ev 0),evnOf 1 (c.ev 1),evnOf 2 (c.ev 2),evnOf 3 (c.ev 3),evnOf 4 (c.ev 4)],c.cs.map (itOf 99),c.rs.map (itOf 114),c.xs.map exOf,c.ks.map coOf⟩
theorem QpD(l:List (Nat×Nat)):los l=prs (l.map fun l=>((l.1:Int),(l.2:Int))):=by rw[los,prs,ZbC,Zal];rfl
theorem QpE(l:List (Nat×Int)):tes l=prs (l.map fun t=>((t.1:Int),t.2)):=by rw[tes,prs,ZbC,Zal];rfl
theorem its_Z(ch:UInt8)(l:List (Nat×Aut)):its ch l=itsV (l.map (itOf ch)):=by rw[its,itsV,ZbC,Zal];congr 2;funext x;simp only[itC,itV,itOf,au,<-QaO,<-Qlz]
theorem exs_Z(l:List (Nat×List (Nat×Nat))):exs l=exsZ (l.map exOf):=by rw[exs,exsZ,ZbC,Zal];congr 2;funext x;rw[exC,exZ,exOf,QpD]
theorem cos_Z(l:List (List (Nat×Int)×Int)):cos l=cosZ (l.map coOf):=by rw[cos,cosZ,ZbC,Zal];congr 2;funext x;rw[coC,coZ,coOf,QpE]
theorem Qkr(c:Cel):celV c=celZ (toN c):=by rw[celV,celZ,its_Z,its_Z,exs_Z,cos_Z];rfl
theorem pk_le{α:Type}(P:List Nat)(l:List α):(pk P l).length<=P.length:=Zbu ..
theorem QlU{ch:UInt8}{x:Nat×Aut}(h:WfI x.2):ItOk (itOf ch x):=by
 obtain⟨b,b2,a⟩:=Qfu h;have:=h.n3;refine⟨by simp[itOf],?_,?_,?_,?_⟩;·show(nz x.2.al).length<=_;rw[Zal];omega
 ·show(nz x.2.ms).length<=_;rw[Zal];omega
 ·show(x.2.es.map eg).length<=_;rw[Zal];omega
 show(x.2.n:Int)<=_;omega
theorem QlV(c:Cel)(h:WfCel c)(P1 P2 P3 P4:List Nat)(i:P1.length<=4)(g:P2.length<=4)(f:P3.length<=4)(j:P4.length<=4):CelOk (toN (selC c P1 P2 P3 P4)):=by
 refine⟨by show 5<=_;decide,fun x a=>?_,?_,?_,?_,?_,fun x a=>?_,fun x a=>?_,fun x a=>?_,fun x a=>?_⟩
 ·have :x=evnOf 0 (c.ev 0)\/x=evnOf 1 (c.ev 1)\/x=evnOf 2 (c.ev 2)\/x=evnOf 3 (c.ev 3)\/x=evnOf 4 (c.ev 4):=by simpa[toN,selC]using a
  rcases this with rfl|rfl|rfl|rfl|rfl<;>exact(by decide:1<=9223372036854775807)
 ·show((pk P1 c.cs).map _).length<=_;rw[Zal];have:=pk_le P1 c.cs;omega
 ·show((pk P2 c.rs).map _).length<=_;rw[Zal];have:=pk_le P2 c.rs;omega
 ·show(((pk P3 c.xs).map _).map _).length<=_;rw[Zal,Zal];have:=pk_le P3 c.xs;omega
 ·show(((pk P4 c.ks).map _).map _).length<=_;rw[Zal,Zal];have:=pk_le P4 c.ks;omega
 ·obtain⟨y,b,rfl⟩:=Zas.1 a;exact QlU (h.ca y (Qcm b))
 ·obtain⟨y,b,rfl⟩:=Zas.1 a;exact QlU (h.ra y (Qcm b))
 ·obtain⟨y,b,rfl⟩:=Zas.1 a;obtain⟨z,d,rfl⟩:=Zas.1 b;have:=h.xlen (Qcm d);refine⟨by simp[exOf],?_⟩;show(((z.2.map _).map _).length<=_);rw[Zal,Zal];omega
 obtain⟨y,b,rfl⟩:=Zas.1 a;obtain⟨z,d,rfl⟩:=Zas.1 b;have:=h.klen (Qcm d);refine⟨by simp[coOf],?_⟩;show(((z.1.map _).map _).length<=_);rw[Zal,Zal];omega
def selErr(c:Cel)(P1 P2 P3 P4:List Nat):Int:=celErr (toN (selC c P1 P2 P3 P4))
def selR(c:Cel)(P1 P2 P3 P4:List Nat):AV:=if selM c P1 P3 P4=true then .tup [celN0,.int .i64 13]else if selErr c P1 P2 P3 P4≠0 then .tup [celN0,.int .i64 (selErr c P1 P2 P3 P4)]else .tup [celV (selC c P1 P2 P3 P4),.int .i64 0]
theorem select57R(c:Cel)(h:WfCel c)(P1 P2 P3 P4:List Nat)(s1:setErr (nz P1) c.cs.length=0)(s2:setErr (nz P2) c.rs.length=0)(i:setErr (nz P3) c.xs.length=0)(g:setErr (nz P4) c.ks.length=0)(b:P1.length<=4)(a:P2.length<=4)(d:P3.length<=4)(f:P4.length<=4):PSpec Tryz.prog 57 [celV c,.agg [sliN P1,sliN P2,sliN P3,sliN P4]] (selR c P1 P2 P3 P4):=select57 c h P1 P2 P3 P4 _ s1 s2 i g b a d f fun _=>by rw[Qkr];exact check21X _ (QlV c h P1 P2 P3 P4 b a d f)
theorem selected58R(c:Cel)(h:WfCel c)(P1 P2 P3 P4:List Nat)(s1:setErr (nz P1) c.cs.length=0)(s2:setErr (nz P2) c.rs.length=0)(i:setErr (nz P3) c.xs.length=0)(g:setErr (nz P4) c.ks.length=0)(b:P1.length<=4)(a:P2.length<=4)(d:P3.length<=4)(f:P4.length<=4):PSpec Tryz.prog 58 [celV c,.agg [sliN P1,sliN P2,sliN P3,sliN P4]] (selR c P1 P2 P3 P4):=selected58 c h P1 P2 P3 P4 _ s1 s2 i g b a d f fun _=>by rw[Qkr];exact check56 _ (QlV c h P1 P2 P3 P4 b a d f)
end Go.AM.SO
namespace Go.AM.SO
open Go.Proofs Go.AM.SD Go.AM.SE
theorem _root_.Go.AM.Zcp{p q:Prop}(k:q)(h:p=q:=by conv=>lhs;simp(disch:=first|omega|exact PairsOK.mk rfl|(simp only[lenW]<;>omega))only[Zac,Zao,Zag,Zam,wW,wV,simprocAttr]):p:=h▸k
theorem _root_.Go.AM.Zcq{p q A:Prop}(a:A)(k:q)(h:A->p=q:=by intro a;conv=>lhs;simp(disch:=first|omega|exact PairsOK.mk rfl|(simp only[lenW]<;>omega))only[a,Zac,Zao,Zag,Zam,wW,wV,simprocAttr]):p:=h a▸k
def eqL{α:Type}(e:α->α->Bool)(a b:List α):Bool:=decide (a.length=b.length)&&(List.range a.length).all fun i=>match a[i]?,b[i]? with|some x,some y=>e x y|_,_=>true
theorem QdI{α:Type}{e:α->α->Bool}{a b:List α}(h:¬a.length=b.length):eqL e a b=false:=by unfold eqL;simp[h]
theorem Qcv{α:Type}{e:α->α->Bool}{a b:List α}(c:a.length=b.length)(h:∀(j:Nat)x y,a[j]?=some x->b[j]?=some y->e x y=true):eqL e a b=true:=by
 unfold eqL;rw[Zab,decide_eq_true_eq,ZaC];refine⟨c,fun i _=>?_⟩;split;·rename_i x y f d;exact h i x y f d
 rfl
theorem QcJ{α:Type}{e:α->α->Bool}{a b:List α}{i:Nat}{x y:α}(c:a[i]?=some x)(d:b[i]?=some y)(he:e x y=false):eqL e a b=false:=by
 have hi:i<a.length:=by
  rcases Zbd i a.length with h|h;·exact h
  rw[ZaA h]at c;cases c
 unfold eqL;rw[Bool.and_eq_false_iff];right;rw[List.all_eq_false];exact⟨i,ZaT.2 hi,by rw[c,d];simp[he]⟩
theorem Qcw{α:Type}{e:α->α->Bool}{a:List α}(h:∀x∈a,e x x=true):eqL e a a=true:=Qcv rfl fun j x y b c=>by rw[b]at c;cases c;exact h x (Zae b)
def itN(x:List UInt8×Aut):List AV:=[.str x.1,sliN x.2.al,.int .i64 (x.2.n:Int),sliN x.2.ms,egsN x.2.es]
abbrev itNV(x:List UInt8×Aut):AV:=.agg [.str x.1,sliN x.2.al,.int .i64 (x.2.n:Int),sliN x.2.ms,egsN x.2.es]
abbrev itsN(l:List (List UInt8×Aut)):AV:=.fsl (l.flatMap itN) l.length 5
def nmL'(ch:UInt8)(l:List (Nat×Aut)):List (List UInt8×Aut):=l.map fun x=>([ch,UInt8.ofNat (48+x.1)],x.2)
theorem Qn8{ch:UInt8}{l:List (Nat×Aut)}:its ch l=itsN (nmL' ch l):=by
 unfold nmL';have:(l.map fun x=>([ch,UInt8.ofNat (48+x.1)],x.2)).flatMap itN=l.flatMap (itC ch):=by rw[ZbC];rfl
 rw[itsN,this,Zal]
theorem Qea(l:List (List UInt8×Aut)):noRefs (l.flatMap itN)=true:=QaJ (fun x=>by simp only[itN,noRefs,noRef,Qaa,Qad];rfl) l
theorem Qn9(l:List (List UInt8×Aut)):(l.flatMap itN).length=l.length*5:=Qa8 (k:=5) (fun _=>rfl) l
theorem QlW{l:List (List UInt8×Aut)}{i:Nat}{x:List UInt8×Aut}(h:l[i]?=some x):(l.flatMap itN).drop (i*5)=.str x.1::sliN x.2.al::.int .i64 (x.2.n:Int)::sliN x.2.ms::egsN x.2.es::(l.drop (i+1)).flatMap itN:=QaY (f:=itN) (k:=5) (fun _=>rfl) h
def evl(e:Nat->Evt):List (List UInt8×Evt):=(List.range 5).map fun i=>([UInt8.ofNat (97+i)],e i)
def evN(x:List UInt8×Evt):List AV:=[.str x.1,.bool x.2.c,.bool x.2.o,.bool x.2.f,.int .i64 (x.2.flt:Int)]
abbrev evNV(x:List UInt8×Evt):AV:=.agg [.str x.1,.bool x.2.c,.bool x.2.o,.bool x.2.f,.int .i64 (x.2.flt:Int)]
abbrev evsN(l:List (List UInt8×Evt)):AV:=.fsl (l.flatMap evN) l.length 5
theorem QlX(e:Nat->Evt):evsV e=evsN (evl e):=rfl
theorem Qdx(l:List (List UInt8×Evt)):noRefs (l.flatMap evN)=true:=QaJ (fun x=>rfl) l
theorem QlY(l:List (List UInt8×Evt)):(l.flatMap evN).length=l.length*5:=Qa8 (k:=5) (fun _=>rfl) l
theorem Qks{l:List (List UInt8×Evt)}{i:Nat}{x:List UInt8×Evt}(h:l[i]?=some x):(l.flatMap evN).drop (i*5)=.str x.1::.bool x.2.c::.bool x.2.o::.bool x.2.f::.int .i64 (x.2.flt:Int)::(l.drop (i+1)).flatMap evN:=QaY (f:=evN) (k:=5) (fun _=>rfl) h
def evE(x y:List UInt8×Evt):Bool:=decide (x.1=y.1)&&(decide (x.2.c=y.2.c)&&(decide (x.2.o=y.2.o)&&(decide (x.2.f=y.2.f)&&decide (x.2.flt=y.2.flt))))
def itE(x y:List UInt8×Aut):Bool:=decide (x.1=y.1)&&autB x.2 y.2
def loE(x y:Nat×Nat):Bool:=decide (x=y)
def teE(x y:Nat×Int):Bool:=decide (x=y)
def exE(x y:Nat×List (Nat×Nat)):Bool:=decide (([101,UInt8.ofNat (48+x.1)]:List UInt8)=[101,UInt8.ofNat (48+y.1)])&&eqL loE x.2 y.2
def coE(x y:List (Nat×Int)×Int):Bool:=decide (x.2=y.2)&&eqL teE x.1 y.1
theorem QpF(x y:List UInt8×Evt):aEq (.flat true [.s,.b,.b,.b,.i]) true (evNV x) (evNV y)=some (.bool (!evE x y)):=by have:∀n m:Nat,decide ((n:Int)=(m:Int))=decide (n=m):=fun n m=>decide_eq_decide.2 (by omega);simp only[aEq,eqCells,eqCell,if_true,this];unfold evE;cases decide (x.1=y.1)<;>cases decide (x.2.c=y.2.c)<;>cases decide (x.2.o=y.2.o)<;>cases decide (x.2.f=y.2.f)<;>cases decide (x.2.flt=y.2.flt)<;>rfl
theorem QqE(x y:Nat×Nat):aEq (.flat true [.i,.i]) true (.agg [.int .i64 (x.1:Int),.int .i64 (x.2:Int)]) (.agg [.int .i64 (y.1:Int),.int .i64 (y.2:Int)])=some (.bool (!loE x y)):=by unfold loE;have:∀n m:Nat,decide ((n:Int)=(m:Int))=decide (n=m):=fun n m=>decide_eq_decide.2 (by omega);obtain⟨a,b⟩:=x;obtain⟨c,d⟩:=y;simp only[aEq,eqCells,eqCell,if_true];simp only[Zaf,Bool.decide_and,this];cases decide (a=c)<;>cases decide (b=d)<;>rfl
theorem QqF(x y:Nat×Int):aEq (.flat true [.i,.i]) true (.agg [.int .i64 (x.1:Int),.int .i64 x.2]) (.agg [.int .i64 (y.1:Int),.int .i64 y.2])=some (.bool (!teE x y)):=by unfold teE;have:∀n m:Nat,decide ((n:Int)=(m:Int))=decide (n=m):=fun n m=>decide_eq_decide.2 (by omega);obtain⟨a,b⟩:=x;obtain⟨c,d⟩:=y;simp only[aEq,eqCells,eqCell,if_true];simp only[Zaf,Bool.decide_and,this];cases decide (a=c)<;>cases decide (b=d)<;>rfl
theorem _root_.Go.AM.au25{p:Prop}(h:p:=by repeat'(first|exact Zb9|(refine Zb1 ?_;first|rfl|(simp only[noRef,noRefs,Qah,Zak,Zac,Zag,Qaa,Qam,Qab,SU.QaD,SU.Qat,SU.Qaf,SU.Qar,SU.QaI,Qea,Qdx];done))|exact RnM.keyM rfl|exact Zcf|exact(True.intro:RnM _ _ _ [] [])|refine Zcg ?_ ?_|(refine Zb0 ?_;first|rfl|(simp only[noRef,noRefs,Qah,Zak,Zac,Zag,Qaa,Qam,Qab,SU.QaD,SU.Qat,SU.Qaf,SU.Qar,SU.QaI,Qea,Qdx];done))|exact Rn.x1 rfl rfl|exact Rn.x2 rfl rfl|exact Rn.x3 rfl rfl|exact Rn.x4 rfl rfl|exact Rn.x5 rfl|exact Rn.x6 rfl|exact Rn.x7 rfl|refine Zcb rfl rfl ?_|refine Zca rfl rfl rfl ?_ ?_|refine Zcc rfl rfl rfl ?_ ?_|refine Zcd rfl rfl ?_ ?_|refine Zce rfl rfl ?_ ?_)):p:=h
theorem _root_.Go.AM.au26{p:Prop}(h:p:=by repeat(first|exact Zb7|(refine Zb8 ?_ ?_;·(first|exact Rn.any|exact Rn.x1 rfl rfl|exact Rn.x2 rfl rfl|exact Rn.x3 rfl rfl|exact Rn.x4 rfl rfl|exact Rn.x5 rfl|exact Rn.x6 rfl|exact Rn.x7 rfl|(refine Rn.slot ?_ ?_;(first|rfl|(rw[ZaS];rfl));(first|rfl|(simp only[noRef,noRefs,Qah,Zak,Zac,Zag,Qaa,Qam,Qab,SU.QaD,SU.Qat,SU.Qaf,SU.Qar,SU.QaI,Qea,Qdx];done)))|(refine Rn.fn ?_ ?_<;>(repeat'(first|exact Zcf|refine Zcg ?_ ?_|exact Zb0 rfl|exact Rn.x6 rfl|exact Rn.x2 rfl rfl|exact Rn.x5 rfl|exact Rn.x1 rfl rfl))))))):p:=h
theorem eq123(a b:List (List UInt8×Evt))(B:a.length<=1000)(A:b.length<=1000):PSpec Tryz.prog 123 [evsN a,evsN b] (.bool (eqL evE a b)):=by
 refine Zb3 64 ok123 rfl (by simp only[noRefs,noRef,Qdx];rfl) rfl ?_;have t:=QlY a;have s:=QlY b;by_cases c:a.length=b.length
 ·unfold s123;refine Zcq c ?_;refine Qay 100 (fun i:Nat=>[(0,evsN a),(1,evsN b),(12,.int .i64 b.length),(13,.int .i64 i)]) (fun _=>[]) (fun i=>i<=b.length/\∀(j:Nat)x y,j<i->a[j]?=some x->b[j]?=some y->evE x y=true) (fun i=>b.length-i) 0 ⟨[],rfl,au0,au25,au26⟩ ⟨Zah _,fun j x y r=>absurd r (Zaw _)⟩ ?_;rintro i⟨hi,u⟩;by_cases l:i<b.length
  ·obtain⟨x,o⟩:=Qac (l:=a) (i:=i) (by omega);obtain⟨y,g⟩:=Qac (l:=b) (i:=i) (by omega);have f:i<a.length:=by omega
   have p:=Qks o;have n:=Qks g;have h1:5<=(List.drop (i*5) (List.flatMap evN a)).length:=by rw[ZaE,t];omega
   have v:5<=(List.drop (i*5) (List.flatMap evN b)).length:=by rw[ZaE,s];omega
   have q:=QpF x y;cases d:evE x y;·rw[d,Bool.not_false]at q;refine Zcq (ZcE l f p n h1 v q) ?_;refine⟨.inr trivial,_,rfl,?_⟩;rw[QcJ o g d];rfl
   rw[d,Bool.not_true]at q;refine Zcq (ZcE l f p n h1 v q) ?_;refine⟨i+1,by omega,⟨by omega,fun j z w r k m=>?_⟩,⟨[],rfl,au0,au25,au26⟩⟩;by_cases e:j=i;·subst e;rw[o]at k;rw[g]at m;cases k;cases m;exact d
   exact u j z w (by omega) k m
  have d:eqL evE a b=true:=Qcv c fun j x y o g=>by
   have r:j<b.length:=by
    rcases Zbd j b.length with h|h;·exact h
    rw[ZaA h]at g;cases g
   exact u j x y (by omega) o g
  refine Zcq l ?_;refine⟨.inr trivial,_,rfl,?_⟩;rw[d];rfl
 have d:eqL evE a b=false:=QdI c;unfold s123;refine Zcq c ?_;refine⟨.inr trivial,_,rfl,?_⟩;rw[d];rfl
theorem eq127(a b:List (Nat×Nat))(B:a.length<=1000)(A:b.length<=1000):PSpec Tryz.prog 127 [los a,los b] (.bool (eqL loE a b)):=by
 refine Zb3 64 ok127 rfl (by simp only[noRefs,noRef,SU.QaD];rfl) rfl ?_;have t:=SU.QbP a;have s:=SU.QbP b;by_cases c:a.length=b.length
 ·unfold s127;refine Zcq c ?_;refine Qay 100 (fun i:Nat=>[(0,los a),(1,los b),(12,.int .i64 b.length),(13,.int .i64 i)]) (fun _=>[]) (fun i=>i<=b.length/\∀(j:Nat)x y,j<i->a[j]?=some x->b[j]?=some y->loE x y=true) (fun i=>b.length-i) 0 ⟨[],rfl,au0,au25,au26⟩ ⟨Zah _,fun j x y r=>absurd r (Zaw _)⟩ ?_;rintro i⟨hi,u⟩;by_cases l:i<b.length
  ·obtain⟨x,o⟩:=Qac (l:=a) (i:=i) (by omega);obtain⟨y,g⟩:=Qac (l:=b) (i:=i) (by omega);have f:i<a.length:=by omega
   have p:=QdG o;have n:=QdG g;have h1:2<=(List.drop (i*2) (List.flatMap loC a)).length:=by rw[ZaE,t];omega
   have v:2<=(List.drop (i*2) (List.flatMap loC b)).length:=by rw[ZaE,s];omega
   have q:=QqE x y;cases d:loE x y;·rw[d,Bool.not_false]at q;refine Zcq (ZcE l f p n h1 v q) ?_;refine⟨.inr trivial,_,rfl,?_⟩;rw[QcJ o g d];rfl
   rw[d,Bool.not_true]at q;refine Zcq (ZcE l f p n h1 v q) ?_;refine⟨i+1,by omega,⟨by omega,fun j z w r k m=>?_⟩,⟨[],rfl,au0,au25,au26⟩⟩;by_cases e:j=i;·subst e;rw[o]at k;rw[g]at m;cases k;cases m;exact d
   exact u j z w (by omega) k m
  have d:eqL loE a b=true:=Qcv c fun j x y o g=>by
   have r:j<b.length:=by
    rcases Zbd j b.length with h|h;·exact h
    rw[ZaA h]at g;cases g
   exact u j x y (by omega) o g
  refine Zcq l ?_;refine⟨.inr trivial,_,rfl,?_⟩;rw[d];rfl
 have d:eqL loE a b=false:=QdI c;unfold s127;refine Zcq c ?_;refine⟨.inr trivial,_,rfl,?_⟩;rw[d];rfl
theorem eq130(a b:List (Nat×Int))(B:a.length<=1000)(A:b.length<=1000):PSpec Tryz.prog 130 [tes a,tes b] (.bool (eqL teE a b)):=by
 refine Zb3 64 ok130 rfl (by simp only[noRefs,noRef,SU.Qat];rfl) rfl ?_;have t:=SU.Qbm a;have s:=SU.Qbm b;by_cases c:a.length=b.length
 ·unfold s130;refine Zcq c ?_;refine Qay 100 (fun i:Nat=>[(0,tes a),(1,tes b),(12,.int .i64 b.length),(13,.int .i64 i)]) (fun _=>[]) (fun i=>i<=b.length/\∀(j:Nat)x y,j<i->a[j]?=some x->b[j]?=some y->teE x y=true) (fun i=>b.length-i) 0 ⟨[],rfl,au0,au25,au26⟩ ⟨Zah _,fun j x y r=>absurd r (Zaw _)⟩ ?_;rintro i⟨hi,u⟩;by_cases l:i<b.length
  ·obtain⟨x,o⟩:=Qac (l:=a) (i:=i) (by omega);obtain⟨y,g⟩:=Qac (l:=b) (i:=i) (by omega);have f:i<a.length:=by omega
   have p:=SU.Qb5 o;have n:=SU.Qb5 g;have h1:2<=(List.drop (i*2) (List.flatMap teC a)).length:=by rw[ZaE,t];omega
   have v:2<=(List.drop (i*2) (List.flatMap teC b)).length:=by rw[ZaE,s];omega
   have q:=QqF x y;cases d:teE x y;·rw[d,Bool.not_false]at q;refine Zcq (ZcE l f p n h1 v q) ?_;refine⟨.inr trivial,_,rfl,?_⟩;rw[QcJ o g d];rfl
   rw[d,Bool.not_true]at q;refine Zcq (ZcE l f p n h1 v q) ?_;refine⟨i+1,by omega,⟨by omega,fun j z w r k m=>?_⟩,⟨[],rfl,au0,au25,au26⟩⟩;by_cases e:j=i;·subst e;rw[o]at k;rw[g]at m;cases k;cases m;exact d
   exact u j z w (by omega) k m
  have d:eqL teE a b=true:=Qcv c fun j x y o g=>by
   have r:j<b.length:=by
    rcases Zbd j b.length with h|h;·exact h
    rw[ZaA h]at g;cases g
   exact u j x y (by omega) o g
  refine Zcq l ?_;refine⟨.inr trivial,_,rfl,?_⟩;rw[d];rfl
 have d:eqL teE a b=false:=QdI c;unfold s130;refine Zcq c ?_;refine⟨.inr trivial,_,rfl,?_⟩;rw[d];rfl
abbrev exV(x:Nat×List (Nat×Nat)):AV:=.agg [.str [101,UInt8.ofNat (48+x.1)],los x.2]
abbrev coV(x:List (Nat×Int)×Int):AV:=.agg [.str [107],tes x.1,.int .i64 x.2]
theorem eq124(K:Nat)(a b:List (List UInt8×Aut))(B:a.length<=1000)(A:b.length<=1000)(hk:∀x∈a,∀y∈b,PSpec Tryz.prog K [itNV x,itNV y] (.bool (itE x y))):PSpec Tryz.prog 124 [itsN a,itsN b,.fn K [] []] (.bool (eqL itE a b)):=by
 refine Zb3 64 ok124 rfl (by simp only[noRefs,noRef,Qea];rfl) rfl ?_;have t:=Qn9 a;have s:=Qn9 b;by_cases c:a.length=b.length
 ·unfold s124;refine Zcq c ?_;refine Qay 100 (fun i:Nat=>[(1,itsN b),(2,.fn K [] []),(15,itsN a),(16,.int .i64 b.length),(17,.int .i64 i)]) (fun _=>[]) (fun i=>i<=b.length/\∀(j:Nat)x y,j<i->a[j]?=some x->b[j]?=some y->itE x y=true) (fun i=>b.length-i) 0 ⟨[],rfl,au0,au25,au26⟩ ⟨Zah _,fun j x y r=>absurd r (Zaw _)⟩ ?_;rintro i⟨hi,u⟩;by_cases k:i<b.length
  ·obtain⟨x,n⟩:=Qac (l:=a) (i:=i) (by omega);obtain⟨y,d⟩:=Qac (l:=b) (i:=i) (by omega);have f:i<a.length:=by omega
   have p:=QlW n;have o:=QlW d;have h1:5<=(List.drop (i*5) (List.flatMap itN a)).length:=by rw[ZaE,t];omega
   have v:5<=(List.drop (i*5) (List.flatMap itN b)).length:=by rw[ZaE,s];omega
   have q:=hk x (Zae n) y (Zae d);cases g:itE x y;·rw[g]at q;refine Zcq (ZcD k f p o h1 v) ?_;refine cp q ?_;refine Zcp ?_;refine⟨.inr trivial,_,rfl,?_⟩;rw[QcJ n d g];rfl
   rw[g]at q;refine Zcq (ZcD k f p o h1 v) ?_;refine cp q ?_;refine Zcp ?_;refine⟨i+1,by omega,⟨by omega,fun j z w r m l=>?_⟩,⟨[],rfl,au0,au25,au26⟩⟩;by_cases e:j=i;·subst e;rw[n]at m;rw[d]at l;cases m;cases l;exact g
   exact u j z w (by omega) m l
  have g:eqL itE a b=true:=Qcv c fun j x y n d=>by
   have r:j<b.length:=by
    rcases Zbd j b.length with h|h;·exact h
    rw[ZaA h]at d;cases d
   exact u j x y (by omega) n d
  refine Zcq k ?_;refine⟨.inr trivial,_,rfl,?_⟩;rw[g];rfl
 have g:eqL itE a b=false:=QdI c;unfold s124;refine Zcq c ?_;refine⟨.inr trivial,_,rfl,?_⟩;rw[g];rfl
theorem eq125(K:Nat)(a b:List (Nat×List (Nat×Nat)))(B:a.length<=1000)(A:b.length<=1000)(hk:∀x∈a,∀y∈b,PSpec Tryz.prog K [exV x,exV y] (.bool (exE x y))):PSpec Tryz.prog 125 [exs a,exs b,.fn K [] []] (.bool (eqL exE a b)):=by
 refine Zb3 64 ok125 rfl (by simp only[noRefs,noRef,SU.Qar];rfl) rfl ?_;have t:=SU.Qbr a;have s:=SU.Qbr b;by_cases c:a.length=b.length
 ·unfold s125;refine Zcq c ?_;refine Qay 100 (fun i:Nat=>[(1,exs b),(2,.fn K [] []),(15,exs a),(16,.int .i64 b.length),(17,.int .i64 i)]) (fun _=>[]) (fun i=>i<=b.length/\∀(j:Nat)x y,j<i->a[j]?=some x->b[j]?=some y->exE x y=true) (fun i=>b.length-i) 0 ⟨[],rfl,au0,au25,au26⟩ ⟨Zah _,fun j x y r=>absurd r (Zaw _)⟩ ?_;rintro i⟨hi,u⟩;by_cases k:i<b.length
  ·obtain⟨x,n⟩:=Qac (l:=a) (i:=i) (by omega);obtain⟨y,d⟩:=Qac (l:=b) (i:=i) (by omega);have f:i<a.length:=by omega
   have p:=Qc4 n;have o:=Qc4 d;have h1:2<=(List.drop (i*2) (List.flatMap exC a)).length:=by rw[ZaE,t];omega
   have v:2<=(List.drop (i*2) (List.flatMap exC b)).length:=by rw[ZaE,s];omega
   have q:=hk x (Zae n) y (Zae d);cases g:exE x y;·rw[g]at q;refine Zcq (ZcD k f p o h1 v) ?_;refine cp q ?_;refine Zcp ?_;refine⟨.inr trivial,_,rfl,?_⟩;rw[QcJ n d g];rfl
   rw[g]at q;refine Zcq (ZcD k f p o h1 v) ?_;refine cp q ?_;refine Zcp ?_;refine⟨i+1,by omega,⟨by omega,fun j z w r m l=>?_⟩,⟨[],rfl,au0,au25,au26⟩⟩;by_cases e:j=i;·subst e;rw[n]at m;rw[d]at l;cases m;cases l;exact g
   exact u j z w (by omega) m l
  have g:eqL exE a b=true:=Qcv c fun j x y n d=>by
   have r:j<b.length:=by
    rcases Zbd j b.length with h|h;·exact h
    rw[ZaA h]at d;cases d
   exact u j x y (by omega) n d
  refine Zcq k ?_;refine⟨.inr trivial,_,rfl,?_⟩;rw[g];rfl
 have g:eqL exE a b=false:=QdI c;unfold s125;refine Zcq c ?_;refine⟨.inr trivial,_,rfl,?_⟩;rw[g];rfl
theorem eq128(K:Nat)(a b:List (List (Nat×Int)×Int))(B:a.length<=1000)(A:b.length<=1000)(hk:∀x∈a,∀y∈b,PSpec Tryz.prog K [coV x,coV y] (.bool (coE x y))):PSpec Tryz.prog 128 [cos a,cos b,.fn K [] []] (.bool (eqL coE a b)):=by
 refine Zb3 64 ok128 rfl (by simp only[noRefs,noRef,SU.QaI];rfl) rfl ?_;have t:=QbG a;have s:=QbG b;by_cases c:a.length=b.length
 ·unfold s128;refine Zcq c ?_;refine Qay 100 (fun i:Nat=>[(1,cos b),(2,.fn K [] []),(15,cos a),(16,.int .i64 b.length),(17,.int .i64 i)]) (fun _=>[]) (fun i=>i<=b.length/\∀(j:Nat)x y,j<i->a[j]?=some x->b[j]?=some y->coE x y=true) (fun i=>b.length-i) 0 ⟨[],rfl,au0,au25,au26⟩ ⟨Zah _,fun j x y r=>absurd r (Zaw _)⟩ ?_;rintro i⟨hi,u⟩;by_cases k:i<b.length
  ·obtain⟨x,n⟩:=Qac (l:=a) (i:=i) (by omega);obtain⟨y,d⟩:=Qac (l:=b) (i:=i) (by omega);have f:i<a.length:=by omega
   have p:=Qc5 n;have o:=Qc5 d;have h1:3<=(List.drop (i*3) (List.flatMap coC a)).length:=by rw[ZaE,t];omega
   have v:3<=(List.drop (i*3) (List.flatMap coC b)).length:=by rw[ZaE,s];omega
   have q:=hk x (Zae n) y (Zae d);cases g:coE x y;·rw[g]at q;refine Zcq (ZcD k f p o h1 v) ?_;refine cp q ?_;refine Zcp ?_;refine⟨.inr trivial,_,rfl,?_⟩;rw[QcJ n d g];rfl
   rw[g]at q;refine Zcq (ZcD k f p o h1 v) ?_;refine cp q ?_;refine Zcp ?_;refine⟨i+1,by omega,⟨by omega,fun j z w r m l=>?_⟩,⟨[],rfl,au0,au25,au26⟩⟩;by_cases e:j=i;·subst e;rw[n]at m;rw[d]at l;cases m;cases l;exact g
   exact u j z w (by omega) m l
  have g:eqL coE a b=true:=Qcv c fun j x y n d=>by
   have r:j<b.length:=by
    rcases Zbd j b.length with h|h;·exact h
    rw[ZaA h]at d;cases d
   exact u j x y (by omega) n d
  refine Zcq k ?_;refine⟨.inr trivial,_,rfl,?_⟩;rw[g];rfl
 have g:eqL coE a b=false:=QdI c;unfold s128;refine Zcq c ?_;refine⟨.inr trivial,_,rfl,?_⟩;rw[g];rfl
end Go.AM.SO
namespace Go.AM.SO
open Go.Proofs Go.AM.SD Go.AM.SE
theorem Qc7{a b:List UInt8}:aBin .eql (.str a) (.str b)=some (.bool (decide (a=b))):=rfl
structure ShortA(a:Aut):Prop where
 al:a.al.length<=1000
 ms:a.ms.length<=1000
 es:a.es.length<=1000
theorem ShortA.ok{a:Aut}(h:ShortA a):AOk a:=⟨by have:=h.al;omega,by have:=h.ms;omega,by have:=h.es;omega⟩
theorem WfI.short{a:Aut}(h:WfI a):ShortA a:=⟨by have:=Qhh h.wf;omega,by have:=QaN a.n a.ms h.wf.nd h.wf.msn;have:=h.n3;omega,by have:=h.el;omega⟩
theorem itm131(x y:List UInt8×Aut)(c:ShortA x.2)(d:ShortA y.2):PSpec Tryz.prog 131 [itNV x,itNV y] (.bool (itE x y)):=by
 refine Zb3 64 ok131 rfl (by simp only[noRefs,noRef,Qaa,Qad];rfl) rfl ?_;have b:=eq43 x.2 y.2 c.ok d.ok;unfold itE;cases a:decide (x.1=y.1);·unfold s131;refine Zcq (Zcz @Qc7 a) ?_;exact⟨.inr trivial,_,rfl,rfl⟩
 unfold s131;refine Zcq (Zcz @Qc7 a) ?_;refine cp b ?_;refine Zcp ?_;exact⟨.inr trivial,_,rfl,rfl⟩
theorem exm132(x y:Nat×List (Nat×Nat))(c:x.2.length<=1000)(d:y.2.length<=1000):PSpec Tryz.prog 132 [exV x,exV y] (.bool (exE x y)):=by
 refine Zb3 64 ok132 rfl (by simp only[noRefs,noRef,SU.QaD];rfl) rfl ?_;have b:=eq127 x.2 y.2 c d;unfold exE;cases a:decide (([101,UInt8.ofNat (48+x.1)]:List UInt8)=[101,UInt8.ofNat (48+y.1)]);·unfold s132;refine Zcq (Zcz @Qc7 a) ?_;exact⟨.inr trivial,_,rfl,rfl⟩
 unfold s132;refine Zcq (Zcz @Qc7 a) ?_;refine cp b ?_;refine Zcp ?_;exact⟨.inr trivial,_,rfl,rfl⟩
theorem com133(x y:List (Nat×Int)×Int)(c:x.1.length<=1000)(d:y.1.length<=1000):PSpec Tryz.prog 133 [coV x,coV y] (.bool (coE x y)):=by
 refine Zb3 64 ok133 rfl (by simp only[noRefs,noRef,SU.Qat];rfl) rfl ?_;have f:=eq130 x.1 y.1 c d;have a:decide (([107]:List UInt8)=[107])=true:=rfl;unfold coE;cases b:decide (x.2=y.2);·unfold s133;refine Zcq (ZcA @Qc7 a b) ?_;exact⟨.inr trivial,_,rfl,rfl⟩
 unfold s133;refine Zcq (ZcA @Qc7 a b) ?_;refine cp f ?_;refine Zcp ?_;exact⟨.inr trivial,_,rfl,rfl⟩
def cellEq(c d:Cel):Bool:=eqL evE (evl c.ev) (evl d.ev)&&(eqL itE (nmL' 99 c.cs) (nmL' 99 d.cs)&&(eqL itE (nmL' 114 c.rs) (nmL' 114 d.rs)&&(eqL exE c.xs d.xs&&eqL coE c.ks d.ks)))
theorem autB_refl'(a:Aut):autB a a=true:=by simp[autB]
theorem Qgc(c:Cel):cellEq c c=true:=by unfold cellEq;rw[Qcw fun x _=>by simp[evE],Qcw fun x _=>by simp[itE,autB_refl'],Qcw fun x _=>by simp[itE,autB_refl'],Qcw fun x _=>by simp only[exE,decide_true,Zag];exact Qcw fun x _=>by simp[loE],Qcw fun x _=>by simp only[coE,decide_true,Zag];exact Qcw fun x _=>by simp[teE]];rfl
structure ShortC(c:Cel):Prop where
 cs:c.cs.length<=1000
 rs:c.rs.length<=1000
 xs:c.xs.length<=1000
 ks:c.ks.length<=1000
 ca:∀x∈c.cs,ShortA x.2
 ra:∀x∈c.rs,ShortA x.2
 xl:∀x∈c.xs,x.2.length<=1000
 kl:∀x∈c.ks,x.1.length<=1000
theorem WfCel.short{c:Cel}(h:WfCel c):ShortC c:=⟨by have:=h.c3;omega,by have:=h.r2;omega,by have:=h.x2;omega,by have:=h.k1;omega,fun x a=>(h.ca x a).short,fun x a=>(h.ra x a).short,fun x a=>by have:=h.xlen a;omega,fun x a=>by have:=h.klen a;omega⟩
theorem QeU{ch:UInt8}{l:List (Nat×Aut)}(h:∀x∈l,ShortA x.2):∀x∈nmL' ch l,ShortA x.2:=fun x a=>by obtain⟨y,b,rfl⟩:=Zas.1 a;exact h y b
theorem Qhl{ch:UInt8}{l:List (Nat×Aut)}:(nmL' ch l).length=l.length:=by simp[nmL']
theorem equal51(c d:Cel)(hc:ShortC c)(a:ShortC d):PSpec Tryz.prog 51 [celV c,celV d] (.bool (cellEq c d)):=by
 refine Zb3 64 ok51 rfl (by rw[noRefs,noRefs,SU.Qa5,SU.Qa5];rfl) rfl ?_;have h1:=eq123 (evl c.ev) (evl d.ev) (by simp[evl]) (by simp[evl]);have g:=eq124 131 (nmL' 99 c.cs) (nmL' 99 d.cs) (by rw[Qhl];exact hc.cs) (by rw[Qhl];exact a.cs) (fun x b y f=>itm131 x y (QeU hc.ca x b) (QeU a.ca y f));have h:=eq124 131 (nmL' 114 c.rs) (nmL' 114 d.rs) (by rw[Qhl];exact hc.rs) (by rw[Qhl];exact a.rs) (fun x b y f=>itm131 x y (QeU hc.ra x b) (QeU a.ra y f));have l:=eq125 132 c.xs d.xs hc.xs a.xs (fun x b y f=>exm132 x y (hc.xl x b) (a.xl y f));have k:=eq128 133 c.ks d.ks hc.ks a.ks (fun x b y f=>com133 x y (hc.kl x b) (a.kl y f));rw[<-QlX,<-QlX]at h1;rw[<-Qn8,<-Qn8]at g h;unfold cellEq;generalize eqL evE (evl c.ev) (evl d.ev)=i at*;generalize eqL itE (nmL' 99 c.cs) (nmL' 99 d.cs)=b2 at*;generalize eqL itE (nmL' 114 c.rs) (nmL' 114 d.rs)=m at*;generalize eqL exE c.xs d.xs=j at*;generalize eqL coE c.ks d.ks=n at*;unfold s51;refine Zcp ?_;refine cp h1 ?_;cases i;·refine Zcp ?_;exact⟨.inr trivial,_,rfl,rfl⟩
 refine Zcp ?_;refine cp g ?_;cases b2;·refine Zcp ?_;exact⟨.inr trivial,_,rfl,rfl⟩
 refine Zcp ?_;refine cp h ?_;cases m;·refine Zcp ?_;exact⟨.inr trivial,_,rfl,rfl⟩
 refine Zcp ?_;refine cp l ?_;cases j;·refine Zcp ?_;exact⟨.inr trivial,_,rfl,rfl⟩
 refine Zcp ?_;refine cp k ?_;refine Zcp ?_;exact⟨.inr trivial,_,rfl,rfl⟩
end Go.AM.SO
namespace Go.AM.SO
open Go.Proofs Go.AM.SD Go.AM.SE
theorem Qc8{α:Type}(l:List α):pk (List.range l.length) l=l:=by
 have:∀n,n<=l.length->pk (List.range n) l=l.take n:=by intro n;induction n with|zero=>intro _;rfl|succ n a=>intro h;obtain⟨x,b⟩:=Qac (l:=l) (i:=n) (by omega);have a:=a (by omega);unfold pk at a⊢;rw[ZaP,List.filterMap_append,a,Zbe,b];simp[b]
 rw[this _ (ZaG _),Zav]
theorem QiH{n a:Nat}(h:a<n):lbN (List.range n) a=a:=by
 have:∀n,lbN (List.range n) a=min n a:=by intro n;induction n with|zero=>simp[lbN]|succ n b=>
  unfold lbN at b⊢;rw[ZaP,List.countP_append,b];by_cases e:n<a;·simp[List.countP_cons,e];omega
  simp[List.countP_cons,e];omega
 rw[this];omega
theorem QcQ(n:Nat)(h:n<=1000):setErr (nz (List.range n)) n=0:=by
 refine Qa6 fun j c=>?_;have a:j<n:=by simpa using c
 have b:∀k,k<n->(nz (List.range n)).getD k 0=(k:Int):=fun k hk=>QaM (by rw[nz,ZaV,ZbQ hk];rfl);unfold SE.setE;rw[b j a,if_neg (by omega)];by_cases d:0<j;·rw[b (j-1) (by omega),if_neg (by omega)]
 rw[if_neg (by omega)]
abbrev al4{α:Type}(l:List α):List Nat:=List.range l.length
theorem Qkt(c:Cel)(h:WfCel c):selC c (al4 c.cs) (al4 c.rs) (al4 c.xs) (al4 c.ks)=c:=by
 unfold selC;rw[Qc8,Qc8,Qc8,Qc8];have g:c.xs.map (newX (al4 c.cs))=c.xs:=by
  conv=>rhs;rw[<-ZbL c.xs]
  refine ZaH fun x d=>?_;obtain⟨a,l⟩:=x;have:l.map (fun p=>(lbN (al4 c.cs) p.1,p.2))=l:=by
   conv=>rhs;rw[<-ZbL l]
   refine ZaH fun p hp=>?_;obtain⟨y,j,_⟩:=(h.xl _ d).2.2 p hp;obtain⟨f,_⟩:=Zau.1 j;rw[QiH f];rfl
  rw[newX,this];rfl
 have i:c.ks.map (newK (al4 c.cs))=c.ks:=by
  conv=>rhs;rw[<-ZbL c.ks]
  refine ZaH fun x d=>?_;obtain⟨l,b⟩:=x;have:l.map (fun p=>(lbN (al4 c.cs) p.1,p.2))=l:=by
   conv=>rhs;rw[<-ZbL l]
   refine ZaH fun p hp=>?_;rw[QiH ((h.kl _ d).2.2.1 p hp).1];rfl
  rw[newK,this];rfl
 rw[g,i]
theorem QoR(c:Cel)(h:WfCel c):selM c (al4 c.cs) (al4 c.xs) (al4 c.ks)=false:=by
 unfold selM;rw[Qc8,Qc8,Bool.or_eq_false_iff,Zbx,Zbx];refine⟨fun x b=>?_,fun x b=>?_⟩;·rw[missX,Zaj,Zbx];intro p hp;obtain⟨y,d,_⟩:=(h.xl _ b).2.2 p hp;obtain⟨a,_⟩:=Zau.1 d;simp[a]
 rw[missK,Zaj,Zbx];intro p hp;simp[((h.kl _ b).2.2.1 p hp).1]
theorem select57A(c:Cel)(h:WfCel c):PSpec Tryz.prog 57 [celV c,.agg [sliN (al4 c.cs),sliN (al4 c.rs),sliN (al4 c.xs),sliN (al4 c.ks)]] (.tup [celV c,.int .i64 0]):=by have d:=h.c3;have a:=h.r2;have b:=h.x2;have hk:=h.k1;have:=select57 c h (al4 c.cs) (al4 c.rs) (al4 c.xs) (al4 c.ks) 0 (QcQ _ (by omega)) (QcQ _ (by omega)) (QcQ _ (by omega)) (QcQ _ (by omega)) (by simp;omega) (by simp;omega) (by simp;omega) (by simp;omega) (fun _=>by rw[Qkt c h];exact check21 c h);rw[QoR c h,Qkt c h]at this;exact this
theorem Qmz(c:Cel)(h:WfCel c)(P1 P2 P3 P4:List Nat)(g:P1.length<=4)(f:P2.length<=4)(d:P3.length<=4)(i:P4.length<=4):ShortC (selC c P1 P2 P3 P4):=by
 refine⟨?_,?_,?_,?_,fun x a=>(h.ca x (Qcm a)).short,fun x a=>(h.ra x (Qcm a)).short,fun x a=>?_,fun x a=>?_⟩;·have:=pk_le P1 c.cs;show(pk P1 c.cs).length<=_;omega
 ·have:=pk_le P2 c.rs;show(pk P2 c.rs).length<=_;omega
 ·have:=pk_le P3 c.xs;show((pk P3 c.xs).map _).length<=_;rw[Zal];omega
 ·have:=pk_le P4 c.ks;show((pk P4 c.ks).map _).length<=_;rw[Zal];omega
 ·obtain⟨z,b,rfl⟩:=Zas.1 a;have:=h.xlen (Qcm b);show(z.2.map _).length<=_;rw[Zal];omega
 obtain⟨z,b,rfl⟩:=Zas.1 a;have:=h.klen (Qcm b);show(z.1.map _).length<=_;rw[Zal];omega
theorem PSpec.frz{P:Program}{f:Nat}{us bs:List AV}{v:AV}(a:FrzL .e us bs)(hp:PSpec P f bs v)(c:flatV v=true)(b:noRefs us=true):PSpec P f us v:=⟨b,hp.2.1,_,Zcj a hp c⟩
theorem equal51Z:PSpec Tryz.prog 51 [celN0,celN0] (.bool true):=by refine Zb3 64 ok51 rfl rfl rfl ?_;have h1:=PSpec.frz (us:=[.nilsl,.nilsl]) (Zcl FrzTo.nil (Zcl FrzTo.nil Zck)) (eq123 [] [] (Zah _) (Zah _)) rfl rfl;have b:=PSpec.frz (us:=[.nilsl,.nilsl,.fn 131 [] []]) (Zcl FrzTo.nil (Zcl FrzTo.nil (Zcl (Zb4 _) Zck))) (eq124 131 [] [] (Zah _) (Zah _) (fun x a=>nomatch a)) rfl rfl;have d:=PSpec.frz (us:=[.nilsl,.nilsl,.fn 132 [] []]) (Zcl FrzTo.nil (Zcl FrzTo.nil (Zcl (Zb4 _) Zck))) (eq125 132 [] [] (Zah _) (Zah _) (fun x a=>nomatch a)) rfl rfl;have c:=PSpec.frz (us:=[.nilsl,.nilsl,.fn 133 [] []]) (Zcl FrzTo.nil (Zcl FrzTo.nil (Zcl (Zb4 _) Zck))) (eq128 133 [] [] (Zah _) (Zah _) (fun x a=>nomatch a)) rfl rfl;have o:AV.one .nilsl=true:=rfl;have q:AV.cells .nilsl=[.nilsl]:=rfl;have f:(eqL evE [] [],eqL itE [] [],eqL exE [] [],eqL coE [] [])=(true,true,true,true):=rfl;simp only[Zaf]at f;obtain⟨j,h,g,i⟩:=f;rw[j]at h1;rw[h]at b;rw[g]at d;rw[i]at c;unfold s51;refine Zcq (Zcz o q) ?_;refine cp h1 ?_;refine Zcp ?_;refine cp b ?_;refine Zcp ?_;refine cp b ?_;refine Zcp ?_;refine cp d ?_;refine Zcp ?_;refine cp c ?_;refine Zcp ?_;exact⟨.inr trivial,_,rfl,rfl⟩
end Go.AM.SO
namespace Go.AM.SO
open Go.Proofs Go.AM.SD Go.AM.SE
theorem QqG{a b c d:Int}(h:fst4 a b c d=0):a=0/\b=0/\c=0/\d=0:=by unfold fst4 at h;grind
theorem pk_of{α:Type}{X:List Int}{l:List α}(h:setErr X l.length=0)(a:X.length<=4):∃P:List Nat,X=nz P/\P.length<=4:=⟨X.map Int.toNat,(pk_ok h).1.symm,by simpa using a⟩
theorem QoS(c:Cel)(h:WfCel c)(X1 X2 X3 X4:List Int)(r:X1.length<=4)(q:X2.length<=4)(s:X3.length<=4)(t:X4.length<=4):∃d a2 a3 a4 a5 E,(∀a∈[d,a2,a3,a4,a5],AV.one a=true/\AV.cells a=[a])/\PSpec Tryz.prog 57 [celV c,.agg [sli X1,sli X2,sli X3,sli X4]] (.tup [.agg [d,a2,a3,a4,a5],.int .i64 E])/\PSpec Tryz.prog 58 [celV c,.agg [sli X1,sli X2,sli X3,sli X4]] (.tup [.agg [d,a2,a3,a4,a5],.int .i64 E])/\PSpec Tryz.prog 51 [.agg [d,a2,a3,a4,a5],.agg [d,a2,a3,a4,a5]] (.bool true):=by
 have l:∀a∈[AV.nilsl,.nilsl,.nilsl,.nilsl,.nilsl],AV.one a=true/\AV.cells a=[a]:=by simp[AV.one,AV.cells]
 by_cases i:selE c X1 X2 X3 X4=0
 ·obtain⟨s1,s2,m,k⟩:=QqG i;obtain⟨P1,rfl,f⟩:=pk_of s1 r;obtain⟨P2,rfl,j⟩:=pk_of s2 q;obtain⟨P3,rfl,g⟩:=pk_of m s;obtain⟨P4,rfl,n⟩:=pk_of k t;have hA:=select57R c h P1 P2 P3 P4 s1 s2 m k f j g n;have b:=selected58R c h P1 P2 P3 P4 s1 s2 m k f j g n;rw[QaO,QaO,QaO,QaO];unfold selR at hA b;split at hA;·rename_i hm;rw[if_pos hm]at b;exact⟨_,_,_,_,_,_,l,hA,b,equal51Z⟩
  rename_i hm;rw[if_neg hm]at b;split at hA;·rename_i he;rw[if_pos he]at b;exact⟨_,_,_,_,_,_,l,hA,b,equal51Z⟩
  rename_i he;rw[if_neg he]at b;have o:=Qmz c h P1 P2 P3 P4 f j g n;have p:=equal51 _ _ o o;rw[Qgc]at p;exact⟨_,_,_,_,_,_,by simp[AV.one,AV.cells],hA,b,p⟩
 exact⟨_,_,_,_,_,_,l,select57E c h X1 X2 X3 X4 (by omega) (by omega) (by omega) (by omega) i,selected58E c h X1 X2 X3 X4 (by omega) (by omega) (by omega) (by omega) i,equal51Z⟩
theorem law12(p:Pln)(h:POk p)(m:p.xn<=9223372036854775807)(X1 X2 X3 X4:List Int)(m1:X1.length<=9223372036854775807)(m2:X2.length<=9223372036854775807)(m3:X3.length<=9223372036854775807)(m4:X4.length<=9223372036854775807):W2 Tryz.prog ⟨UA.s12.n,0⟩ UA.s12.body (fun e B=>(e=.normal\/e=.ret)/\resV B.T B.h UA.s12.res=some [.bool true]) ⟨argT 0 [plnV p,.agg [sli X1,sli X2,sli X3,sli X4]],.e⟩:=by
 refine(wpC.toW (n:=40) (Q:=fun e T h _=>(e=.normal\/e=.ret)/\resV T h UA.s12.res=some [.bool true]) (show wS Tryz.prog ⟨UA.s12.n,0⟩ UA.s12.body [] 40 _ _ _ from ?_)).mono fun e B⟨_,h⟩=>h;have hlen:=SU.QhE h;have b:=SU.QhF h;have f:PSpec Tryz.prog 25 [.agg (plnC p)] (.bool (decide (p.xn<=4))):=short25 p h m;have q:PSpec Tryz.prog 26 [.agg (plnC p)] (celV (mkC p)):=SU.Make26 p h;have hw:=@Qp0 p;have d:=SK.known15;have a:(plnC p).take 152=plnC p:=by rw[<-hlen,Zav]
 show wS _ _ _ _ _ (argT 0 [.agg (plnC p),.agg [sli X1,sli X2,sli X3,sli X4]]) _ _;generalize plnC p=C at*;generalize mkC p=c at*;by_cases w:p.xn<=4
 ·have k:decide (p.xn<=4)=true:=by simp[w]
  rw[k]at f;by_cases c1:(4:Int)<X1.length;·unfold UA.s12;refine Zcy (ZcA hlen b a) ?_;refine cp d ?_;refine Zcy (Zcz hlen a) ?_;refine cp f ?_;refine Zcy c1 ?_;refine cp d ?_;refine Zcx ?_;exact⟨.inr trivial,rfl⟩
  by_cases c2:(4:Int)<X2.length;·unfold UA.s12;refine Zcy (ZcA hlen b a) ?_;refine cp d ?_;refine Zcy (Zcz hlen a) ?_;refine cp f ?_;refine Zcy (Zcz c1 c2) ?_;refine cp d ?_;refine Zcx ?_;exact⟨.inr trivial,rfl⟩
  by_cases l:(4:Int)<X3.length;·unfold UA.s12;refine Zcy (ZcA hlen b a) ?_;refine cp d ?_;refine Zcy (Zcz hlen a) ?_;refine cp f ?_;refine Zcy (ZcA c1 c2 l) ?_;refine cp d ?_;refine Zcx ?_;exact⟨.inr trivial,rfl⟩
  by_cases v:(4:Int)<X4.length;·unfold UA.s12;refine Zcy (ZcA hlen b a) ?_;refine cp d ?_;refine Zcy (Zcz hlen a) ?_;refine cp f ?_;refine Zcy (ZcB c1 c2 l v) ?_;refine cp d ?_;refine Zcx ?_;exact⟨.inr trivial,rfl⟩
  obtain⟨N,a2,a3,a4,a5,E,j,hA,G,I⟩:=QoS c hw X1 X2 X3 X4 (by omega) (by omega) (by omega) (by omega);have i:=select57A c hw;have g:=equal51 c c hw.short hw.short;rw[Qgc]at g;have L:=hw.c3;have H:=hw.r2;have A:=hw.x2;have J:=hw.k1;have z:=up59 c.cs.length (by omega);have F:=up59 c.rs.length (by omega);have M:=up59 c.xs.length (by omega);have K:=up59 c.ks.length (by omega);simp only[ZaF,Zbj,or_false,forall_eq_or_imp,forall_eq]at j;obtain⟨⟨s,q1⟩,⟨n,q2⟩,⟨y,r⟩,⟨x,u⟩,o,t⟩:=j;unfold UA.s12;refine Zcy (ZcA hlen b a) ?_;refine cp d ?_;refine Zcy (Zcz hlen a) ?_;refine cp f ?_;refine Zcy (ZcD c1 c2 l v hlen a) ?_;refine cp q ?_;refine Zcx ?_;refine cp hA ?_;refine Zcy (ZcH s @q1 n @q2 y r x u o t) ?_;refine cp G ?_;refine Zcy (ZcH s @q1 n @q2 y r x u o t) ?_;refine cp I ?_;refine Zcy (Zcz hlen a) ?_;refine cp q ?_;refine Zcx ?_;refine cp g ?_;refine Zcx ?_;refine Qhc [] rfl rfl ?_;refine Zcx ?_;refine cp z ?_;refine Zcx ?_;refine cp F ?_;refine Zcx ?_;refine cp M ?_;refine Zcx ?_;refine cp K ?_;refine Zcx ?_;refine cp i ?_;refine Zcx ?_;refine⟨trivial,?_⟩;refine cp g ?_;refine Zcx ?_;exact⟨.inr trivial,rfl⟩
 have k:decide (p.xn<=4)=false:=by simp[w]
 rw[k]at f;unfold UA.s12;refine Zcy (ZcA hlen b a) ?_;refine cp d ?_;refine Zcy (Zcz hlen a) ?_;refine cp f ?_;refine Zcx ?_;refine cp d ?_;refine Zcx ?_;exact⟨.inr trivial,rfl⟩
abbrev tyPart:Ty:=.st (.pair (.sl (.int .i64)) (.pair (.sl (.int .i64)) (.pair (.sl (.int .i64)) (.pair (.sl (.int .i64)) .unit))))
theorem cellsI:∀l:List Int,l.flatMap (Ty.cells (.int .i64))=ints l|[]=>rfl|x::l=>by rw[Zay,cellsI l];rfl
theorem Qhm(l:List Int):Ty.cells (.sl (.int .i64)) l=[sli l]:=by show[AV.fsl (l.flatMap (Ty.cells (.int .i64))) l.length 1]=_;rw[cellsI]
theorem QpG(d:tyPart.D):tyPart.val d=.agg [sli d.1,sli d.2.1,sli d.2.2.1,sli d.2.2.2.1]:=by show AV.agg (Ty.cells (.sl (.int .i64)) d.1++(Ty.cells (.sl (.int .i64)) d.2.1++(Ty.cells (.sl (.int .i64)) d.2.2.1++(Ty.cells (.sl (.int .i64)) d.2.2.2.1++[]))))=_;rw[Qhm,Qhm,Qhm,Qhm];rfl
theorem law12_in(d0:tyPln.D)(d1:tyPart.D)(c:tyPln.wf d0)(h1:tyPart.wf d1):W2 Tryz.prog ⟨UA.s12.n,0⟩ UA.s12.body (fun e B=>(e=.normal\/e=.ret)/\resV B.T B.h UA.s12.res=some [.bool true]) ⟨argT 0 [tyPln.val d0,tyPart.val d1],.e⟩:=by obtain⟨p,hp,a,b⟩:=Qqt c;rw[b,QpG];exact law12 p hp a d1.1 d1.2.1 d1.2.2.1 d1.2.2.2.1 h1.1.1 h1.2.1.1 h1.2.2.1.1 h1.2.2.2.1.1
theorem okl12:okFn Tryz.prog 12 UA.s12=true:=UA.ok12
end Go.AM.SO
