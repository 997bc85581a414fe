/- A part of the proof of SynthesisCellsCardSaid: lemmas on the way (AmTq, AmBp, AmBk, AmBl, AmBm, AmBn, AmBo, AmCa, AmCb, AmFa, AmBFb, AmBw, AmBFd, AmBy, AmBFe, AmCc, AmCe, AmCf, AmTi). Conditions: none of ours. -/
import Derived.Shelf.SlSortCmp.NoneTotal
import Derived.Test.YtmoanlnleppcpaaGreatDoorProg
import Derived.KernelRfl
import Derived.Test.YtmoanlnleppcpaaGreatDoorAmY12
set_option linter.unusedSectionVars false
set_option maxHeartbeats 32000000
set_option maxRecDepth 100000
set_option linter.unusedVariables false
set_option linter.unusedSimpArgs false
set_option linter.unusedSectionVars false
namespace Go.AM
open Go.Proofs Go.Shelf Go.Sort
variable{P:Program}{ρ:Ren}{α:Type}[Inhabited α]
abbrev encI(ci:α->List Int)(x:α):List Value:=(ci x).map (Value.int .i64)
abbrev avI(ci:α->List Int)(x:α):List AV:=(ci x).map (AV.int .i64)
theorem Qj7{ok:Okc}{c:Ctx ok}{w:World}:∀{a:List Int}{vs:List Value},VPre c w (a.map (AV.int .i64)) vs->∃r,vs=a.map (Value.int .i64)++r|[],vs,_=>⟨vs,rfl⟩|n::a,vs,h=>by simp only[ZaR,VPre]at h;obtain⟨v,g,rfl,d,f⟩:=h;obtain⟨r,rfl⟩:=Qj7 f;simp only[VRel]at d;simp_all
theorem Qhb{ok:Okc}{c:Ctx ok}{w:World}:∀{a:List Int}{r:List Value},VPre c w (a.map (AV.int .i64)) (a.map (Value.int .i64)++r)|[],r=>by simp[VPre]|n::a,r=>by simp only[ZaR,VPre,ZaC];exact⟨_,_,rfl,by simp[VRel],Qhb⟩
theorem QnE(ci:α->List Int)(l:List α):l.flatMap (avI ci)=(l.flatMap ci).map (AV.int .i64):=by rw[List.map_flatMap]
theorem QlW(ci:α->List Int)(l:List α):l.flatMap (encI ci)=(l.flatMap ci).map (Value.int .i64):=by rw[List.map_flatMap]
theorem Qhc{β γ:Type}{f:β->List γ}{k:Nat}(hk:∀x,(f x).length=k)(a:0<k):∀{l:List β}{t:Nat},(l.flatMap f)[t]?=(l[t/k]?).bind fun x=>(f x)[t%k]?
 |[],t=>by simp|x::l,t=>by
  rw[Zav];by_cases h:t<k;·simp_all[Za5,Nat.div_eq_of_lt,Nat.mod_eq_of_lt]
  rw[List.getElem?_append_right (by rw[hk];omega),hk,Qhc hk a (l:=l)];simp_all[Nat.div_eq_sub_div,Nat.mod_eq_sub_mod]
theorem Qio{enc:α->List Value}{k:Nat}(hk:∀x,(enc x).length=k)(d:0<k)(l:List α):Go.Sort.flatK enc k l.toArray=(l.flatMap enc).toArray:=by
 refine ext_get! ?_ fun t a=>?_;·simp_all[List.map_const']
 have c:t<l.length*k:=by simpa using a
 have f:t/k<l.length:=by simp_all[Nat.div_lt_iff_lt_mul]
 grind[get_flatK,Qhc]
theorem QkD{F:List Value}{C:Array Value}{o:Nat}(h:o+F.length<=C.size):(putCells id o F.toArray C).toList.drop o=F++C.toList.drop (o+F.length):=by apply Zba;grind[putCells]
theorem HSpec.sortK{f g b γ:Nat}(L:SlLaysF0.n6 P ρ)(hf:ρ.f 6=f)(B:Callable P f)(k:Nat)(h0:0<k)(aE:∀w,(isAgg (ρ.t 24)).run P w=.ok true w)(zE:∀w,(Go.sizeOf (ρ.t 24)).run P w=.ok k w)(ci:α->List Int)(hk:∀x,(ci x).length=k)(cf:α->α->Int)(hO:SWO (ltOf cf))(eg:∀args w,(callFunc g args).run P w=.ok (.enter g args) w)(U:∀x y w,Calls P g #[.agg (encI ci x).toArray,.agg (encI ci y).toArray] w fun e w'=>e=.returned (.int .i64 (cf x y))/\∃q os',w'=grow (w.drewN q) os')(l:List α)(hl:l.length<4611686018427387904){h:Heap}(hb:h.get b=some (.cells γ (l.flatMap (avI ci))))(hlim:b<1099511627775):∃Z:List α,Z.Perm l/\Z.Pairwise (fun x y=>ltOf cf y x=false)/\HSpec P f [.sl b γ 0 l.length k,.fn g [] []] h (.tup []) (h.set b (.cells γ (Z.flatMap (avI ci)))):=by
 obtain⟨a,Y⟩:∃a,a=pdq (ltOf cf) l.toArray 0 l.length (Lib.bitLen l.length) true true:=⟨_,rfl⟩;have hs:=pdq_sorts (ltOf cf) hO l.toArray 0 l.length (Lib.bitLen l.length) true true (Zah _) (by simp) (Or.inl rfl);rw[<-Y]at hs;obtain⟨⟨hsz,_,s⟩,I⟩:=hs;have T:a.size=l.length:=by simpa using hsz
 have V:(a.extract 0 l.length).toList=a.toList:=by rw[<-T];simp
 have G:(l.toArray.extract 0 l.length).toList=l:=by simp
 rw[V,G]at s;have z:∀x,(encI ci x).length=k:=fun x=>by simp[hk]
 have Q:∀x,∀v∈encI ci x,v.oneCell'=true:=fun x v hv=>by obtain⟨n,_,rfl⟩:=Zaq.1 hv;rfl
 refine⟨a.toList,s,?_,B,?_⟩;·rw[Za8];intro i j hi hj hij;have:=I i j (Zah _) hij (by simp_all);grind
 intro c w u H ha;have hget:∀x j,(h.set b x).get j=if j=b then some x else h.get j:=fun x j=>Zb7 h (by simp_all[lim]) j x;obtain⟨v1,v2,hca,O,hv2⟩:∃v1 v2,u.toList=[v1,v2]/\VRel c w (.sl b γ 0 l.length k) v1/\v2=.func (.func g) #[] #[]:=by simp_all[VRels,VRel]
 have X:u=#[v1,v2]:=Array.toList_inj.1 (by rw[hca]);subst X hv2;have none:l=[]->∀p cap,v1=.slice p 0 cap->Calls P f #[v1,.func (.func g) #[] #[]] w fun e w'=>∃cv c',e=.returned cv/\Evo c w c' w'/\HRel c' (h.set b (.cells γ (a.toList.flatMap (avI ci)))) w'/\VRel c' w' (.tup []) cv:=by rintro e p cap rfl;have hn:=AnyF.slices_SortFunc_none {L with} p cap (.func (.func g) #[] #[]) w;rw[hf]at hn;refine hn.mono ?_;rintro e1 w'⟨rfl,rfl⟩;refine⟨_,c,rfl,Evo.refl c _,Qb6 (fun j=>?_) H,by simp[VRel,VRels]⟩;simp_all
 simp only[VRel]at O;rcases O with⟨_,h1,_,rfl⟩|⟨t,base,o,cap,C,e,fr,hp,rfl,hlc,S,R⟩;·simp_all
 by_cases hl0:l.length=0;·simp_all
 obtain⟨ho,hbd⟩:=R.resolve_left (by omega);have ho':base=o:=ho.symm;subst ho';obtain⟨C',e',fr',hcO,J,hfr,hbs,A⟩:=H.here hb hp;rw[S]at J;cases J;have hlen:(l.flatMap ci).length=l.length*k:=by simp[List.length_flatMap,hk,List.map_const',List.sum_replicate_nat]
 have hlen':(a.toList.flatMap ci).length=l.length*k:=by grind
 have hlk:l.length*k<=cap*k:=Za1 k hlc;rw[QnE]at A;obtain⟨r,hr⟩:=Qj7 A;have hfl:Go.Sort.flatK (encI ci) k l.toArray=((l.flatMap ci).map (Value.int .i64)).toArray:=by rw[Qio z h0,QlW]
 have K:Go.Sort.flatK (encI ci) k a=((a.toList.flatMap ci).map (Value.int .i64)).toArray:=by have:=Qio z h0 a.toList;rw[QlW]at this;exact this
 have hblk:=Qa2 S;have hH:HoldsK (encI ci) k w t base l.toArray:=by
  unfold HoldsK;rw[hfl];intro j hj;have hj':j<l.length*k:=by grind
  have hjC:base+j<C.size:=by omega
  refine⟨?_,?_⟩
  ·simp only[World.cell?,S];have h2:C.toList[base+j]?=some (((l.flatMap ci).map (Value.int .i64))[j]'(by omega)):=by rw[<-ZbR,hr,Za5 (by omega),Zal]
   grind
  simp only[World.frozen?,S];have:=hfr (base+j) hjC;grind
 have d:=AnyQ.slices_SortFunc_eq L k aE zE (encI ci) z Q cf hO g #[] t base cap l.toArray w eg (fun m os dk _ x y=>U x y _) hH hblk (by simpa using hl);rw[hf]at d;have e0:(base+0:Nat)=base:=rfl;have esz:(l.toArray).size=l.length:=by simp
 rw[esz,<-Y]at d;refine d.mono ?_;rintro e1 w'⟨rfl,n,os,rfl⟩;have F:∀j,j<w.heap.size->(sortWorldK (encI ci) k w t base n a os).heap[j]?=if j=t then some (.cells (putCells id base ((a.toList.flatMap ci).map (Value.int .i64)).toArray C) e fr)else w.heap[j]?:=fun j hj=>by
  unfold sortWorldK putRowK;rw[heap_grow_old _ _ (by grind[putRow,mapBlock,Sort.ahead]),K];show(w.heap.modify t _)[j]?=_;rw[Array.getElem?_modify];by_cases e2:t=j;·subst e2;rw[if_pos rfl,if_pos rfl,S];rfl
  grind
 have M:w.heap.size<=(sortWorldK (encI ci) k w t base n a os).heap.size:=by grind
 have N:=F t hblk;rw[if_pos rfl]at N;obtain⟨E,H2⟩:=H.put (w':=sortWorldK (encI ci) k w t base n a os) (b:=b) (cb:=t) (base:=base) (x:=.cells γ (a.toList.flatMap (avI ci))) (by grind[lim]) (fun y hy=>H.later b _ hb y hy) (.inr hp) (.inr ⟨γ,base,⟨_,hb,rfl,fun k=>by simp⟩,hp⟩) rfl rfl rfl M (by omega) (fun j hj hne=>by grind) (fun C2 e2 fr2 h2=>by grind[putCells]) (fun E=>.inr ⟨t,base,_,_,_,by show(if b=b/\γ=γ then _ else _)=_;grind,.inr rfl,N,by grind[putCells],by grind[putCells],by grind[QkD,QnE,Qhb]⟩);exact⟨_,_,rfl,E,H2,by simp[VRel,VRels]⟩
end Go.AM
namespace Go.Proofs
open Go.Shelf Go.RowKit Go.Lib Go.Sort
def Tryz.Qou:Go.Shelf.Ren:=⟨fun|6=>179|15=>164|14=>222|28=>217|29=>218|20=>243|21=>244|22=>245|23=>246|24=>247|25=>248|26=>249|27=>250|46=>268|47=>238|48=>239|49=>269|50=>270|57=>278|n=>n,fun|22=>51|24=>167|25=>268|3=>3|39=>253|0=>0|53=>300|55=>302|4=>4|46=>294|45=>293|50=>188|5=>5|9=>9|66=>315|70=>319|76=>336|77=>278|n=>n,fun|n=>n⟩
theorem Tryz.sortRm:Go.Proofs.SlLaysF0.n6 Tryz.prog Tryz.Qou:={
 mixed:=by kernel_rfl
 f6:=⟨Tryz.f179.name,by decide,Tryz.func179.trans (congrArg some (by kernel_rfl))⟩
 f14:=⟨Tryz.f222.name,by decide,Tryz.func222.trans (congrArg some (by kernel_rfl))⟩
 f15:=Tryz.func164.trans (congrArg some (by kernel_rfl))
 f20:=⟨Tryz.f243.name,by decide,Tryz.func243.trans (congrArg some (by kernel_rfl))⟩
 f21:=⟨Tryz.f244.name,by decide,Tryz.func244.trans (congrArg some (by kernel_rfl))⟩
 f22:=⟨Tryz.f245.name,by decide,Tryz.func245.trans (congrArg some (by kernel_rfl))⟩
 f23:=⟨Tryz.f246.name,by decide,Tryz.func246.trans (congrArg some (by kernel_rfl))⟩
 f24:=⟨Tryz.f247.name,by decide,Tryz.func247.trans (congrArg some (by kernel_rfl))⟩
 f25:=⟨Tryz.f248.name,by decide,Tryz.func248.trans (congrArg some (by kernel_rfl))⟩
 f26:=⟨Tryz.f249.name,by decide,Tryz.func249.trans (congrArg some (by kernel_rfl))⟩
 f27:=⟨Tryz.f250.name,by decide,Tryz.func250.trans (congrArg some (by kernel_rfl))⟩
 f28:=Tryz.func217.trans (congrArg some (by kernel_rfl))
 f29:=Tryz.func218.trans (congrArg some (by kernel_rfl))
 f46:=⟨Tryz.f268.name,by decide,Tryz.func268.trans (congrArg some (by kernel_rfl))⟩
 f47:=Tryz.func238.trans (congrArg some (by kernel_rfl))
 f48:=Tryz.func239.trans (congrArg some (by kernel_rfl))
 f49:=⟨Tryz.f269.name,by decide,Tryz.func269.trans (congrArg some (by kernel_rfl))⟩
 f50:=⟨Tryz.f270.name,by decide,Tryz.func270.trans (congrArg some (by kernel_rfl))⟩
 f57:=⟨Tryz.f278.name,by decide,Tryz.func278.trans (congrArg some (by kernel_rfl))⟩
 t0:=Tryz.underlying0
 a0:=Tryz.isAgg0
 z0:=Tryz.sizeOf0
 v0:=Tryz.zeroValue0
 t3:=Tryz.underlying3
 a3:=Tryz.isAgg3
 z3:=Tryz.sizeOf3
 v3:=Tryz.zeroValue3
 t4:=Tryz.underlying4
 a4:=Tryz.isAgg4
 z4:=Tryz.sizeOf4
 v4:=Tryz.zeroValue4
 t5:=Tryz.underlying5
 a5:=Tryz.isAgg5
 z5:=Tryz.sizeOf5
 v5:=Tryz.zeroValue5
 t9:=Tryz.underlying9
 a9:=Tryz.isAgg9
 z9:=Tryz.sizeOf9
 v9:=Tryz.zeroValue9
 t22:=Tryz.underlying51
 a22:=Tryz.isAgg51
 z22:=Tryz.sizeOf51
 v22:=Tryz.zeroValue51
 t25:=Tryz.underlying268
 a25:=Tryz.isAgg268
 z25:=Tryz.sizeOf268
 v25:=Tryz.zeroValue268
 t39:=Tryz.underlying253
 a39:=Tryz.isAgg253
 z39:=Tryz.sizeOf253
 v39:=Tryz.zeroValue253
 t45:=Tryz.underlying293
 a45:=Tryz.isAgg293
 z45:=Tryz.sizeOf293
 v45:=Tryz.zeroValue293
 t46:=Tryz.underlying294
 a46:=Tryz.isAgg294
 z46:=Tryz.sizeOf294
 v46:=Tryz.zeroValue294
 t50:=Tryz.underlying188
 a50:=Tryz.isAgg188
 z50:=Tryz.sizeOf188
 v50:=Tryz.zeroValue188
 t53:=Tryz.underlying300
 a53:=Tryz.isAgg300
 z53:=Tryz.sizeOf300
 v53:=Tryz.zeroValue300
 t55:=Tryz.underlying302
 a55:=Tryz.isAgg302
 z55:=Tryz.sizeOf302
 v55:=Tryz.zeroValue302
 t66:=Tryz.underlying315
 a66:=Tryz.isAgg315
 z66:=Tryz.sizeOf315
 v66:=Tryz.zeroValue315
 t70:=Tryz.underlying319
 a70:=Tryz.isAgg319
 z70:=Tryz.sizeOf319
 v70:=Tryz.zeroValue319
 t76:=Tryz.underlying336
 a76:=Tryz.isAgg336
 z76:=Tryz.sizeOf336
 v76:=Tryz.zeroValue336
 t77:=Tryz.underlying278
 a77:=Tryz.isAgg278
 z77:=Tryz.sizeOf278
 v77:=Tryz.zeroValue278}
abbrev Rm4:=Fin 1048576×Int×Int×Int
def ciR(x:Rm4):List Int:=[(x.1.val:Int),x.2.1,x.2.2.1,x.2.2.2]
def cfR(x y:Rm4):Int:=(x.1.val:Int)-(y.1.val:Int)
theorem Tryz.cmp180(x y:Rm4)(W:World):Calls Tryz.prog 180 #[.agg #[.int .i64 (x.1.val:Int),.int .i64 x.2.1,.int .i64 x.2.2.1,.int .i64 x.2.2.2],.agg #[.int .i64 (y.1.val:Int),.int .i64 y.2.1,.int .i64 y.2.2.1,.int .i64 y.2.2.2]] W fun e w'=>e=.returned (.int .i64 (cfR x y))/\∃q f,w'=grow (W.drewN q) f:=by obtain⟨⟨a,h⟩,b,c,d⟩:=x;obtain⟨⟨l,g⟩,j,i,k⟩:=y;unfold cfR;go_enter Tryz.func180,Tryz.ntmps180;go_wp2;go_ret;exact⟨rfl,0,_,by rw[alloc_eq_grow,alloc_eq_grow,grow_grow];rfl⟩
theorem Qgb(x y:Rm4):ltOf cfR x y=decide (x.1.val<y.1.val):=by unfold ltOf cfR;grind
theorem Qr0:SWO (ltOf cfR)where
 irrefl x:=by rw[Qgb];simp
 trans x y z h1 a:=by rw[Qgb,decide_eq_true_eq]at*;omega
 ntrans x y z h1 a:=by grind[Qgb]
end Go.Proofs
namespace Go.AM.SE
open Go.Proofs Go.AM.SD Go.Sort Go.Shelf
def toR(r:Rm):Rm4:=(⟨r.st%1048576,Nat.mod_lt _ (by decide)⟩,r.rank,(r.reason:Int),r.ev)
theorem Qs9{r:Rm}(h:r.st<=4096):avI ciR (toR r)=rmC r:=by simp[avI,ciR,toR,rmC,Nat.mod_eq_of_lt (show r.st<1048576 by omega)]
theorem QhF:∀{l:List Rm},(∀r∈l,r.st<=4096)->(l.map toR).flatMap (avI ciR)=l.flatMap rmC|[],_=>rfl|e::l,h=>by rw[ZaR,Zav,Zav,Qs9 (h e (by simp)),QhF fun x a=>h x (by simp[a])]
theorem call179:Callable Tryz.prog 179:=⟨_,Tryz.func179,by kernel_rfl,by kernel_rfl⟩
theorem sortH{l:List Rm}{h:Heap}(c:∀r∈l,r.st<=4096)(A:l.length<1000000000)(u:(l.map (·.st)).Nodup)(v:h.get 74=some (.cells 0 (l.flatMap rmC))):HSpec Tryz.prog 179 [.sl 74 0 0 l.length 4,.fn 180 [] []] h (.tup []) (h.set 74 (.cells 0 ((srtR l).flatMap rmC))):=by
 have n:=Qj5 l;have g:∀r∈srtR l,r.st<=4096:=fun r q=>c r (n.mem_iff.1 q);obtain⟨t,hp,f,z⟩:=HSpec.sortK (f:=179) (g:=180) (γ:=0) (h:=h) (b:=74) Tryz.sortRm rfl call179 4 (by decide) Tryz.isAgg167 Tryz.sizeOf167 ciR (fun _=>rfl) cfR Qr0 (enters_of Tryz.func180 (by kernel_rfl) rfl) (fun x y w=>Tryz.cmp180 x y w) (l.map toR) (by rw[Zaw];omega) (by rw[v,QhF c]) (by decide);have e:t=(srtR l).map toR:=by
  refine List.Perm.eq_of_pairwise (le:=fun x y=>ltOf cfR y x=false) ?_ f ?_ (hp.trans (n.map toR).symm)
  ·intro x y k m h1 o;obtain⟨m1,d,rfl⟩:=Zaq.1 (hp.mem_iff.1 k);obtain⟨m2,a,rfl⟩:=Zaq.1 m;have a:=n.mem_iff.1 a;have p:=c m1 d;have b2:=c m2 a;rw[Qgb,decide_eq_false_iff_not]at h1 o;simp only[toR]at h1 o;have e:m1.st=m2.st:=by omega
   obtain⟨i,hi,rfl⟩:=Zbf d;obtain⟨j,s,rfl⟩:=Zbf a;have:i=j:=(List.getElem_inj u (h₀:=by simpa using hi) (h₁:=by simpa using s)).1 (by simpa using e);subst this;rfl
  rw[Zbp];refine(Qj6 l).imp_of_mem fun{x y}k m h=>?_;have p:=g x k;have b2:=g y m;rw[Qgb,decide_eq_false_iff_not];simp only[toR];omega
 simp_all[QhF]
end Go.AM.SE
namespace Go.AM.SE
open Go.Proofs Go.AM.SD
theorem Agr0{n:Nat}{f:List Nat}(hf:∀x∈f,x<n)(g:f.Nodup):Agr n (left0 n f) (f.map rm0) ((List.range n).map rm0):=by
 refine⟨by simp,fun i r h=>?_,?_,fun r=>?_⟩
 ·rw[ZaJ]at h;by_cases hi:i<n;·rw[Zbu hi]at h;cases h;rfl
  rw[Zat (by simpa using hi)]at h;cases h
 ·rw[List.map_map];have:(fun x:Rm=>x.st)∘rm0=id:=rfl;rw[this,List.map_id];exact g
 constructor
 ·intro h;obtain⟨x,j,rfl⟩:=Zaq.1 h;have a:=hf x j;refine⟨a,?_,?_⟩;·rw[ZaE];intro c;exact(QhA.1 c).2 j
  show((List.range n).map rm0)[x]?=_;rw[ZaJ,Zbu a];rfl
 rintro⟨h1,c,d⟩;rw[ZaJ,Zbu h1]at d;have d:rm0 r.st=r:=by simpa using d
 refine Zaq.2 ⟨r.st,?_,d⟩;refine Classical.byContradiction fun k=>?_;have:=QhA.2 ⟨h1,k⟩;rw[this]at c;cases c
theorem QlX{n:Nat}{l:LB}{rs rr:List Rm}(h:Agr n l rs rr):rs.length<=n:=by
 have:=QaS n (rs.map (·.st)) h.nd fun x c=>by obtain⟨r,a,rfl⟩:=Zaq.1 c;exact((h.mem r).1 a).1
 simpa using this
theorem Qj8{l:LB}{xs:List Nat}{i x:Nat}(h:xs[i]?=some x):offs l (xs.take (i+1))=(offs l (xs.take i)).set x false:=by unfold offs;rw[ZaQ,h,Option.toList,ZaZ];rfl
def dists(n:Nat)(l:LB)(d:List Int):List Int:=(kept n l).map fun i=>d.getD i 0
theorem Qgc{i:Nat}{l:LB}:kept (i+1) l=kept i l++if lf l i=true then[i]else[]:=by unfold kept;rw[ZaH,Zbn];congr 1;rw[Zb3];rfl
theorem QhG{i:Nat}{l:LB}:(kept i l).length<=i:=by unfold kept;exact Zax (Za4 _ _) (by simp)
structure Res where
 kept:List Nat
 dist:List Int
 rem:List Rm
 rounds:Nat
 sup:Aut
 orig:List Nat
abbrev rsV(r:Res):AV:=.agg [sliN r.kept,sli r.dist,rms r.rem,.int .i64 (r.rounds:Int),sliN r.sup.al,.int .i64 (r.sup.n:Int),sliN r.sup.ms,egsN r.sup.es,sliN r.orig]
theorem Qev(r:Res):noRef (rsV r)=true:=by simp only[noRef,noRefs,Qaa,Qak,Qad];rfl
def pRes(a:Aut)(f u:List Nat)(all:Bool):Res:=let F:=fin a.n a.es a.ms f u all
 ⟨kept a.n F.1,dists a.n F.1 (pDist a.n a.es a.ms (lf F.1)),srtR F.2.1,F.2.2,restr a (lf F.1),(sAll a (lf F.1)).1⟩
abbrev nine:List AV:=[.nilsl,.nilsl,.nilsl,.int .i64 0,.nilsl,.int .i64 0,.nilsl,.nilsl,.nilsl]
def rnd0(i:Nat):Nat:=if i=0 then 0 else 1
theorem Qta(l:List Rm):(l.flatMap rmC).all AV.one=true:=by induction l with|nil=>rfl|cons x l a=>rw[Zav,ZbW,a];rfl
theorem Qip{i:Nat}{l:LB}{d:List Int}:dists (i+1) l d=dists i l d++if lf l i=true then[d.getD i 0]else[]:=by unfold dists;rw[Qgc,ZaL];congr 1;split<;>rfl
theorem QdC{i:Nat}{l:LB}{d:List Int}:(dists i l d).length=(kept i l).length:=by unfold dists;simp
abbrev St4:=Nat×LB×List Rm×Nat
abbrev rkH(a:Aut)(u:List Nat)(t:St4):HL:=[(41,.cells 0 nine),(61,.cells 0 [.nilsl,.nilsl,.sl 74 0 0 t.2.2.1.length 4,.int .i64 (t.2.2.2:Int),.nilsl,.int .i64 0,.nilsl,.nilsl,.nilsl]),(70,.cells 0 (pblk a u)),(71,.map 0 (mapF .i64 (backF a.es) (keysR a.es))),(72,.cells 0 (bls t.2.1)),(74,.cells 0 (t.2.2.1.flatMap rmC))]
theorem result39(a:Aut)(f u:List Nat)(all:Bool)(h:WfA a)(A:QOk a f u)(q:a.es.length<=1000000):PSpec Tryz.prog 87 [aV a,sliN f,sliN u,.bool all] (rsV (pRes a f u all)):=by
 have hn5:=h.n5;have hfl:=Qa3 A.fS A.fn;have hul:=Qa3 A.uS A.un;have hml:a.ms.length<=a.n:=QaS a.n a.ms h.nd h.msn;refine Zcf 40 ok87 rfl (by(try simp only[noRefs,Qai,Qal,Qaa,Qaj,Qad,Qak,Qao,Qah,noRef,Zad,Zac])<;>rfl) (Qev _) ?_;unfold s87;refine ZcL ?_;refine ch (HSpec.of_O (b:=70) (by(try simp only[noRefs,Qai,Qal,Qaa,Qaj,Qad,Qak,Qao,Qah,noRef,Zad,Zac])<;>rfl) (start34 a f u h.esn A.fn (by omega) q (by omega)) (by repeat(first|exact Fresh.e|exact Fresh.le (by assumption) (by omega)|refine Fresh.set ?_ (by omega) (by omega))) rfl) ?_;refine ZcL ?_;refine Qaq 100 (fun i:Nat=>[(3,.bool all),(8,.ptr 41 0 0),(9,.ptr 70 0 0),(10,.ptr 61 0 0),(23,sliN f),(24,.int .i64 f.length),(25,.int .i64 i)]) (fun i=>rkH a u (2,left0 a.n f,(f.take i).map rm0,rnd0 i)) (fun i=>i<=f.length) (fun i=>f.length-i) 0 0 160 (fun _:Unit=>[(3,.bool all),(8,.ptr 41 0 0),(9,.ptr 70 0 0),(10,.ptr 61 0 0)]) (fun _=>rkH a u (2,left0 a.n f,f.map rm0,rnd0 f.length)) (fun _=>True) ?_ (Zah _) ?_ ?_
 ·refine⟨[(41,.blk 41 0),(61,.blk 47 0),(70,.blk 70 0),(71,.blk 71 0),(72,.blk 72 0),(74,.nil)],rfl,Zcj,?_,au9⟩;repeat'(first|exact Zcm|(refine Zce ?_;first|rfl|(simp only[noRef,noRefs,Qag,Zad,Zac,Zag,Qaa,Qaj,Qad,Qak,Qao,Qau,Qah,Qan,Qab,Qar,Qam,Qai,Qal,Qat];done))|exact Zcy rfl|exact Zcs|exact(True.intro:RnM _ _ _ [] [])|refine Zct ?_ ?_|(refine Zcd ?_;first|rfl|(simp only[noRef,noRefs,Qag,Zad,Zac,Zag,Qaa,Qaj,Qad,Qak,Qao,Qau,Qah,Qan,Qab,Qar,Qam,Qai,Qal,Qat];done))|exact Rn.x1 rfl rfl|exact Rn.x2 rfl rfl|exact Rn.x3 rfl rfl|exact Rn.x4 rfl rfl|exact Rn.x5 rfl|exact Rn.x6 rfl|exact Rn.x7 rfl|refine Zco rfl rfl ?_|refine Zcn rfl rfl rfl ?_ ?_|refine Zcp rfl rfl rfl ?_ ?_|refine Zcq rfl rfl ?_ ?_|refine Zcr rfl rfl ?_ ?_)
  exact ZcB fun x _=>Zcd (Qab _)
 ·rintro i hi;by_cases n:i<f.length
  ·obtain⟨x,hx⟩:=Qap n;have V:=Qcm ((f.take i).map rm0);rw[Zaw,Zas,Nat.min_eq_left (by omega)]at V;have htk:((f.take (i+1)).map rm0)=(f.take i).map rm0++[rm0 x]:=by rw[ZaQ,hx,Option.toList,ZaL];rfl
   have N:((f.take i).map rm0).length=i:=by rw[Zaw,Zas];omega
   generalize hF:(f.take i).map rm0=G at*;refine ZcM (ZcP n (QaJ hx) V N) ?_;refine⟨i+1,by omega,by omega,?_⟩;rw[htk];dsimp only[rkH];rw[Zan,Zae,N];refine⟨[(41,.blk 41 0),(61,.blk 61 0),(70,.blk 70 0),(71,.blk 71 0),(72,.blk 72 0),(74,.blk 74 1)],rfl,au0,?_,au9⟩;repeat'(first|exact Zcm|(refine Zce ?_;first|rfl|(simp only[noRef,noRefs,Qag,Zad,Zac,Zag,Qaa,Qaj,Qad,Qak,Qao,Qau,Qah,Qan,Qab,Qar,Qam,Qai,Qal,Qat];done))|exact Zcy rfl|exact Zcs|exact(True.intro:RnM _ _ _ [] [])|refine Zct ?_ ?_|(refine Zcd ?_;first|rfl|(simp only[noRef,noRefs,Qag,Zad,Zac,Zag,Qaa,Qaj,Qad,Qak,Qao,Qau,Qah,Qan,Qab,Qar,Qam,Qai,Qal,Qat];done))|exact Rn.x1 rfl rfl|exact Rn.x2 rfl rfl|exact Rn.x3 rfl rfl|exact Rn.x4 rfl rfl|exact Rn.x5 rfl|exact Rn.x6 rfl|exact Rn.x7 rfl|refine Zco rfl rfl ?_|refine Zcn rfl rfl rfl ?_ ?_|refine Zcp rfl rfl rfl ?_ ?_|refine Zcq rfl rfl ?_ ?_|refine Zcr rfl rfl ?_ ?_)
   exact ZcB fun x _=>Zcd (Qab _)
  have e:i=f.length:=by omega
  subst e;dsimp only[rkH];refine ZcM n ?_;refine⟨(),?_⟩;refine⟨[(41,.blk 41 0),(61,.blk 61 0),(70,.blk 70 0),(71,.blk 71 0),(72,.blk 72 0),(74,.blk 74 0)],rfl,au0,?_,au9⟩;repeat'(first|exact Zcm|(refine Zce ?_;first|rfl|(simp only[noRef,noRefs,Qag,Zad,Zac,Zag,Qaa,Qaj,Qad,Qak,Qao,Qau,Qah,Qan,Qab,Qar,Qam,Qai,Qal,Qat];done))|exact Zcy rfl|exact Zcs|exact(True.intro:RnM _ _ _ [] [])|refine Zct ?_ ?_|(refine Zcd ?_;first|rfl|(simp only[noRef,noRefs,Qag,Zad,Zac,Zag,Qaa,Qaj,Qad,Qak,Qao,Qau,Qah,Qan,Qab,Qar,Qam,Qai,Qal,Qat];done))|exact Rn.x1 rfl rfl|exact Rn.x2 rfl rfl|exact Rn.x3 rfl rfl|exact Rn.x4 rfl rfl|exact Rn.x5 rfl|exact Rn.x6 rfl|exact Rn.x7 rfl|refine Zco rfl rfl ?_|refine Zcn rfl rfl rfl ?_ ?_|refine Zcp rfl rfl rfl ?_ ?_|refine Zcq rfl rfl ?_ ?_|refine Zcr rfl rfl ?_ ?_)
  exact ZcB fun x _=>Zcd (Qab _)
 rintro _ _;have hrn0:rnd0 f.length=if f.length=0 then 0 else 1:=rfl;have Y:cntL a.n (left0 a.n f)<a.n+1:=by
  have:cntL a.n (left0 a.n f)<=a.n:=by unfold cntL;exact Zax ZbV (by simp)
  omega
 have Z:=Agr0 (n:=a.n) A.fn (by rw[ZaK];exact A.fS.imp fun h=>by omega);dsimp only[rkH];refine ZcL ?_;refine Qaq 170 (fun t:St4=>[(3,.bool all),(8,.ptr 41 0 0),(9,.ptr 70 0 0),(10,.ptr 61 0 0),(13,.int .i64 t.1)]) (rkH a u) (fun t=>t.2.1.length=a.n/\(∃rr,Agr a.n t.2.1 t.2.2.1 rr)/\t.1+cntL a.n t.2.1<=a.n+2/\∃B,cntL a.n t.2.1<B/\pRounds a.n a.es a.ms u all B t.1 t.2.1 t.2.2.1 t.2.2.2=fin a.n a.es a.ms f u all) (fun t=>cntL a.n t.2.1) (2,left0 a.n f,f.map rm0,rnd0 f.length) 2 260 (fun t:St4=>[(8,.ptr 41 0 0),(9,.ptr 70 0 0),(10,.ptr 61 0 0)]) (rkH a u) (fun t=>t.2=fin a.n a.es a.ms f u all/\t.2.1.length=a.n/\∃rr,Agr a.n t.2.1 t.2.2.1 rr) ?_ ⟨QdB,⟨_,Z⟩,by dsimp only;omega,a.n+1,Y,rfl⟩ ?_ ?_
 ·dsimp only[rkH];rw[Zaw];refine⟨[(41,.blk 41 0),(61,.blk 61 0),(70,.blk 70 0),(71,.blk 71 0),(72,.blk 72 0),(74,.blk 74 0)],rfl,au0,?_,au9⟩;repeat'(first|exact Zcm|(refine Zce ?_;first|rfl|(simp only[noRef,noRefs,Qag,Zad,Zac,Zag,Qaa,Qaj,Qad,Qak,Qao,Qau,Qah,Qan,Qab,Qar,Qam,Qai,Qal,Qat];done))|exact Zcy rfl|exact Zcs|exact(True.intro:RnM _ _ _ [] [])|refine Zct ?_ ?_|(refine Zcd ?_;first|rfl|(simp only[noRef,noRefs,Qag,Zad,Zac,Zag,Qaa,Qaj,Qad,Qak,Qao,Qau,Qah,Qan,Qab,Qar,Qam,Qai,Qal,Qat];done))|exact Rn.x1 rfl rfl|exact Rn.x2 rfl rfl|exact Rn.x3 rfl rfl|exact Rn.x4 rfl rfl|exact Rn.x5 rfl|exact Rn.x6 rfl|exact Rn.x7 rfl|refine Zco rfl rfl ?_|refine Zcn rfl rfl rfl ?_ ?_|refine Zcp rfl rfl rfl ?_ ?_|refine Zcq rfl rfl ?_ ?_|refine Zcr rfl rfl ?_ ?_)
  exact ZcB fun x _=>Zcd (Qab _)
 ·rintro⟨c,l,rs,k⟩⟨p,⟨rr,hA⟩,hrk,B,hfu,o⟩;dsimp only at p hA hrk hfu o⊢;dsimp only[rkH];have hN:=next35 a u l c all h.inN h.nd p (by omega) q (by omega) (by omega);have v:=Qhy (left:=lf l) (unc:=u) (rank:=c) (all:=all) h.inN h.nd h.srt;obtain⟨B,rfl⟩:∃m,B=m+1:=⟨B-1,by omega⟩;have J:∀r∈pNext a.n a.es a.ms (lf l) u c all,cntL a.n (offs l ((pNext a.n a.es a.ms (lf l) u c all).map (·.st)))<cntL a.n l:=fun r y=>by
   obtain⟨h1,h2⟩:=v.2 r y;refine Qno (fun i _ hi=>?_) h1 h2 ?_;·rw[QdT]at hi;simp only[Zab]at hi;exact hi.1
   rw[QdT,Qeq (Zaq.2 ⟨r,y,rfl⟩)];simp
  unfold pRounds at o;have hrl:=QlX hA;have T:=hA.step p v.1 v.2;generalize pNext a.n a.es a.ms (lf l) u c all=g at*;refine ZcL ?_;refine ch (HSpec.of_F (ZcA (frzP (a:=a) (u:=u) (l:=l) gg gg gg p) (ZcA (Zch _) (ZcA (Zch _) Zcz))) (FSpec.Qbu hN (by(try simp only[noRefs,Qai,Qal,Qaa,Qaj,Qad,Qak,Qao,Qah,noRef,Zad,Zac])<;>rfl) (QnB _) (Qcm _) rfl)) ?_;by_cases X:g.length=0
  ·rw[if_pos X]at o;refine ZcM X ?_;refine⟨(c,l,rs,k),⟨o,p,rr,hA⟩,?_⟩;refine⟨[(41,.blk 41 0),(61,.blk 61 0),(70,.blk 70 0),(71,.blk 71 0),(72,.blk 72 0),(74,.blk 74 0)],rfl,au0,?_,au9⟩;repeat'(first|exact Zcm|(refine Zce ?_;first|rfl|(simp only[noRef,noRefs,Qag,Zad,Zac,Zag,Qaa,Qaj,Qad,Qak,Qao,Qau,Qah,Qan,Qab,Qar,Qam,Qai,Qal,Qat];done))|exact Zcy rfl|exact Zcs|exact(True.intro:RnM _ _ _ [] [])|refine Zct ?_ ?_|(refine Zcd ?_;first|rfl|(simp only[noRef,noRefs,Qag,Zad,Zac,Zag,Qaa,Qaj,Qad,Qak,Qao,Qau,Qah,Qan,Qab,Qar,Qam,Qai,Qal,Qat];done))|exact Rn.x1 rfl rfl|exact Rn.x2 rfl rfl|exact Rn.x3 rfl rfl|exact Rn.x4 rfl rfl|exact Rn.x5 rfl|exact Rn.x6 rfl|exact Rn.x7 rfl|refine Zco rfl rfl ?_|refine Zcn rfl rfl rfl ?_ ?_|refine Zcp rfl rfl rfl ?_ ?_|refine Zcq rfl rfl ?_ ?_|refine Zcr rfl rfl ?_ ?_)
   exact ZcB fun x _=>Zcd (Qab _)
  rw[if_neg X]at o;have hnl:=QlX T;rw[Zae]at hnl;obtain⟨r0,hr0⟩:∃r,r∈g:=by cases g with|nil=>exact absurd rfl X|cons r _=>exact⟨r,by simp⟩
  have hd0:=J r0 hr0;have h0':¬(g.length:Int)=0:=by omega
  refine ZcM h0' ?_;refine Qaq 300 (fun j:Nat=>[(49,rms g),(50,.int .i64 g.length),(51,.int .i64 j),(3,.bool all),(8,.ptr 41 0 0),(9,.ptr 70 0 0),(10,.ptr 61 0 0),(13,.int .i64 c),(14,rms g)]) (fun j=>rkH a u (c,offs l ((g.map (·.st)).take j),rs,k)) (fun j=>j<=g.length) (fun j=>g.length-j) 0 4 400 (fun _:Unit=>[(3,.bool all),(8,.ptr 41 0 0),(9,.ptr 70 0 0),(10,.ptr 61 0 0),(13,.int .i64 c),(14,rms g)]) (fun _=>rkH a u (c,offs l (g.map (·.st)),rs,k)) (fun _=>True) ?_ (Zah _) ?_ ?_
  ·refine⟨[(41,.blk 41 0),(61,.blk 61 0),(70,.blk 70 0),(71,.blk 71 0),(72,.blk 72 0),(74,.blk 74 0)],rfl,au0,?_,au9⟩;repeat'(first|exact Zcm|(refine Zce ?_;first|rfl|(simp only[noRef,noRefs,Qag,Zad,Zac,Zag,Qaa,Qaj,Qad,Qak,Qao,Qau,Qah,Qan,Qab,Qar,Qam,Qai,Qal,Qat];done))|exact Zcy rfl|exact Zcs|exact(True.intro:RnM _ _ _ [] [])|refine Zct ?_ ?_|(refine Zcd ?_;first|rfl|(simp only[noRef,noRefs,Qag,Zad,Zac,Zag,Qaa,Qaj,Qad,Qak,Qao,Qau,Qah,Qan,Qab,Qar,Qam,Qai,Qal,Qat];done))|exact Rn.x1 rfl rfl|exact Rn.x2 rfl rfl|exact Rn.x3 rfl rfl|exact Rn.x4 rfl rfl|exact Rn.x5 rfl|exact Rn.x6 rfl|exact Rn.x7 rfl|refine Zco rfl rfl ?_|refine Zcn rfl rfl rfl ?_ ?_|refine Zcp rfl rfl rfl ?_ ?_|refine Zcq rfl rfl ?_ ?_|refine Zcr rfl rfl ?_ ?_)
   exact ZcB fun x _=>Zcd (Qab _)
  ·rintro j hj;dsimp only[rkH];by_cases C:j<g.length
   ·obtain⟨r,y⟩:=Qap C;have hrn:=(v.2 r (Zaf y)).1;have Q:=Qj8 (l:=l) (xs:=g.map (·.st)) (i:=j) (x:=r.st) (by rw[ZaJ,y];rfl);have hol:(offs l ((g.map (·.st)).take j)).length=a.n:=by rw[Qdb];exact p
    generalize offs l ((g.map (·.st)).take j)=L at*;have h1:r.st+1<=L.length:=by omega
    refine ZcM (ZcQ C (QcD y) hrn h1 @QcM) ?_;refine⟨j+1,by omega,by omega,?_⟩;rw[Q];refine⟨[(41,.blk 41 0),(61,.blk 61 0),(70,.blk 70 0),(71,.blk 71 0),(72,.blk 72 0),(74,.blk 74 0)],rfl,au0,?_,au9⟩;repeat'(first|exact Zcm|(refine Zce ?_;first|rfl|(simp only[noRef,noRefs,Qag,Zad,Zac,Zag,Qaa,Qaj,Qad,Qak,Qao,Qau,Qah,Qan,Qab,Qar,Qam,Qai,Qal,Qat];done))|exact Zcy rfl|exact Zcs|exact(True.intro:RnM _ _ _ [] [])|refine Zct ?_ ?_|(refine Zcd ?_;first|rfl|(simp only[noRef,noRefs,Qag,Zad,Zac,Zag,Qaa,Qaj,Qad,Qak,Qao,Qau,Qah,Qan,Qab,Qar,Qam,Qai,Qal,Qat];done))|exact Rn.x1 rfl rfl|exact Rn.x2 rfl rfl|exact Rn.x3 rfl rfl|exact Rn.x4 rfl rfl|exact Rn.x5 rfl|exact Rn.x6 rfl|exact Rn.x7 rfl|refine Zco rfl rfl ?_|refine Zcn rfl rfl rfl ?_ ?_|refine Zcp rfl rfl rfl ?_ ?_|refine Zcq rfl rfl ?_ ?_|refine Zcr rfl rfl ?_ ?_)
    exact ZcB fun x _=>Zcd (Qab _)
   have e:j=g.length:=by omega
   have e2:(g.map (·.st)).take j=g.map (·.st):=by rw[ZaT];simp;omega
   rw[e2];refine ZcM C ?_;refine⟨(),?_⟩;refine⟨[(41,.blk 41 0),(61,.blk 61 0),(70,.blk 70 0),(71,.blk 71 0),(72,.blk 72 0),(74,.blk 74 0)],rfl,au0,?_,au9⟩;repeat'(first|exact Zcm|(refine Zce ?_;first|rfl|(simp only[noRef,noRefs,Qag,Zad,Zac,Zag,Qaa,Qaj,Qad,Qak,Qao,Qau,Qah,Qan,Qab,Qar,Qam,Qai,Qal,Qat];done))|exact Zcy rfl|exact Zcs|exact(True.intro:RnM _ _ _ [] [])|refine Zct ?_ ?_|(refine Zcd ?_;first|rfl|(simp only[noRef,noRefs,Qag,Zad,Zac,Zag,Qaa,Qaj,Qad,Qak,Qao,Qau,Qah,Qan,Qab,Qar,Qam,Qai,Qal,Qat];done))|exact Rn.x1 rfl rfl|exact Rn.x2 rfl rfl|exact Rn.x3 rfl rfl|exact Rn.x4 rfl rfl|exact Rn.x5 rfl|exact Rn.x6 rfl|exact Rn.x7 rfl|refine Zco rfl rfl ?_|refine Zcn rfl rfl rfl ?_ ?_|refine Zcp rfl rfl rfl ?_ ?_|refine Zcq rfl rfl ?_ ?_|refine Zcr rfl rfl ?_ ?_)
   exact ZcB fun x _=>Zcd (Qab _)
  rintro _ _;have F:=Qcm rs;have hon:=Qta g;dsimp only[rkH];refine ZcM (ZcN F hon) ?_;refine⟨(c+1,offs l (g.map (·.st)),rs++g,c),by dsimp only;exact hd0,⟨by dsimp only;rw[Qdb];exact p,⟨_,T⟩,by dsimp only;omega,B,by dsimp only;omega,o⟩,?_⟩;dsimp only[rkH];rw[Zan,Zae];refine⟨[(41,.blk 41 0),(61,.blk 61 0),(70,.blk 70 0),(71,.blk 71 0),(72,.blk 72 0),(74,.blk 74 1)],rfl,au0,?_,au9⟩;repeat'(first|exact Zcm|(refine Zce ?_;first|rfl|(simp only[noRef,noRefs,Qag,Zad,Zac,Zag,Qaa,Qaj,Qad,Qak,Qao,Qau,Qah,Qan,Qab,Qar,Qam,Qai,Qal,Qat];done))|exact Zcy rfl|exact Zcs|exact(True.intro:RnM _ _ _ [] [])|refine Zct ?_ ?_|(refine Zcd ?_;first|rfl|(simp only[noRef,noRefs,Qag,Zad,Zac,Zag,Qaa,Qaj,Qad,Qak,Qao,Qau,Qah,Qan,Qab,Qar,Qam,Qai,Qal,Qat];done))|exact Rn.x1 rfl rfl|exact Rn.x2 rfl rfl|exact Rn.x3 rfl rfl|exact Rn.x4 rfl rfl|exact Rn.x5 rfl|exact Rn.x6 rfl|exact Rn.x7 rfl|refine Zco rfl rfl ?_|refine Zcn rfl rfl rfl ?_ ?_|refine Zcp rfl rfl rfl ?_ ?_|refine Zcq rfl rfl ?_ ?_|refine Zcr rfl rfl ?_ ?_)
  exact ZcB fun x _=>Zcd (Qab _)
 rintro⟨c,l,rs,k⟩⟨z,p,rr,hA⟩;dsimp only at z p hA⊢;have hrl:=QlX hA;have hpd:=Qj1 (left:=lf l) h.inN h.nd;have P:=super54 a u l h p q (by omega);have hdi:=dist53 a u l h.inN h.nd p (by omega) q (by omega);have H:pRes a f u all=⟨kept a.n l,dists a.n l (pDist a.n a.es a.ms (lf l)),srtR rs,k,restr a (lf l),(sAll a (lf l)).1⟩:=by unfold pRes;rw[<-z]
 rw[H];have M:=Qq0 rs;have hsrl:=Qcm (srtR rs);generalize pDist a.n a.es a.ms (lf l)=d at*;dsimp only[rkH];refine ZcL ?_;refine ch (sortH (l:=rs) (fun r y=>by have:=((hA.mem r).1 y).1;omega) (by omega) hA.nd gg) ?_;refine ZcL ?_;refine ch (HSpec.of_F (ZcA (frzP (a:=a) (u:=u) (l:=l) gg gg gg p) Zcz) (FSpec.Qbu hdi (by(try simp only[noRefs,Qai,Qal,Qaa,Qaj,Qad,Qak,Qao,Qah,noRef,Zad,Zac])<;>rfl) (Qb0 _) (by rw[Qb8,hpd,ZbD]) rfl)) ?_;refine ZcL ?_;refine Qaq 500 (fun i:Nat=>[(8,.ptr 41 0 0),(9,.ptr 70 0 0),(10,.ptr 61 0 0),(77,.fsl (ints d) a.n 1),(78,.int .i64 a.n),(79,.int .i64 i)]) (fun i=>[(41,.cells 0 nine),(61,.cells 0 [.sl 76 0 0 (kept i l).length 1,.sl 77 0 0 (kept i l).length 1,.sl 74 0 0 rs.length 4,.int .i64 (k:Int),.nilsl,.int .i64 0,.nilsl,.nilsl,.nilsl]),(70,.cells 0 (pblk a u)),(71,.map 0 (mapF .i64 (backF a.es) (keysR a.es))),(72,.cells 0 (bls l)),(74,.cells 0 ((srtR rs).flatMap rmC)),(76,.cells 0 (ints (nz (kept i l)))),(77,.cells 0 (ints (dists i l d)))]) (fun i=>i<=a.n) (fun i=>a.n-i) 0 6 600 (fun _:Unit=>[(8,.ptr 41 0 0),(9,.ptr 70 0 0),(10,.ptr 61 0 0)]) (fun _=>[(41,.cells 0 nine),(61,.cells 0 [.sl 76 0 0 (kept a.n l).length 1,.sl 77 0 0 (kept a.n l).length 1,.sl 74 0 0 rs.length 4,.int .i64 (k:Int),.nilsl,.int .i64 0,.nilsl,.nilsl,.nilsl]),(70,.cells 0 (pblk a u)),(71,.map 0 (mapF .i64 (backF a.es) (keysR a.es))),(72,.cells 0 (bls l)),(74,.cells 0 ((srtR rs).flatMap rmC)),(76,.cells 0 (ints (nz (kept a.n l)))),(77,.cells 0 (ints (dists a.n l d)))]) (fun _=>True) ?_ (Zah _) ?_ ?_
 ·refine⟨[(41,.blk 41 0),(61,.blk 61 0),(70,.blk 70 0),(71,.blk 71 0),(72,.blk 72 0),(74,.blk 74 0),(76,.nil),(77,.nil)],rfl,au0,?_,au9⟩;repeat'(first|exact Zcm|(refine Zce ?_;first|rfl|(simp only[noRef,noRefs,Qag,Zad,Zac,Zag,Qaa,Qaj,Qad,Qak,Qao,Qau,Qah,Qan,Qab,Qar,Qam,Qai,Qal,Qat];done))|exact Zcy rfl|exact Zcs|exact(True.intro:RnM _ _ _ [] [])|refine Zct ?_ ?_|(refine Zcd ?_;first|rfl|(simp only[noRef,noRefs,Qag,Zad,Zac,Zag,Qaa,Qaj,Qad,Qak,Qao,Qau,Qah,Qan,Qab,Qar,Qam,Qai,Qal,Qat];done))|exact Rn.x1 rfl rfl|exact Rn.x2 rfl rfl|exact Rn.x3 rfl rfl|exact Rn.x4 rfl rfl|exact Rn.x5 rfl|exact Rn.x6 rfl|exact Rn.x7 rfl|refine Zco rfl rfl ?_|refine Zcn rfl rfl rfl ?_ ?_|refine Zcp rfl rfl rfl ?_ ?_|refine Zcq rfl rfl ?_ ?_|refine Zcr rfl rfl ?_ ?_)
  exact ZcB fun x _=>Zcd (Qab _)
 ·rintro i hi;by_cases n:i<a.n
  ·have s:=Qgc (i:=i) (l:=l);have w:=Qip (i:=i) (l:=l) (d:=d);have hkl:=@QhG i l;have E:=@QdC i l d;generalize kept i l=K at*;generalize dists i l d=D at*;have R:i<l.length:=by omega
   have U:i<d.length:=by omega
   have I:d[i]?=some (d.getD i 0):=by rw[Zal U];simp[U]
   by_cases h1:lf l i=true
   ·rw[if_pos h1]at s w;refine ZcM (ZcQ n (QeO R) (QaP I) h1 E) ?_;refine⟨i+1,by omega,by omega,?_⟩;rw[s,w,Zae,QaF,Qaw,Qaw];refine⟨[(41,.blk 41 0),(61,.blk 61 0),(70,.blk 70 0),(71,.blk 71 0),(72,.blk 72 0),(74,.blk 74 0),(76,.blk 76 1),(77,.blk 77 1)],rfl,au0,?_,au9⟩;repeat'(first|exact Zcm|(refine Zce ?_;first|rfl|(simp only[noRef,noRefs,Qag,Zad,Zac,Zag,Qaa,Qaj,Qad,Qak,Qao,Qau,Qah,Qan,Qab,Qar,Qam,Qai,Qal,Qat];done))|exact Zcy rfl|exact Zcs|exact(True.intro:RnM _ _ _ [] [])|refine Zct ?_ ?_|(refine Zcd ?_;first|rfl|(simp only[noRef,noRefs,Qag,Zad,Zac,Zag,Qaa,Qaj,Qad,Qak,Qao,Qau,Qah,Qan,Qab,Qar,Qam,Qai,Qal,Qat];done))|exact Rn.x1 rfl rfl|exact Rn.x2 rfl rfl|exact Rn.x3 rfl rfl|exact Rn.x4 rfl rfl|exact Rn.x5 rfl|exact Rn.x6 rfl|exact Rn.x7 rfl|refine Zco rfl rfl ?_|refine Zcn rfl rfl rfl ?_ ?_|refine Zcp rfl rfl rfl ?_ ?_|refine Zcq rfl rfl ?_ ?_|refine Zcr rfl rfl ?_ ?_)
    exact ZcB fun x _=>Zcd (Qab _)
   rw[if_neg h1,Zao]at s w;rw[Zai]at h1;refine ZcM (ZcP n (QeO R) (QaP I) h1) ?_;refine⟨i+1,by omega,by omega,?_⟩;rw[s,w];refine⟨[(41,.blk 41 0),(61,.blk 61 0),(70,.blk 70 0),(71,.blk 71 0),(72,.blk 72 0),(74,.blk 74 0),(76,.blk 76 0),(77,.blk 77 0)],rfl,au0,?_,au9⟩;repeat'(first|exact Zcm|(refine Zce ?_;first|rfl|(simp only[noRef,noRefs,Qag,Zad,Zac,Zag,Qaa,Qaj,Qad,Qak,Qao,Qau,Qah,Qan,Qab,Qar,Qam,Qai,Qal,Qat];done))|exact Zcy rfl|exact Zcs|exact(True.intro:RnM _ _ _ [] [])|refine Zct ?_ ?_|(refine Zcd ?_;first|rfl|(simp only[noRef,noRefs,Qag,Zad,Zac,Zag,Qaa,Qaj,Qad,Qak,Qao,Qau,Qah,Qan,Qab,Qar,Qam,Qai,Qal,Qat];done))|exact Rn.x1 rfl rfl|exact Rn.x2 rfl rfl|exact Rn.x3 rfl rfl|exact Rn.x4 rfl rfl|exact Rn.x5 rfl|exact Rn.x6 rfl|exact Rn.x7 rfl|refine Zco rfl rfl ?_|refine Zcn rfl rfl rfl ?_ ?_|refine Zcp rfl rfl rfl ?_ ?_|refine Zcq rfl rfl ?_ ?_|refine Zcr rfl rfl ?_ ?_)
   exact ZcB fun x _=>Zcd (Qab _)
  have e:i=a.n:=by omega
  subst e;refine ZcM n ?_;refine⟨(),?_⟩;refine⟨[(41,.blk 41 0),(61,.blk 61 0),(70,.blk 70 0),(71,.blk 71 0),(72,.blk 72 0),(74,.blk 74 0),(76,.blk 76 0),(77,.blk 77 0)],rfl,au0,?_,au9⟩;repeat'(first|exact Zcm|(refine Zce ?_;first|rfl|(simp only[noRef,noRefs,Qag,Zad,Zac,Zag,Qaa,Qaj,Qad,Qak,Qao,Qau,Qah,Qan,Qab,Qar,Qam,Qai,Qal,Qat];done))|exact Zcy rfl|exact Zcs|exact(True.intro:RnM _ _ _ [] [])|refine Zct ?_ ?_|(refine Zcd ?_;first|rfl|(simp only[noRef,noRefs,Qag,Zad,Zac,Zag,Qaa,Qaj,Qad,Qak,Qao,Qau,Qah,Qan,Qab,Qar,Qam,Qai,Qal,Qat];done))|exact Rn.x1 rfl rfl|exact Rn.x2 rfl rfl|exact Rn.x3 rfl rfl|exact Rn.x4 rfl rfl|exact Rn.x5 rfl|exact Rn.x6 rfl|exact Rn.x7 rfl|refine Zco rfl rfl ?_|refine Zcn rfl rfl rfl ?_ ?_|refine Zcp rfl rfl rfl ?_ ?_|refine Zcq rfl rfl ?_ ?_|refine Zcr rfl rfl ?_ ?_)
  exact ZcB fun x _=>Zcd (Qab _)
 rintro _ _;have E:=@QdC a.n l d;generalize restr a (lf l)=S at*;generalize(sAll a (lf l)).1=O at*;refine ZcL ?_;refine ch (HSpec.of_F (ZcA (frzP (a:=a) (u:=u) (l:=l) gg gg gg p) Zcz) P) ?_;refine ZcL ?_;refine⟨.inr trivial,_,rfl,?_⟩;refine Rn.agg (Zct (Zcv (g:=0) rfl (by simp[ints]) (Zce (Qaa _))) (Zct ?_ (Zct ?_ (Zct (Zcd rfl) (Zct (Zcd (Qab _)) (Zct (Zcd rfl) (Zct (Zcd (Qab _)) (Zct (Zcd (Qam _)) (Zct (Zcd (Qab _)) Zcs)))))))));·have :(dists a.n l d).length=(kept a.n l).length:=E;show Rn 0 π0 _ (.fsl (ints (dists a.n l d)) (dists a.n l d).length 1) _;rw[this];exact Zcv (g:=0) rfl (by rw[Qb8,this,ZbD]) (Zce (Qaa _))
 show Rn 0 π0 _ (.fsl ((srtR rs).flatMap rmC) (srtR rs).length 4) _;rw[M];exact Zcv (g:=0) rfl (by rw[Qcm,M]) (Zce (Qak _))
end Go.AM.SE
namespace Go.AM.SE
open Go.Proofs Go.AM.SD
def mach:Aut:=⟨[0,1,2,3],3,[0],[(0,0,1),(1,1,0),(1,2,2),(2,3,0)]⟩
def mach3:Aut:=⟨[0,1,2,3],3,[0],[(0,0,1),(1,1,0),(1,2,2)]⟩
theorem q1:QOk mach [2] [1,2]:=⟨by decide,by decide,by decide,by decide⟩
theorem q2:QOk mach3 [] [1,2]:=⟨by decide,by decide,by decide,by decide⟩
theorem QpK(x y:Rm):aEq (.flat true [.i,.i,.i,.i]) true (rmV x) (rmV y)=some (.bool (!decide (x=y))):=by have:∀n m:Nat,decide ((n:Int)=(m:Int))=decide (n=m):=fun n m=>decide_eq_decide.2 (by omega);obtain⟨a,b,c,d⟩:=x;obtain⟨h,i,g,f⟩:=y;simp only[aEq,eqCells,eqCell,if_true];simp only[Rm.mk.injEq,Bool.decide_and,this];cases decide (a=h)<;>cases decide (b=i)<;>cases decide (c=g)<;>cases decide (d=f)<;>rfl
theorem sameRems18(a b:List Rm)(o:a.length<=1000000):PSpec Tryz.prog 81 [rms a,rms b] (.bool (decide (a=b))):=by
 refine Zcg 64 ok81 rfl (by(try simp only[noRefs,Qai,Qal,Qaa,Qaj,Qad,Qak,Qao,Qah,noRef,Zad,Zac])<;>rfl) rfl ?_;by_cases f:a.length=b.length
 ·unfold s81;refine ZcM f ?_;refine QaN 100 (fun i:Nat=>[(0,rms a),(1,rms b),(5,.int .i64 i)]) (fun _=>[]) (fun i=>i<=a.length/\∀j,j<i->a[j]?=b[j]?) (fun i=>a.length-i) 0 ⟨[],rfl,au0,au10,au9⟩ ⟨Zah _,fun j l=>absurd l (ZaD _)⟩ ?_;rintro i⟨hi,n⟩;by_cases c:i<a.length
  ·obtain⟨x,k⟩:=Qap c;obtain⟨y,g⟩:=Qap (l:=b) (i:=i) (by omega);have d:i<b.length:=by omega
   by_cases h:x=y
   ·have m:aEq (.flat true [.i,.i,.i,.i]) true (rmV y) (rmV y)=some (.bool false):=by rw[QpK];simp
    refine ZcM (ZcR c d (QcD k) (QcD g) m h) ?_;refine⟨i+1,by omega,⟨by omega,fun j l=>?_⟩,⟨[],rfl,au0,au10,au9⟩⟩;by_cases e:j=i;·subst e;rw[k,g,h]
    exact n j (by omega)
   have m:aEq (.flat true [.i,.i,.i,.i]) true (rmV x) (rmV y)=some (.bool true):=by rw[QpK];simp[h]
   refine ZcM (ZcQ c d (QcD k) (QcD g) m) ?_;refine⟨.inr trivial,_,rfl,?_⟩;have:a≠b:=fun e=>by subst e;rw[k]at g;cases g;exact h rfl
   simp[resOf,QaL,this]
  have :a=b:=Zba fun j=>by
   by_cases l:j<i;·exact n j l
   rw[Zat (by omega),Zat (by omega)]
  refine ZcM c ?_;exact⟨.inr trivial,_,rfl,by simp[resOf,QaL,this]⟩
 unfold s81;refine ZcM f ?_;have:a≠b:=fun e=>f (by rw[e]);exact⟨.inr trivial,_,rfl,by simp[resOf,QaL,this]⟩
end Go.AM.SE
namespace Go.AM.SE
open Go.Proofs Go.AM.SD
theorem Qr1{α:Type}{p:α->Bool}{l:List α}{i:Nat}{x:α}(c:l[i]?=some x)(hp:p x=true)(a:∀j y,j<i->l[j]?=some y->p y=false):l.find? p=some x:=by obtain⟨hi,e⟩:=Zam.1 c;rw[List.find?_eq_some_iff_getElem];refine⟨hp,i,hi,e,fun j d=>?_⟩;have:=a j l[j] d (Zal (by omega));simp[this]
def stepI(es:List Ed)(s ev:Nat):Int:=match stepA es s ev with|some to=>(to:Int)|none=>-1
theorem step60(a:Aut)(s ev:Nat)(p:a.es.length<=1000000):PSpec Tryz.prog 62 [aV a,.int .i64 s,.int .i64 ev] (.int .i64 (stepI a.es s ev)):=by
 refine Zcg 64 ok62 rfl (by(try simp only[noRefs,Qai,Qal,Qaa,Qaj,Qad,Qak,Qao,Qah,noRef,Zad,Zac])<;>rfl) rfl ?_;unfold s62;refine ZcL ?_;refine QaN 100 (fun i:Nat=>[(1,.int .i64 s),(2,.int .i64 ev),(3,.ptr 50 0 0),(7,.int .i64 i)]) (fun _=>[(50,.cells 0 [sliN a.al,.int .i64 (a.n:Int),sliN a.ms,egsN a.es])]) (fun i=>i<=a.es.length/\∀(j:Nat)y,j<i->a.es[j]?=some y->(y.1==s&&y.2.1==ev)=false) (fun i=>a.es.length-i) 0 ⟨[(50,.blk 64 0)],rfl,au0,au10,au9⟩ ⟨Zah _,fun j y l=>absurd l (ZaD _)⟩ ?_;rintro i⟨hi,m⟩;by_cases d:i<a.es.length
 ·obtain⟨e,he⟩:=Qap d;have g:(e.1==s&&e.2.1==ev)=false->i+1<=a.es.length/\∀(j:Nat)y,j<i+1->a.es[j]?=some y->(y.1==s&&y.2.1==ev)=false:=fun h=>⟨by omega,fun j y l k=>by
  by_cases r:j=i;·subst r;rw[he]at k;cases k;exact h
  exact m j y (by omega) k⟩;by_cases h1:e.1=s
  ·by_cases o:e.2.1=ev
   ·have hf:=Qr1 (p:=fun e:Ed=>e.1==s&&e.2.1==ev) he (by simp[h1,o]) m;have n:stepI a.es s ev=e.2.2:=by unfold stepI stepA;rw[hf];rfl
    have c:(e.1:Int)=(s:Int):=by omega
    have f:(e.2.1:Int)=(ev:Int):=by omega
    refine ZcM (ZcP d (QaB he) c f) ?_;exact⟨.inr trivial,_,rfl,by rw[n];rfl⟩
   have c:(e.1:Int)=(s:Int):=by omega
   have f:¬(e.2.1:Int)=(ev:Int):=by omega
   refine ZcM (ZcP d (QaB he) c f) ?_;exact⟨i+1,by omega,g (by simp[o]),⟨[(50,.blk 50 0)],rfl,au0,au10,au9⟩⟩
  have c:¬(e.1:Int)=(s:Int):=by omega
  refine ZcM (ZcO d (QaB he) c) ?_;exact⟨i+1,by omega,g (by simp[h1]),⟨[(50,.blk 50 0)],rfl,au0,au10,au9⟩⟩
 have hf:a.es.find? (fun e=>e.1==s&&e.2.1==ev)=none:=by rw[List.find?_eq_none];intro y k;obtain⟨j,l,q⟩:=Qcy k;rw[m j y (by omega) l];decide
 have n:stepI a.es s ev=-1:=by unfold stepI stepA;rw[hf];rfl
 refine ZcM d ?_;exact⟨.inr trivial,_,rfl,by rw[n];rfl⟩
theorem index61(l:List Int)(n:Int)(p:l.length<=140737488355328):PSpec Tryz.prog 261 [sli l,.int .i64 n] (.int .i64 (indexR l n)):=by
 refine Zcg 64 ok261 rfl (by(try simp only[noRefs,Qai,Qal,Qaa,Qaj,Qad,Qak,Qao,Qah,noRef,Zad,Zac])<;>rfl) rfl ?_;unfold s261;refine ZcL ?_;refine QaN 100 (fun i:Nat=>[(0,sli l),(1,.int .i64 n),(5,.int .i64 i)]) (fun _=>[]) (fun i=>i<=l.length/\∀(j:Nat)y,j<i->l[j]?=some y->y≠n) (fun i=>l.length-i) 0 ⟨[],rfl,au0,au10,au9⟩ ⟨Zah _,fun j y d=>absurd d (ZaD _)⟩ ?_;rintro i⟨hi,g⟩;by_cases a:i<l.length
 ·obtain⟨x,c⟩:=Qap a;by_cases f:x=n
  ·have h1:n∈l:=f▸Zaf c;have m:l.findIdx (·==n)=i:=by rw[List.findIdx_eq a];refine⟨by rw[Zal a]at c;cases c;simp[f],fun j d=>?_⟩;have:=g j l[j] d (Zal (by omega));simpa using this
   refine ZcM (ZcO a (QaP c) f) ?_;refine⟨.inr trivial,_,rfl,?_⟩;simp only[indexR,if_pos h1,m];rfl
  refine ZcM (ZcO a (QaP c) f) ?_;refine⟨i+1,by omega,⟨by omega,fun j y d k=>?_⟩,⟨[],rfl,au0,au10,au9⟩⟩;by_cases e:j=i;·subst e;rw[c]at k;cases k;exact f
  exact g j y (by omega) k
 have :n∉l:=fun h=>by obtain⟨j,d,o⟩:=Qcy h;exact g j n (by omega) d rfl
 refine ZcM a ?_;exact⟨.inr trivial,_,rfl,by simp only[indexR,if_neg this];rfl⟩
theorem QlY{l:List Nat}{x:Nat}(h:x∈l):indexR (nz l) x=idx l x:=by
 have h1:(x:Int)∈nz l:=Zaq.2 ⟨x,h,rfl⟩;unfold indexR;rw[if_pos h1];unfold idx nz;rw[List.findIdx_map];congr 2;funext y;show((y:Int)==(x:Int))=(y==x);by_cases e:y=x;·subst e;simp
 have :¬(y:Int)=(x:Int):=by omega
 rw[beq_eq_false_iff_ne.2 this,beq_eq_false_iff_ne.2 e]
theorem Qj9{al:List Nat}{es:List Ed}{s:Nat}{out:List Nat}{k ev:Nat}(h:al[k]?=some ev):(al.take (k+1)).foldl (fEv es s) out=fEv es s ((al.take k).foldl (fEv es s) out) ev:=by rw[ZaQ,h,Option.toList,ZaZ];rfl
structure Raw(a:Aut):Prop where
 esn:∀e∈a.es,e.1<a.n/\e.2.2<a.n
 n5:a.n<=5
 el:a.es.length<=1000000
 al:a.al.length<=32
 ml:a.ms.length<=32
theorem found59(a:Aut)(h:Raw a):PSpec Tryz.prog 259 [aV a] (sliN (found a)):=by
 have L:=h.n5;have K:=h.al;refine Zcf 64 ok259 rfl (by(try simp only[noRefs,Qai,Qal,Qaa,Qaj,Qad,Qak,Qao,Qah,noRef,Zad,Zac])<;>rfl) (Qab _) ?_;have m:fQ a.al a.es (a.n+1) 0 (if 0<a.n then[0]else[])=found a:=rfl;by_cases J:0<a.n
 ·rw[if_pos J]at m;have y:(0:Int)<(a.n:Int):=by omega
  unfold s259;refine ZcM (ZcO y @Qej @QhD) ?_;refine QaN 100 (fun t:Nat×List Nat=>[(1,.ptr 50 0 0),(3,.sl 75 0 0 t.2.length 1),(4,.int .i64 t.1)]) (fun t=>[(50,.cells 0 [sliN a.al,.int .i64 (a.n:Int),sliN a.ms,egsN a.es]),(75,.cells 0 (ints (nz t.2)))]) (fun t=>t.1<=t.2.length/\FI a.n t.2/\fQ a.al a.es (a.n+1-t.1) t.1 t.2=found a) (fun t=>a.n+1-t.1) (0,[0]) ?_ ⟨Zah _,⟨by simp,fun x I=>by simp at I;omega⟩,by dsimp only;exact m⟩ ?_;·exact⟨[(50,.blk 64 0),(75,.blk 72 0)],rfl,au0,au10,au9⟩
  rintro⟨i,out⟩⟨hi,l,z⟩;dsimp only at hi l z⊢;have E:=l.len;by_cases f:i<out.length
  ·obtain⟨s,C⟩:=Qap f;have B:fQ a.al a.es (a.n+1-(i+1)) (i+1) (fRow a.al a.es s out)=found a:=by rw[<-z,show a.n+1-i=(a.n+1-(i+1))+1 by omega];simp only[fQ,C]
   have g:=fun k=>FI.row h.esn s (a.al.take k) out l;refine ZcM f ?_;refine Qaq 200 (fun k:Nat=>[(1,.ptr 50 0 0),(3,.sl 75 0 0 ((a.al.take k).foldl (fEv a.es s) out).length 1),(4,.int .i64 i),(5,.int .i64 k)]) (fun k=>[(50,.cells 0 [sliN a.al,.int .i64 (a.n:Int),sliN a.ms,egsN a.es]),(75,.cells 0 (ints (nz ((a.al.take k).foldl (fEv a.es s) out))))]) (fun k=>k<=a.al.length) (fun k=>a.al.length-k) 0 2 300 (fun _:Unit=>[(1,.ptr 50 0 0),(3,.sl 75 0 0 (fRow a.al a.es s out).length 1),(4,.int .i64 i)]) (fun _=>[(50,.cells 0 [sliN a.al,.int .i64 (a.n:Int),sliN a.ms,egsN a.es]),(75,.cells 0 (ints (nz (fRow a.al a.es s out))))]) (fun _=>True) ?_ (Zah _) ?_ ?_;·exact⟨[(50,.blk 50 0),(75,.blk 75 0)],rfl,au0,au10,au9⟩
   ·rintro k hk;by_cases j:k<a.al.length
    ·obtain⟨ev,u⟩:=Qap j;have c:=Qj9 (es:=a.es) (s:=s) (out:=out) u;obtain⟨v,⟨t,n⟩,_⟩:=g k;have G:=v.len;have p:((a.al.take k).foldl (fEv a.es s) out)[i]?=some s:=by rw[n,Za5 f];exact C
     generalize(a.al.take k).foldl (fEv a.es s) out=o at*;have A:i<o.length:=(Zam.1 p).1
     refine ZcM (ZcP j A (QaZ (nz_at p)) (QaJ u)) ?_;refine cp (step60 a s ev h.el) ?_;cases d:stepA a.es s ev with|none=>
      have h1:stepI a.es s ev=-1:=by unfold stepI;rw[d]
      have q:fEv a.es s o ev=o:=by unfold fEv;rw[d]
      rw[q]at c;rw[h1];refine ZcL ?_;refine⟨k+1,by omega,by omega,?_⟩;rw[c];exact⟨[(50,.blk 50 0),(75,.blk 75 0)],rfl,au0,au10,au9⟩|some to=>
      have h1:stepI a.es s ev=to:=by unfold stepI;rw[d]
      have H:=Qfb h.esn d;rw[h1];refine ZcL ?_;have r:=has36 (nz o) to (by simp;omega);rw[Qcz,Qbi]at r;by_cases hc:o.contains to=true
      ·have q:fEv a.es s o ev=o:=by unfold fEv;rw[d];exact if_pos hc
       rw[q]at c;rw[hc]at r;refine ch (Zcx (ZcA (FrzTo.all gg (by simp[ints])) (ZcA (Zch _) Zcz)) r rfl) ?_;refine ZcL ?_;refine⟨k+1,by omega,by omega,?_⟩;rw[c];exact⟨[(50,.blk 50 0),(75,.blk 75 0)],rfl,au0,au10,au9⟩
      have q:fEv a.es s o ev=o++[to]:=by unfold fEv;rw[d];exact if_neg hc
      rw[q]at c;rw[Zai]at hc;rw[hc]at r;refine ch (Zcx (ZcA (FrzTo.all gg (by simp[ints])) (ZcA (Zch _) Zcz)) r rfl) ?_;refine ZcL ?_;refine⟨k+1,by omega,by omega,?_⟩;rw[c,Zae,QaF,Qaw];exact⟨[(50,.blk 50 0),(75,.blk 75 1)],rfl,au0,au10,au9⟩
    have e:k=a.al.length:=by omega
    subst e;refine ZcM j ?_;refine⟨(),?_⟩;exact⟨[(50,.blk 50 0),(75,.blk 75 0)],rfl,au0,au10,au9⟩
   rintro _ _;obtain⟨v,⟨t,n⟩,_⟩:=g a.al.length;rw[Zay]at v n;have n:fRow a.al a.es s out=out++t:=n;refine ZcL ?_;refine⟨(i+1,fRow a.al a.es s out),by dsimp only;omega,⟨by dsimp only;rw[n,List.length_append];omega,v,B⟩,?_⟩;exact⟨[(50,.blk 50 0),(75,.blk 75 0)],rfl,au0,au10,au9⟩
  have F:out[i]?=none:=Zat (by omega);have w:out=found a:=by rw[<-z,show a.n+1-i=(a.n-i)+1 by omega];simp only[fQ,F]
  refine ZcM f ?_;refine⟨.inr trivial,_,rfl,?_⟩;rw[w];exact Zcv (g:=0) rfl (by simp[ints]) (Zce (Qaa _))
 rw[if_neg J]at m;have y:¬(0:Int)<(a.n:Int):=by omega
 unfold s259;refine ZcM y ?_;refine QaN 100 (fun t:Nat×List Nat=>[(1,.ptr 50 0 0),(3,.sl 75 0 0 t.2.length 1),(4,.int .i64 t.1)]) (fun t=>[(50,.cells 0 [sliN a.al,.int .i64 (a.n:Int),sliN a.ms,egsN a.es]),(75,.cells 0 (ints (nz t.2)))]) (fun t=>t.1<=t.2.length/\FI a.n t.2/\fQ a.al a.es (a.n+1-t.1) t.1 t.2=found a) (fun t=>a.n+1-t.1) (0,([]:List Nat)) ?_ ⟨Zah _,⟨by simp,fun x I=>by cases I⟩,by dsimp only;exact m⟩ ?_;·exact⟨[(50,.blk 64 0),(75,.nil)],rfl,au0,au10,au9⟩
 rintro⟨i,out⟩⟨hi,l,z⟩;dsimp only at hi l z⊢;have E:=l.len;by_cases f:i<out.length
 ·obtain⟨s,C⟩:=Qap f;have B:fQ a.al a.es (a.n+1-(i+1)) (i+1) (fRow a.al a.es s out)=found a:=by rw[<-z,show a.n+1-i=(a.n+1-(i+1))+1 by omega];simp only[fQ,C]
  have g:=fun k=>FI.row h.esn s (a.al.take k) out l;refine ZcM f ?_;refine Qaq 200 (fun k:Nat=>[(1,.ptr 50 0 0),(3,.sl 75 0 0 ((a.al.take k).foldl (fEv a.es s) out).length 1),(4,.int .i64 i),(5,.int .i64 k)]) (fun k=>[(50,.cells 0 [sliN a.al,.int .i64 (a.n:Int),sliN a.ms,egsN a.es]),(75,.cells 0 (ints (nz ((a.al.take k).foldl (fEv a.es s) out))))]) (fun k=>k<=a.al.length) (fun k=>a.al.length-k) 0 2 300 (fun _:Unit=>[(1,.ptr 50 0 0),(3,.sl 75 0 0 (fRow a.al a.es s out).length 1),(4,.int .i64 i)]) (fun _=>[(50,.cells 0 [sliN a.al,.int .i64 (a.n:Int),sliN a.ms,egsN a.es]),(75,.cells 0 (ints (nz (fRow a.al a.es s out))))]) (fun _=>True) ?_ (Zah _) ?_ ?_;·exact⟨[(50,.blk 50 0),(75,.blk 75 0)],rfl,au0,au10,au9⟩
  ·rintro k hk;by_cases j:k<a.al.length
   ·obtain⟨ev,u⟩:=Qap j;have c:=Qj9 (es:=a.es) (s:=s) (out:=out) u;obtain⟨v,⟨t,n⟩,_⟩:=g k;have G:=v.len;have p:((a.al.take k).foldl (fEv a.es s) out)[i]?=some s:=by rw[n,Za5 f];exact C
    generalize(a.al.take k).foldl (fEv a.es s) out=o at*;have A:i<o.length:=(Zam.1 p).1
    refine ZcM (ZcP j A (QaZ (nz_at p)) (QaJ u)) ?_;refine cp (step60 a s ev h.el) ?_;cases d:stepA a.es s ev with|none=>
     have h1:stepI a.es s ev=-1:=by unfold stepI;rw[d]
     have q:fEv a.es s o ev=o:=by unfold fEv;rw[d]
     rw[q]at c;rw[h1];refine ZcL ?_;refine⟨k+1,by omega,by omega,?_⟩;rw[c];exact⟨[(50,.blk 50 0),(75,.blk 75 0)],rfl,au0,au10,au9⟩|some to=>
     have h1:stepI a.es s ev=to:=by unfold stepI;rw[d]
     have H:=Qfb h.esn d;rw[h1];refine ZcL ?_;have r:=has36 (nz o) to (by simp;omega);rw[Qcz,Qbi]at r;by_cases hc:o.contains to=true
     ·have q:fEv a.es s o ev=o:=by unfold fEv;rw[d];exact if_pos hc
      rw[q]at c;rw[hc]at r;refine ch (Zcx (ZcA (FrzTo.all gg (by simp[ints])) (ZcA (Zch _) Zcz)) r rfl) ?_;refine ZcL ?_;refine⟨k+1,by omega,by omega,?_⟩;rw[c];exact⟨[(50,.blk 50 0),(75,.blk 75 0)],rfl,au0,au10,au9⟩
     have q:fEv a.es s o ev=o++[to]:=by unfold fEv;rw[d];exact if_neg hc
     rw[q]at c;rw[Zai]at hc;rw[hc]at r;refine ch (Zcx (ZcA (FrzTo.all gg (by simp[ints])) (ZcA (Zch _) Zcz)) r rfl) ?_;refine ZcL ?_;refine⟨k+1,by omega,by omega,?_⟩;rw[c,Zae,QaF,Qaw];exact⟨[(50,.blk 50 0),(75,.blk 75 1)],rfl,au0,au10,au9⟩
   have e:k=a.al.length:=by omega
   subst e;refine ZcM j ?_;refine⟨(),?_⟩;exact⟨[(50,.blk 50 0),(75,.blk 75 0)],rfl,au0,au10,au9⟩
  rintro _ _;obtain⟨v,⟨t,n⟩,_⟩:=g a.al.length;rw[Zay]at v n;have n:fRow a.al a.es s out=out++t:=n;refine ZcL ?_;refine⟨(i+1,fRow a.al a.es s out),by dsimp only;omega,⟨by dsimp only;rw[n,List.length_append];omega,v,B⟩,?_⟩;exact⟨[(50,.blk 50 0),(75,.blk 75 0)],rfl,au0,au10,au9⟩
 have F:out[i]?=none:=Zat (by omega);have w:out=found a:=by rw[<-z,show a.n+1-i=(a.n-i)+1 by omega];simp only[fQ,F]
 refine ZcM f ?_;refine⟨.inr trivial,_,rfl,?_⟩;rw[w];exact Zcv (g:=0) rfl (by simp[ints]) (Zce (Qaa _))
end Go.AM.SE
namespace Go.AM.SE
open Go.Proofs Go.AM.SD
theorem Qq2(l:List Int):(ints l).all AV.one=true:=by induction l with|nil=>rfl|cons x l a=>show(AV.one _&&(ints l).all AV.one)=true;rw[a];rfl
theorem empty45(l:List Nat)(c:l.length<=1000000):PSpec Tryz.prog 224 [sliN l] (.agg [sliN l,.int .i64 0,.nilsl,.nilsl]):=by refine Zcf 64 ok224 rfl (by(try simp only[noRefs,Qai,Qal,Qaa,Qaj,Qad,Qak,Qao,Qah,noRef,Zad,Zac])<;>rfl) (by simp only[noRef,noRefs,Qaa];rfl) ?_;have a:=Qq2 (nz l);unfold s224;refine ZcM a ?_;refine⟨.inr trivial,_,rfl,?_⟩;exact Rn.agg (Zct (Zcv (g:=1) rfl (by simp[ints]) (Zce (Qaa _))) (Zce rfl))
theorem Qka{a:Aut}{f:List Nat}{i s k ev:Nat}(h:a.al[k]?=some ev):(a.al.take (k+1)).filterMap (fun ev=>(stepA a.es s ev).map fun to=>(i,ev,idx f to))=(a.al.take k).filterMap (fun ev=>(stepA a.es s ev).map fun to=>(i,ev,idx f to))++match stepA a.es s ev with|some to=>[(i,ev,idx f to)]|none=>[]:=by rw[ZaQ,h,Option.toList,ZbJ];congr 1;cases e:stepA a.es s ev with|none=>simp[e]|some to=>simp[e]
def cPre(a:Aut)(f:List Nat)(i:Nat):List Ed:=(List.range i).flatMap fun i=>cRow a f i (f.getD i 0)
def cPart(a:Aut)(f:List Nat)(i s k:Nat):List Ed:=cPre a f i++(a.al.take k).filterMap (fun ev=>(stepA a.es s ev).map fun to=>(i,ev,idx f to))
theorem QpL{a:Aut}{f:List Nat}{i s:Nat}(h:f[i]?=some s):cPre a f (i+1)=cPre a f i++cRow a f i s:=by
 unfold cPre;rw[ZaH,Zan];have:f.getD i 0=s:=by rw[Zak,h];rfl
 rw[Zav,Zb4,Zao,this]
theorem Qq3(a:Aut)(f:List Nat)(i s:Nat):(cRow a f i s).length<=a.al.length:=by unfold cRow;exact ZbA _ _
theorem QhH(a:Aut)(f:List Nat):∀i,(cPre a f i).length<=i*a.al.length|0=>by simp[cPre]|i+1=>by have h1:=QhH a f i;have c:=Qq3 a f i (f.getD i 0);unfold cPre at h1⊢;rw[ZaH,Zan,Zae,Zbc];simp only[Zav,Zb4,Zao];omega
theorem canon46(a:Aut)(h:Raw a):PSpec Tryz.prog 225 [aV a] (aV (canon a)):=by
 have J:=h.n5;have A:=h.al;have I:=h.ml;obtain⟨f1,_,f3⟩:=Qfc h.esn;have K:=f1.len;refine Zcf 64 ok225 rfl (by(try simp only[noRefs,Qai,Qal,Qaa,Qaj,Qad,Qak,Qao,Qah,noRef,Zad,Zac])<;>rfl) (Qdf _) ?_;have L:=found59 a h;have w:canon a=⟨a.al,(found a).length,mks a (found a).length (found a),cPre a (found a) (found a).length⟩:=rfl;rw[w];generalize found a=f at*;unfold s225;refine ZcL ?_;refine cp L ?_;refine ZcL ?_;refine cp (empty45 a.al (by omega)) ?_;refine ZcL ?_;refine Qaq 100 (fun i:Nat=>[(1,.ptr 50 0 0),(2,.ptr 51 0 0),(3,sliN f),(4,.ptr 52 0 0),(5,.int .i64 i)]) (fun i=>[(50,.cells 0 [sliN a.al,.int .i64 (a.n:Int),sliN a.ms,egsN a.es]),(51,.cells 0 [.nilsl,.int .i64 0,.nilsl,.nilsl]),(52,.cells 0 [sliN a.al,.int .i64 f.length,.sl 77 0 0 (mks a i f).length 1,.sl 76 0 0 (cPre a f i).length 3]),(76,.cells 0 ((cPre a f i).flatMap edC)),(77,.cells 0 (ints (nz (mks a i f))))]) (fun i=>i<=f.length) (fun i=>f.length-i) 0 0 160 (fun _:Unit=>[(2,.ptr 51 0 0),(4,.ptr 52 0 0)]) (fun _=>[(51,.cells 0 [.nilsl,.int .i64 0,.nilsl,.nilsl]),(52,.cells 0 [sliN a.al,.int .i64 f.length,.sl 77 0 0 (mks a f.length f).length 1,.sl 76 0 0 (cPre a f f.length).length 3]),(76,.cells 0 ((cPre a f f.length).flatMap edC)),(77,.cells 0 (ints (nz (mks a f.length f))))]) (fun _=>True) ?_ (Zah _) ?_ ?_;·exact⟨[(50,.blk 64 0),(51,.blk 65 0),(52,.blk 72 0),(76,.nil),(77,.nil)],rfl,au0,au10,au9⟩
 ·rintro i hi;by_cases o:i<f.length
  ·obtain⟨s,u⟩:=Qap o;have y:=Zaf u;have r:=Qfk (a:=a) u;have H:=@QeT a i f;have C:=QhH a f i;have G:(cPre a f i).length<=1000:=Zax C (Zax (Nat.mul_le_mul (show i<=5 by omega) A) (by decide));have B:=QpL (a:=a) u;have F:=Qbp (cPre a f i);have z:=has36 (nz a.ms) s (by simp;omega);rw[Qcz,Qbi]at z;have n:cPart a f i s 0=cPre a f i:=by simp[cPart]
   have m:cPart a f i s a.al.length=cPre a f (i+1):=by rw[B];unfold cPart cRow;rw[Zay]
   generalize x:mks a (i+1) f=M1 at*;generalize N:mks a i f=M at*;by_cases p:a.ms.contains s=true
   ·rw[if_pos p]at r;rw[p]at z;refine ZcM (ZcN o (QaJ u)) ?_;refine ch (Zcx (Zci _) z rfl) ?_;refine ZcL ?_;refine Qaq 300 (fun k:Nat=>[(1,.ptr 50 0 0),(2,.ptr 51 0 0),(3,sliN f),(4,.ptr 52 0 0),(5,.int .i64 i),(6,.int .i64 k)]) (fun k=>[(50,.cells 0 [sliN a.al,.int .i64 (a.n:Int),sliN a.ms,egsN a.es]),(51,.cells 0 [.nilsl,.int .i64 0,.nilsl,.nilsl]),(52,.cells 0 [sliN a.al,.int .i64 f.length,.sl 77 0 0 M1.length 1,.sl 76 0 0 (cPart a f i s k).length 3]),(76,.cells 0 ((cPart a f i s k).flatMap edC)),(77,.cells 0 (ints (nz M1)))]) (fun k=>k<=a.al.length) (fun k=>a.al.length-k) 0 2 400 (fun _:Unit=>[(1,.ptr 50 0 0),(2,.ptr 51 0 0),(3,sliN f),(4,.ptr 52 0 0),(5,.int .i64 i)]) (fun _=>[(50,.cells 0 [sliN a.al,.int .i64 (a.n:Int),sliN a.ms,egsN a.es]),(51,.cells 0 [.nilsl,.int .i64 0,.nilsl,.nilsl]),(52,.cells 0 [sliN a.al,.int .i64 f.length,.sl 77 0 0 M1.length 1,.sl 76 0 0 (cPre a f (i+1)).length 3]),(76,.cells 0 ((cPre a f (i+1)).flatMap edC)),(77,.cells 0 (ints (nz M1)))]) (fun _=>True) ?_ (Zah _) ?_ ?_;·rw[n,r,Zae,QaF,Qaw];exact⟨[(50,.blk 50 0),(51,.blk 51 0),(52,.blk 52 0),(76,.blk 76 0),(77,.blk 77 1)],rfl,au0,au10,au9⟩
    ·rintro k hk;by_cases d:k<a.al.length
     ·obtain⟨ev,g⟩:=Qap d;have q:=Zaf g;have v:=Qka (a:=a) (f:=f) (i:=i) (s:=s) g;have E:(cPart a f i s k).length<=2000:=by unfold cPart;rw[Zae];have h1:=ZbA (fun ev=>(stepA a.es s ev).map fun to=>(i,ev,idx f to)) (a.al.take k);rw[Zas]at h1;omega
      have t:=Qbp (cPart a f i s k);have j:cPart a f i s (k+1)=cPart a f i s k++match stepA a.es s ev with|some to=>[(i,ev,idx f to)]|none=>[]:=by unfold cPart;rw[v,ZaM]
      generalize cPart a f i s k=R at*;refine ZcM (ZcP d o (QaJ u) (QaJ g)) ?_;refine cp (step60 a s ev h.el) ?_;cases c:stepA a.es s ev with|none=>
       have h1:stepI a.es s ev=-1:=by unfold stepI;rw[c]
       rw[c,Zao]at j;rw[h1];refine ZcL ?_;refine⟨k+1,by omega,by omega,?_⟩;rw[j];exact⟨[(50,.blk 50 0),(51,.blk 51 0),(52,.blk 52 0),(76,.blk 76 0),(77,.blk 77 0)],rfl,au0,au10,au9⟩|some to=>
       have h1:stepI a.es s ev=to:=by unfold stepI;rw[c]
       rw[c]at j;have l:=index61 (nz f) to (by simp;omega);rw[Qbi,QlY (f3 s y ev q to c)]at l;rw[h1];refine ZcM (ZcN d (QaJ g)) ?_;refine cp l ?_;refine ZcM t ?_;refine⟨k+1,by omega,by omega,?_⟩;rw[j,Zan,Zae];exact⟨[(50,.blk 50 0),(51,.blk 51 0),(52,.blk 52 0),(76,.blk 76 1),(77,.blk 77 0)],rfl,au0,au10,au9⟩
     have e:k=a.al.length:=by omega
     subst e;refine ZcM d ?_;refine⟨(),?_⟩;rw[m];exact⟨[(50,.blk 50 0),(51,.blk 51 0),(52,.blk 52 0),(76,.blk 76 0),(77,.blk 77 0)],rfl,au0,au10,au9⟩
    rintro _ _;refine ZcL ?_;refine⟨i+1,by omega,by omega,?_⟩;rw[x];exact⟨[(50,.blk 50 0),(51,.blk 51 0),(52,.blk 52 0),(76,.blk 76 0),(77,.blk 77 0)],rfl,au0,au10,au9⟩
   rw[if_neg p,Zao]at r;rw[Zai]at p;rw[p]at z;refine ZcM (ZcN o (QaJ u)) ?_;refine ch (Zcx (Zci _) z rfl) ?_;refine ZcL ?_;refine Qaq 300 (fun k:Nat=>[(1,.ptr 50 0 0),(2,.ptr 51 0 0),(3,sliN f),(4,.ptr 52 0 0),(5,.int .i64 i),(6,.int .i64 k)]) (fun k=>[(50,.cells 0 [sliN a.al,.int .i64 (a.n:Int),sliN a.ms,egsN a.es]),(51,.cells 0 [.nilsl,.int .i64 0,.nilsl,.nilsl]),(52,.cells 0 [sliN a.al,.int .i64 f.length,.sl 77 0 0 M1.length 1,.sl 76 0 0 (cPart a f i s k).length 3]),(76,.cells 0 ((cPart a f i s k).flatMap edC)),(77,.cells 0 (ints (nz M1)))]) (fun k=>k<=a.al.length) (fun k=>a.al.length-k) 0 2 400 (fun _:Unit=>[(1,.ptr 50 0 0),(2,.ptr 51 0 0),(3,sliN f),(4,.ptr 52 0 0),(5,.int .i64 i)]) (fun _=>[(50,.cells 0 [sliN a.al,.int .i64 (a.n:Int),sliN a.ms,egsN a.es]),(51,.cells 0 [.nilsl,.int .i64 0,.nilsl,.nilsl]),(52,.cells 0 [sliN a.al,.int .i64 f.length,.sl 77 0 0 M1.length 1,.sl 76 0 0 (cPre a f (i+1)).length 3]),(76,.cells 0 ((cPre a f (i+1)).flatMap edC)),(77,.cells 0 (ints (nz M1)))]) (fun _=>True) ?_ (Zah _) ?_ ?_;·rw[n,r];exact⟨[(50,.blk 50 0),(51,.blk 51 0),(52,.blk 52 0),(76,.blk 76 0),(77,.blk 77 0)],rfl,au0,au10,au9⟩
   ·rintro k hk;by_cases d:k<a.al.length
    ·obtain⟨ev,g⟩:=Qap d;have q:=Zaf g;have v:=Qka (a:=a) (f:=f) (i:=i) (s:=s) g;have E:(cPart a f i s k).length<=2000:=by unfold cPart;rw[Zae];have h1:=ZbA (fun ev=>(stepA a.es s ev).map fun to=>(i,ev,idx f to)) (a.al.take k);rw[Zas]at h1;omega
     have t:=Qbp (cPart a f i s k);have j:cPart a f i s (k+1)=cPart a f i s k++match stepA a.es s ev with|some to=>[(i,ev,idx f to)]|none=>[]:=by unfold cPart;rw[v,ZaM]
     generalize cPart a f i s k=R at*;refine ZcM (ZcP d o (QaJ u) (QaJ g)) ?_;refine cp (step60 a s ev h.el) ?_;cases c:stepA a.es s ev with|none=>
      have h1:stepI a.es s ev=-1:=by unfold stepI;rw[c]
      rw[c,Zao]at j;rw[h1];refine ZcL ?_;refine⟨k+1,by omega,by omega,?_⟩;rw[j];exact⟨[(50,.blk 50 0),(51,.blk 51 0),(52,.blk 52 0),(76,.blk 76 0),(77,.blk 77 0)],rfl,au0,au10,au9⟩|some to=>
      have h1:stepI a.es s ev=to:=by unfold stepI;rw[c]
      rw[c]at j;have l:=index61 (nz f) to (by simp;omega);rw[Qbi,QlY (f3 s y ev q to c)]at l;rw[h1];refine ZcM (ZcN d (QaJ g)) ?_;refine cp l ?_;refine ZcM t ?_;refine⟨k+1,by omega,by omega,?_⟩;rw[j,Zan,Zae];exact⟨[(50,.blk 50 0),(51,.blk 51 0),(52,.blk 52 0),(76,.blk 76 1),(77,.blk 77 0)],rfl,au0,au10,au9⟩
    have e:k=a.al.length:=by omega
    subst e;refine ZcM d ?_;refine⟨(),?_⟩;rw[m];exact⟨[(50,.blk 50 0),(51,.blk 51 0),(52,.blk 52 0),(76,.blk 76 0),(77,.blk 77 0)],rfl,au0,au10,au9⟩
   rintro _ _;refine ZcL ?_;refine⟨i+1,by omega,by omega,?_⟩;rw[x];exact⟨[(50,.blk 50 0),(51,.blk 51 0),(52,.blk 52 0),(76,.blk 76 0),(77,.blk 77 0)],rfl,au0,au10,au9⟩
  have e:i=f.length:=by omega
  subst e;refine ZcM o ?_;refine⟨(),?_⟩;exact⟨[(51,.blk 51 0),(52,.blk 52 0),(76,.blk 76 0),(77,.blk 77 0)],rfl,au0,au10,au9⟩
 rintro _ _;refine ZcL ?_;refine⟨.inr trivial,_,rfl,?_⟩;exact Rn.agg (Zct (Zcd (Qab _)) (Zct (Zcd rfl) (Zct (Zcv (g:=0) rfl (by simp[ints]) (Zce (Qaa _))) (Zct (Zcv (g:=0) rfl (Qbp _) (Zce (Qad _))) Zcs))))
end Go.AM.SE
namespace Go.AM.SE
open Go.Proofs Go.AM.SD
def u8s(l:List Nat):List AV:=l.map fun x:Nat=>.int .u8 (x:Int)
theorem QaI(l:List Nat):noRefs (u8s l)=true:=Qdr (fun _=>rfl) l
theorem Qiq{l:List Nat}{i x:Nat}(h:l[i]?=some x):(u8s l)[i]?=some (.int .u8 (x:Int)):=by simp[u8s,h]
def gEd(al:List Nat)(n:Nat)(T:List Nat)(i k:Nat):Option Ed:=if T.getD (i*5+k) 0%(n+2)<n then some (i,al.getD k 0,T.getD (i*5+k) 0%(n+2))else none
def gRow(al:List Nat)(n:Nat)(T:List Nat)(i k:Nat):List Ed:=(List.range k).filterMap (gEd al n T i)
def gPre(al:List Nat)(n:Nat)(T:List Nat)(i:Nat):List Ed:=(List.range i).flatMap fun i=>gRow al n T i al.length
def gPart(al:List Nat)(n:Nat)(T:List Nat)(i k:Nat):List Ed:=gPre al n T i++gRow al n T i k
def gRaw(al:List Nat)(st mk:Nat)(T:List Nat):Aut:=if 250<=st then⟨al,0,[],[]⟩else⟨al,1+st%5,SD.part (1+st%5) mk,gPre al (1+st%5) T (1+st%5)⟩
theorem Qq4{al:List Nat}{n:Nat}{T:List Nat}{i k:Nat}{e:Ed}(h:e∈gRow al n T i k):e.1=i/\e.2.2<n:=by
 unfold gRow at h;obtain⟨j,_,a⟩:=ZbH.1 h;unfold gEd at a;split at a;·rename_i h1;cases a;exact⟨rfl,h1⟩
 cases a
theorem Qkb{al:List Nat}{n:Nat}{T:List Nat}{i k:Nat}:gRow al n T i (k+1)=gRow al n T i k++match gEd al n T i k with|some e=>[e]|none=>[]:=by unfold gRow;rw[ZaH,ZbJ];congr 1;cases e:gEd al n T i k<;>simp[e]
theorem QhI{al:List Nat}{n:Nat}{T:List Nat}{i k:Nat}:(gRow al n T i k).length<=k:=by unfold gRow;exact Zax (ZbA _ _) (by simp)
theorem QhJ{al:List Nat}{n:Nat}{T:List Nat}(a:al.length<=5):∀i,(gPre al n T i).length<=i*5|0=>by simp[gPre]|i+1=>by have h1:=QhJ (n:=n) (T:=T) a i;have c:=@QhI al n T i al.length;unfold gPre at h1⊢;rw[ZaH,Zan,Zae,Zbc,Zav,Zb4,Zao];omega
theorem QpM{al:List Nat}{n:Nat}{T:List Nat}{i:Nat}:gPre al n T (i+1)=gPart al n T i al.length:=by unfold gPart gPre;rw[ZaH,Zan,Zav,Zb4,Zao]
theorem Qfl{al:List Nat}{st mk:Nat}{T:List Nat}(a:al.length<=5):Raw (gRaw al st mk T):=by
 unfold gRaw;split;·exact⟨by simp,by simp,by simp,by dsimp only;omega,by simp⟩
 have c:1+st%5<=5:=by omega
 refine⟨fun e he=>?_,c,?_,by dsimp only;omega,?_⟩;·unfold gPre at he;obtain⟨i,hi,he⟩:=Zby.1 he;have:=Zau.1 hi;obtain⟨h1,d⟩:=Qq4 he;exact⟨by rw[h1];exact this,d⟩
 ·have :=QhJ (n:=1+st%5) (T:=T) a (1+st%5);dsimp only;omega
 have :=@Qdg (1+st%5) mk;dsimp only;omega
def mkA(al:List Nat)(st mk:Nat)(T:List Nat):Aut:=canon (gRaw al st mk T)
theorem Qtb{al:List Nat}{st mk:Nat}{T:List Nat}(g:al.Pairwise (·<·))(c:∀x∈al,x<5):WfA (mkA al st mk T):=by
 have a:al.length<=5:=Qa3 g c;have d:=Qfl (st:=st) (mk:=mk) (T:=T) a;have f:(gRaw al st mk T).al=al:=by unfold gRaw;split<;>rfl
 exact QqQ (by rw[f];exact g) (by rw[f];exact fun x h=>by have:=c x h;omega) (by have:=d.n5;omega) d.esn
abbrev grV(st mk:Nat)(T:List Nat):AV:=.agg (.int .u8 (st:Int)::.int .u8 (mk:Int)::u8s T)
theorem _root_.Go.AM.au11{p:Prop}(h:p:=by repeat'(first|exact Zcm|(refine Zce ?_;first|rfl|(simp only[noRef,noRefs,Qag,Zad,Zac,Zag,Qaa,QaI,Qaj,Qad,Qak,Qao,Qau,Qah,Qan,Qab,Qar,Qam,Qai,Qal,Qat];done))|exact Zcy rfl|exact Zcs|exact(True.intro:RnM _ _ _ [] [])|refine Zct ?_ ?_|(refine Zcd ?_;first|rfl|(simp only[noRef,noRefs,Qag,Zad,Zac,Zag,Qaa,QaI,Qaj,Qad,Qak,Qao,Qau,Qah,Qan,Qab,Qar,Qam,Qai,Qal,Qat];done))|exact Rn.x1 rfl rfl|exact Rn.x2 rfl rfl|exact Rn.x3 rfl rfl|exact Rn.x4 rfl rfl|exact Rn.x5 rfl|exact Rn.x6 rfl|exact Rn.x7 rfl|refine Zco rfl rfl ?_|refine Zcn rfl rfl rfl ?_ ?_|refine Zcp rfl rfl rfl ?_ ?_|refine Zcq rfl rfl ?_ ?_|refine Zcr rfl rfl ?_ ?_)):p:=h
theorem _root_.Go.AM.au12{p:Prop}(h:p:=by repeat(first|exact Zck|(refine Zcl ?_ ?_;·(first|exact Rn.any|exact Rn.x1 rfl rfl|exact Rn.x2 rfl rfl|exact Rn.x3 rfl rfl|exact Rn.x4 rfl rfl|exact Rn.x5 rfl|exact Rn.x6 rfl|exact Rn.x7 rfl|(refine Rn.slot ?_ ?_;(first|rfl|(rw[ZaV];rfl));(first|rfl|(simp only[noRef,noRefs,Qag,Zad,Zac,Zag,Qaa,QaI,Qaj,Qad,Qak,Qao,Qau,Qah,Qan,Qab,Qar,Qam,Qai,Qal,Qat];done)))|(refine Rn.fn ?_ ?_<;>(repeat'(first|exact Zcs|refine Zct ?_ ?_|exact Zcd rfl|exact Rn.x6 rfl|exact Rn.x2 rfl rfl|exact Rn.x5 rfl|exact Rn.x1 rfl rfl))))))):p:=h
theorem Make32(al:List Nat)(st mk:Nat)(T:List Nat)(hs:al.Pairwise (·<·))(Y:∀x∈al,x<5)(s:st<256)(V:mk<256)(hT:T.length=25)(z:∀x∈T,x<256):PSpec Tryz.prog 185 [sliN al,grV st mk T] (aV (mkA al st mk T)):=by
 have B:al.length<=5:=Qa3 hs Y;have U:(u8s T).length=25:=by simp[u8s,hT]
 have j:=canon46 (gRaw al st mk T) (Qfl B);refine Zcf 40 ok185 rfl (by(try simp only[noRefs,QaI,Qai,Qal,Qaa,Qaj,Qad,Qak,Qao,Qah,noRef,Zad,Zac])<;>rfl) (Qdf _) ?_;unfold mkA;by_cases Q:250<=st
 ·have v:(250:Int)<=(st:Int):=by omega
  have H:gRaw al st mk T=⟨al,0,[],[]⟩:=if_pos Q;have hc:canon (gRaw al st mk T)=⟨al,0,[],[]⟩:=by rw[H];rfl
  rw[hc];unfold s185;refine ZcM v ?_;refine cp (empty45 al (by omega)) ?_;refine ZcL ?_;refine⟨.inr trivial,_,rfl,?_⟩;exact Rn.agg (Zct (Zcd (Qab _)) (Zct (Zcd rfl) (Zct Rn.nilK (Zct Rn.nilK Zcs))))
 have v:¬(250:Int)<=(st:Int):=by omega
 have H:gRaw al st mk T=⟨al,1+st%5,SD.part (1+st%5) mk,gPre al (1+st%5) T (1+st%5)⟩:=if_neg Q;rw[H]at j⊢;have N:1+st%5<=5:=by omega
 obtain⟨n,X⟩:∃n,n=1+st%5:=⟨_,rfl⟩;rw[<-X]at H j N⊢;have J:(1:Int)+((st%5:Nat):Int)=(n:Int):=by omega
 unfold s185;refine ZcM v ?_;refine cp (empty45 al (by omega)) ?_;have L:(st:Int).tmod 5=((st%5:Nat):Int):=by rw[Zbm (Zbh _)];norm_cast
 refine ZcM (ZcN L J) ?_;refine Qaq 100 (fun i:Nat=>[(0,sliN al),(3,.ptr 50 0 0),(4,.ptr 51 0 0),(5,.ptr 52 0 0),(6,.int .i64 i)]) (fun i=>[(50,.cells 0 (.int .u8 (st:Int)::.int .u8 (mk:Int)::u8s T)),(51,.cells 0 [.nilsl,.int .i64 0,.nilsl,.nilsl]),(52,.cells 0 [sliN al,.int .i64 (n:Int),.sl 77 0 0 (SD.part i mk).length 1,.sl 76 0 0 (gPre al n T i).length 3]),(76,.cells 0 ((gPre al n T i).flatMap edC)),(77,.cells 0 (ints (nz (SD.part i mk))))]) (fun i=>i<=n) (fun i=>n-i) 0 0 160 (fun _:Unit=>[(4,.ptr 51 0 0),(5,.ptr 52 0 0)]) (fun _=>[(51,.cells 0 [.nilsl,.int .i64 0,.nilsl,.nilsl]),(52,.cells 0 [sliN al,.int .i64 (n:Int),sliN (SD.part n mk),egsN (gPre al n T n)])]) (fun _=>True) ?_ (Zah _) ?_ ?_;·exact⟨[(50,.blk 40 0),(51,.blk 41 0),(52,.blk 47 0),(76,.nil),(77,.nil)],rfl,au0,au11,au12⟩
 ·rintro i hi;by_cases y:i<n
  ·have r:=Qdz (n:=n) (b:=mk) (i:=i);have Z:=@Qdg i mk;have hgl:=QhJ (n:=n) (T:=T) B i;have A:gPart al n T i 0=gPre al n T i:=by simp[gPart,gRow]
   have G:=QpM (al:=al) (n:=n) (T:=T) (i:=i);have S:=Qbp (gPre al n T i);generalize F:SD.part (i+1) mk=M1 at*;generalize hM:SD.part i mk=M at*;by_cases q:mk.testBit i=true
   ·rw[if_pos q]at r;have I:=QdV.2 q;simp(disch:=first|omega|(simp only[lenW]<;>omega))only[y,QcN (k:=.u8) (show i<=8 by omega),QcO,I,wW,wV,simprocAttr];refine Qaq 300 (fun k:Nat=>[(0,sliN al),(3,.ptr 50 0 0),(4,.ptr 51 0 0),(5,.ptr 52 0 0),(6,.int .i64 i),(7,.int .i64 k)]) (fun k=>[(50,.cells 0 (.int .u8 (st:Int)::.int .u8 (mk:Int)::u8s T)),(51,.cells 0 [.nilsl,.int .i64 0,.nilsl,.nilsl]),(52,.cells 0 [sliN al,.int .i64 (n:Int),.sl 77 0 0 M1.length 1,.sl 76 0 0 (gPart al n T i k).length 3]),(76,.cells 0 ((gPart al n T i k).flatMap edC)),(77,.cells 0 (ints (nz M1)))]) (fun k=>k<=al.length) (fun k=>al.length-k) 0 2 400 (fun _:Unit=>[(0,sliN al),(3,.ptr 50 0 0),(4,.ptr 51 0 0),(5,.ptr 52 0 0),(6,.int .i64 i)]) (fun _=>[(50,.cells 0 (.int .u8 (st:Int)::.int .u8 (mk:Int)::u8s T)),(51,.cells 0 [.nilsl,.int .i64 0,.nilsl,.nilsl]),(52,.cells 0 [sliN al,.int .i64 (n:Int),.sl 77 0 0 M1.length 1,.sl 76 0 0 (gPre al n T (i+1)).length 3]),(76,.cells 0 ((gPre al n T (i+1)).flatMap edC)),(77,.cells 0 (ints (nz M1)))]) (fun _=>True) ?_ (Zah _) ?_ ?_;·rw[A,r,Zae,QaF,Qaw];exact⟨[(50,.blk 50 0),(51,.blk 51 0),(52,.blk 52 0),(76,.blk 76 0),(77,.blk 77 1)],rfl,au0,au11,au12⟩
    ·rintro k hk;by_cases c:k<al.length
     ·obtain⟨ev,g⟩:=Qap c;have d:al.getD k 0=ev:=by rw[Zak,g];rfl
      obtain⟨x,u⟩:=Qap (l:=T) (i:=i*5+k) (by omega);have t:T.getD (i*5+k) 0=x:=by rw[Zak,u];rfl
      have P:=z x (Zaf u);have f:(k:Int)<5:=by omega
      have o:(i:Int)<5:=by omega
      have h:(AV.int .u8 (st:Int)::AV.int .u8 (mk:Int)::u8s T)[2+i*5+k]?=some (.int .u8 (x:Int)):=by rw[show 2+i*5+k=(i*5+k)+2 by omega];simpa using Qiq u
      have m:(x:Int).tmod ((n:Int)+2)=((x%(n+2):Nat):Int):=by rw[Zbm (Zbh _)];norm_cast
      have l:¬(n:Int)+2=0:=by omega
      have O:x%(n+2)<=10:=by have:=Nat.mod_lt x (show 0<n+2 by omega);omega
      have s:=Qkb (al:=al) (n:=n) (T:=T) (i:=i) (k:=k);have K:=@QhI al n T i k;have a:gPart al n T i (k+1)=gPart al n T i k++match gEd al n T i k with|some e=>[e]|none=>[]:=by unfold gPart;rw[s,ZaM]
      have E:(gPart al n T i k).length<=100:=by unfold gPart;rw[Zae];omega
      have w:=Qbp (gPart al n T i k);unfold gEd at a;rw[t,d]at a;generalize gPart al n T i k=R at*;by_cases p:x%(n+2)<n;·rw[if_pos p]at a;refine ZcM (ZcU c f o h l m p (QaJ g) w) ?_;refine⟨k+1,by omega,by omega,?_⟩;rw[a,Zan,Zae];exact⟨[(50,.blk 50 0),(51,.blk 51 0),(52,.blk 52 0),(76,.blk 76 1),(77,.blk 77 0)],rfl,au0,au11,au12⟩
      rw[if_neg p,Zao]at a;refine ZcM (ZcS c f o h l m p) ?_;refine⟨k+1,by omega,by omega,?_⟩;rw[a];exact⟨[(50,.blk 50 0),(51,.blk 51 0),(52,.blk 52 0),(76,.blk 76 0),(77,.blk 77 0)],rfl,au0,au11,au12⟩
     have e:k=al.length:=by omega
     subst e;refine ZcM c ?_;refine⟨(),?_⟩;rw[G];exact⟨[(50,.blk 50 0),(51,.blk 51 0),(52,.blk 52 0),(76,.blk 76 0),(77,.blk 77 0)],rfl,au0,au11,au12⟩
    rintro _ _;refine ZcL ?_;refine⟨i+1,by omega,by omega,?_⟩;rw[F];exact⟨[(50,.blk 50 0),(51,.blk 51 0),(52,.blk 52 0),(76,.blk 76 0),(77,.blk 77 0)],rfl,au0,au11,au12⟩
   rw[if_neg q,Zao]at r;have I:¬((mk/2^i%2:Nat):Int)=1:=fun e=>q (QdV.1 e);simp(disch:=first|omega|(simp only[lenW]<;>omega))only[y,QcN (k:=.u8) (show i<=8 by omega),QcO,I,wW,wV,simprocAttr];refine Qaq 300 (fun k:Nat=>[(0,sliN al),(3,.ptr 50 0 0),(4,.ptr 51 0 0),(5,.ptr 52 0 0),(6,.int .i64 i),(7,.int .i64 k)]) (fun k=>[(50,.cells 0 (.int .u8 (st:Int)::.int .u8 (mk:Int)::u8s T)),(51,.cells 0 [.nilsl,.int .i64 0,.nilsl,.nilsl]),(52,.cells 0 [sliN al,.int .i64 (n:Int),.sl 77 0 0 M1.length 1,.sl 76 0 0 (gPart al n T i k).length 3]),(76,.cells 0 ((gPart al n T i k).flatMap edC)),(77,.cells 0 (ints (nz M1)))]) (fun k=>k<=al.length) (fun k=>al.length-k) 0 2 400 (fun _:Unit=>[(0,sliN al),(3,.ptr 50 0 0),(4,.ptr 51 0 0),(5,.ptr 52 0 0),(6,.int .i64 i)]) (fun _=>[(50,.cells 0 (.int .u8 (st:Int)::.int .u8 (mk:Int)::u8s T)),(51,.cells 0 [.nilsl,.int .i64 0,.nilsl,.nilsl]),(52,.cells 0 [sliN al,.int .i64 (n:Int),.sl 77 0 0 M1.length 1,.sl 76 0 0 (gPre al n T (i+1)).length 3]),(76,.cells 0 ((gPre al n T (i+1)).flatMap edC)),(77,.cells 0 (ints (nz M1)))]) (fun _=>True) ?_ (Zah _) ?_ ?_;·rw[A,r];exact⟨[(50,.blk 50 0),(51,.blk 51 0),(52,.blk 52 0),(76,.blk 76 0),(77,.blk 77 0)],rfl,au0,au11,au12⟩
   ·rintro k hk;by_cases c:k<al.length
    ·obtain⟨ev,g⟩:=Qap c;have d:al.getD k 0=ev:=by rw[Zak,g];rfl
     obtain⟨x,u⟩:=Qap (l:=T) (i:=i*5+k) (by omega);have t:T.getD (i*5+k) 0=x:=by rw[Zak,u];rfl
     have P:=z x (Zaf u);have f:(k:Int)<5:=by omega
     have o:(i:Int)<5:=by omega
     have h:(AV.int .u8 (st:Int)::AV.int .u8 (mk:Int)::u8s T)[2+i*5+k]?=some (.int .u8 (x:Int)):=by rw[show 2+i*5+k=(i*5+k)+2 by omega];simpa using Qiq u
     have m:(x:Int).tmod ((n:Int)+2)=((x%(n+2):Nat):Int):=by rw[Zbm (Zbh _)];norm_cast
     have l:¬(n:Int)+2=0:=by omega
     have O:x%(n+2)<=10:=by have:=Nat.mod_lt x (show 0<n+2 by omega);omega
     have s:=Qkb (al:=al) (n:=n) (T:=T) (i:=i) (k:=k);have K:=@QhI al n T i k;have a:gPart al n T i (k+1)=gPart al n T i k++match gEd al n T i k with|some e=>[e]|none=>[]:=by unfold gPart;rw[s,ZaM]
     have E:(gPart al n T i k).length<=100:=by unfold gPart;rw[Zae];omega
     have w:=Qbp (gPart al n T i k);unfold gEd at a;rw[t,d]at a;generalize gPart al n T i k=R at*;by_cases p:x%(n+2)<n;·rw[if_pos p]at a;refine ZcM (ZcU c f o h l m p (QaJ g) w) ?_;refine⟨k+1,by omega,by omega,?_⟩;rw[a,Zan,Zae];exact⟨[(50,.blk 50 0),(51,.blk 51 0),(52,.blk 52 0),(76,.blk 76 1),(77,.blk 77 0)],rfl,au0,au11,au12⟩
     rw[if_neg p,Zao]at a;refine ZcM (ZcS c f o h l m p) ?_;refine⟨k+1,by omega,by omega,?_⟩;rw[a];exact⟨[(50,.blk 50 0),(51,.blk 51 0),(52,.blk 52 0),(76,.blk 76 0),(77,.blk 77 0)],rfl,au0,au11,au12⟩
    have e:k=al.length:=by omega
    subst e;refine ZcM c ?_;refine⟨(),?_⟩;rw[G];exact⟨[(50,.blk 50 0),(51,.blk 51 0),(52,.blk 52 0),(76,.blk 76 0),(77,.blk 77 0)],rfl,au0,au11,au12⟩
   rintro _ _;refine ZcL ?_;refine⟨i+1,by omega,by omega,?_⟩;rw[F];exact⟨[(50,.blk 50 0),(51,.blk 51 0),(52,.blk 52 0),(76,.blk 76 0),(77,.blk 77 0)],rfl,au0,au11,au12⟩
  have e:i=n:=by omega
  subst e;refine ZcM y ?_;refine⟨(),[(51,.blk 51 0),(52,.blk 52 0)],rfl,Zcj,?_,au12⟩;refine Zcn rfl rfl rfl (Zce rfl) (Zcn rfl rfl rfl (Zct (Zcd (Qab _)) (Zct (Zcd rfl) (Zct (Zcu rfl rfl rfl rfl (by simp[ints]) (Zce (Qaa _))) (Zct (Zcu rfl rfl rfl rfl (Qbp _) (Zce (Qad _))) Zcs)))) Zcm)
 rintro _ _;refine ZcL ?_;refine cp j ?_;generalize canon ⟨al,n,SD.part n mk,gPre al n T n⟩=C at*;refine ZcL ?_;exact⟨.inr trivial,_,rfl,Zcd (Qdf _)⟩
end Go.AM.SE
namespace Go.AM.SO
open Go.Proofs Go.AM.SD Go.AM.SE
def mrg(k:Bool->Bool->Bool):List Nat->List Nat->List Nat|[],[]=>[]|a::A,[]=>(if k true false=true then[a]else[])++mrg k A []|[],b::B=>(if k false true=true then[b]else[])++mrg k [] B|a::A,b::B=>if a<b then(if k true false=true then[a]else[])++mrg k A (b::B)else if b<a then(if k false true=true then[b]else[])++mrg k (a::A) B else(if k true true=true then[a]else[])++mrg k A B termination_by A B=>A.length+B.length
theorem QbN{k:Bool->Bool->Bool}{x:Nat}:∀{A B:List Nat},A.Pairwise (·<·)->B.Pairwise (·<·)->(x∈mrg k A B↔k (decide (x∈A)) (decide (x∈B))=true/\(x∈A\/x∈B))
 |[],[],_,_=>by simp[mrg]|a::A,[],hA,c=>by have d:=QbN (k:=k) (x:=x) (Zaz.1 hA).2 c;grind[mrg]|[],b::B,hA,c=>by have d:=QbN (k:=k) (x:=x) hA (Zaz.1 c).2;grind[mrg]|a::A,b::B,hA,c=>by
  have h:=(Zaz.1 hA).1;have f:=(Zaz.1 c).1;rw[mrg];by_cases h1:a<b;·have d:=QbN (k:=k) (x:=x) (Zaz.1 hA).2 c;grind
  rw[if_neg h1];by_cases i:b<a;·have d:=QbN (k:=k) (x:=x) hA (Zaz.1 c).2;grind
  have g:a=b:=by omega
  subst g;have d:=QbN (k:=k) (x:=x) (Zaz.1 hA).2 (Zaz.1 c).2;grind termination_by A B=>A.length+B.length
theorem Qcw{k:Bool->Bool->Bool}:∀{A B:List Nat},A.Pairwise (·<·)->B.Pairwise (·<·)->(mrg k A B).Pairwise (·<·)
 |[],[],_,_=>by simp[mrg]|a::A,[],hA,c=>by have h:=Qcw (k:=k) (Zaz.1 hA).2 c;grind[Zaz,mrg,QbN]|[],b::B,hA,c=>by have h:=Qcw (k:=k) hA (Zaz.1 c).2;grind[Zaz,mrg,QbN]|a::A,b::B,hA,c=>by
  have j:=(Zaz.1 hA).1;have i:=(Zaz.1 c).1;rw[mrg];split
  ·rename_i h1;rw[Zbb];refine⟨by split<;>simp,Qcw (Zaz.1 hA).2 c,fun x d y f=>?_⟩;have d:x=a:=by simp_all
   have:=(QbN (Zaz.1 hA).2 c).1 f;grind
  rename_i h1;split
  ·rename_i g;rw[Zbb];refine⟨by split<;>simp,Qcw hA (Zaz.1 c).2,fun x d y f=>?_⟩;have d:x=b:=by simp_all
   have:=(QbN hA (Zaz.1 c).2).1 f;grind
  rename_i g;have l:a=b:=by omega
  subst l;rw[Zbb];refine⟨by split<;>simp,Qcw (Zaz.1 hA).2 (Zaz.1 c).2,fun x d y f=>?_⟩;grind[QbN]termination_by A B=>A.length+B.length
end Go.AM.SO
namespace Go.AM.SO
open Go.Proofs Go.AM.SD Go.AM.SE
theorem iaddr0{a:Nat}{A:List Nat}:aIAddr none 1 (sliN (a::A)) (.int .i64 0)=some (.fptr (ints (nz (a::A)))):=by simp[aIAddr]
theorem head0{a:Nat}{A:List Nat}:(ints (nz (a::A))).head?=some (.int .i64 (a:Int)):=rfl
theorem tk1{b:Nat}{B1:List Nat}:List.take (B1.length+1-1) (List.drop 1 (ints (nz (b::B1))))=ints (nz B1):=by simp only[ints,nz,ZaR,Zbe,Za9];exact ZaT (by simp)
theorem tk2{b:Nat}{B1:List Nat}:List.take B1.length (List.drop 1 (ints (nz (b::B1))))=ints (nz B1):=by simp only[ints,nz,ZaR,Zbe,Za9];exact ZaT (by simp)
theorem union169(a b:Bool):PSpec Tryz.prog 169 [.bool a,.bool b] (.bool (a||b)):=by
 refine Zcg 64 ok169 rfl rfl rfl ?_;cases a;·unfold s169;refine ZcD ?_;exact⟨.inr trivial,_,rfl,by simp[resOf,QaL]⟩
 unfold s169;refine ZcD ?_;exact⟨.inr trivial,_,rfl,by simp[resOf,QaL]⟩
theorem minus242(a b:Bool):PSpec Tryz.prog 242 [.bool a,.bool b] (.bool (a&&!b)):=by
 refine Zcg 64 ok242 rfl rfl rfl ?_;cases a;·unfold s242;refine ZcD ?_;exact⟨.inr trivial,_,rfl,by simp[resOf,QaL]⟩
 unfold s242;refine ZcD ?_;exact⟨.inr trivial,_,rfl,by simp[resOf,QaL]⟩
theorem merge168(K:Nat)(k:Bool->Bool->Bool)(hk:∀a b,PSpec Tryz.prog K [.bool a,.bool b] (.bool (k a b)))(A B:List Nat)(hA:A.length<=1000000)(o:B.length<=1000000):PSpec Tryz.prog 168 [sliN A,sliN B,.fn K [] []] (sliN (mrg k A B)):=by
 refine Zcf 64 ok168 rfl (by(try simp only[noRefs,Qaa,Qaj,Qad,Qak,Qah,noRef,Zad,Zac])<;>rfl) (Qab _) ?_;unfold s168;refine ZcD ?_;refine QaN 120 (fun t:List Nat×List Nat×List Nat=>[(0,sliN t.1),(1,sliN t.2.1),(2,.fn K [] []),(7,.sl 50 0 0 t.2.2.length 1)]) (fun t=>[(50,.cells 0 (ints (nz t.2.2)))]) (fun t=>mrg k A B=t.2.2++mrg k t.1 t.2.1/\t.1.length+t.2.1.length+t.2.2.length<=2000000) (fun t=>t.1.length+t.2.1.length) (A,B,[]) ⟨[(50,.nil)],rfl,au0,au1,au2⟩ ⟨by simp,by simp;omega⟩ ?_;rintro⟨A',B',out⟩⟨hm,g⟩;dsimp only at hm g;rcases A' with _|⟨a,A1⟩<;>rcases B' with _|⟨b,B1⟩;·simp(disch:=first|omega|(simp only[lenW]<;>omega))only[Za3,List.map_nil,wV,simprocAttr];refine⟨.inr trivial,_,rfl,?_⟩;rw[hm,mrg,Zao];exact Zcv rfl (by simp[ints]) (Zce (Qaa _))
 ·have h1:(0:Int)<(B1.length:Int)+1:=by omega
  have f:¬(B1.length:Int)+1=0:=by omega
  simp only[Za3,ZaF]at g;refine ZcE (ZcU @Za3 @ZaF h1 f @iaddr0 @tk1 @tk2 @head0 @ZbG) ?_;refine cp (hk false true) ?_;rw[mrg]at hm;cases c:k false true;·refine ZcD ?_;rw[if_neg (by simp[c]),ZaB]at hm;exact⟨(([]:List Nat),(B1:List Nat),out),by simp<;>omega,⟨hm,by simp;omega⟩,⟨[(50,.blk 50 0)],rfl,au0,au1,au2⟩⟩
  refine ZcD ?_;rw[if_pos c,<-ZaM]at hm;refine⟨(([]:List Nat),(B1:List Nat),out++[b]),by simp<;>omega,⟨hm,by simp;omega⟩,?_⟩;rw[QaF,Qaw,Zae];exact⟨[(50,.blk 50 1)],rfl,au0,au1,au2⟩
 ·have h1:(0:Int)<(A1.length:Int)+1:=by omega
  have f:¬(A1.length:Int)+1=0:=by omega
  simp only[Za3,ZaF]at g;refine ZcE (ZcU @Za3 @ZaF h1 f @iaddr0 @tk1 @tk2 @head0 @ZbG) ?_;refine cp (hk true false) ?_;rw[mrg]at hm;cases c:k true false;·refine ZcD ?_;rw[if_neg (by simp[c]),ZaB]at hm;exact⟨((A1:List Nat),([]:List Nat),out),by simp<;>omega,⟨hm,by simp;omega⟩,⟨[(50,.blk 50 0)],rfl,au0,au1,au2⟩⟩
  refine ZcD ?_;rw[if_pos c,<-ZaM]at hm;refine⟨((A1:List Nat),([]:List Nat),out++[a]),by simp<;>omega,⟨hm,by simp;omega⟩,?_⟩;rw[QaF,Qaw,Zae];exact⟨[(50,.blk 50 1)],rfl,au0,au1,au2⟩
 have h1:(0:Int)<(A1.length:Int)+1:=by omega
 have f:¬(A1.length:Int)+1=0:=by omega
 have m:(0:Int)<(B1.length:Int)+1:=by omega
 have j:¬(B1.length:Int)+1=0:=by omega
 by_cases d:a<b
 ·have i:(a:Int)<=(b:Int):=by omega
  have l:¬(b:Int)<=(a:Int):=by omega
  simp only[Za3,ZaF]at g;refine ZcE (ZcY @Za3 @ZaF h1 f m j i l @iaddr0 @tk1 @tk2 @head0 @ZbG) ?_;refine cp (hk true false) ?_;rw[mrg,if_pos d]at hm;cases c:k true false;·refine ZcD ?_;rw[if_neg (by simp[c]),ZaB]at hm;exact⟨((A1:List Nat),(b::B1:List Nat),out),by simp<;>omega,⟨hm,by simp;omega⟩,⟨[(50,.blk 50 0)],rfl,au0,au1,au2⟩⟩
  refine ZcD ?_;rw[if_pos c,<-ZaM]at hm;refine⟨((A1:List Nat),(b::B1:List Nat),out++[a]),by simp<;>omega,⟨hm,by simp;omega⟩,?_⟩;rw[QaF,Qaw,Zae];exact⟨[(50,.blk 50 1)],rfl,au0,au1,au2⟩
 by_cases h:b<a
 ·have i:¬(a:Int)<=(b:Int):=by omega
  have l:(b:Int)<=(a:Int):=by omega
  simp only[Za3,ZaF]at g;refine ZcE (ZcY @Za3 @ZaF h1 f m j i l @iaddr0 @tk1 @tk2 @head0 @ZbG) ?_;refine cp (hk false true) ?_;rw[mrg,if_neg d,if_pos h]at hm;cases c:k false true;·refine ZcD ?_;rw[if_neg (by simp[c]),ZaB]at hm;exact⟨((a::A1:List Nat),(B1:List Nat),out),by simp<;>omega,⟨hm,by simp;omega⟩,⟨[(50,.blk 50 0)],rfl,au0,au1,au2⟩⟩
  refine ZcD ?_;rw[if_pos c,<-ZaM]at hm;refine⟨((a::A1:List Nat),(B1:List Nat),out++[b]),by simp<;>omega,⟨hm,by simp;omega⟩,?_⟩;rw[QaF,Qaw,Zae];exact⟨[(50,.blk 50 1)],rfl,au0,au1,au2⟩
 have n:a=b:=by omega
 subst n;have i:(a:Int)<=(a:Int):=by omega
 simp only[Za3,ZaF]at g;refine ZcE (ZcX @Za3 @ZaF h1 f m j i @iaddr0 @tk1 @tk2 @head0 @ZbG) ?_;refine cp (hk true true) ?_;rw[mrg,if_neg d,if_neg h]at hm;cases c:k true true;·refine ZcD ?_;rw[if_neg (by simp[c]),ZaB]at hm;exact⟨((A1:List Nat),(B1:List Nat),out),by simp<;>omega,⟨hm,by simp;omega⟩,⟨[(50,.blk 50 0)],rfl,au0,au1,au2⟩⟩
 refine ZcD ?_;rw[if_pos c,<-ZaM]at hm;refine⟨((A1:List Nat),(B1:List Nat),out++[a]),by simp<;>omega,⟨hm,by simp;omega⟩,?_⟩;rw[QaF,Qaw,Zae];exact⟨[(50,.blk 50 1)],rfl,au0,au1,au2⟩
theorem union84(A B:List Nat)(hA:A.length<=1000000)(c:B.length<=1000000):PSpec Tryz.prog 84 [sliN A,sliN B] (sliN (mrg (fun a b=>a||b) A B)):=by refine Zcf 64 ok84 rfl (by(try simp only[noRefs,Qaa,Qaj,Qad,Qak,Qah,noRef,Zad,Zac])<;>rfl) (Qab _) ?_;unfold s84;refine ZcD ?_;refine cp (merge168 169 _ union169 A B hA c) ?_;refine ZcD ?_;exact⟨.inr trivial,_,rfl,Zcd (Qab _)⟩
theorem minus219(A B:List Nat)(hA:A.length<=1000000)(c:B.length<=1000000):PSpec Tryz.prog 219 [sliN A,sliN B] (sliN (mrg (fun a b=>a&&!b) A B)):=by refine Zcf 64 ok219 rfl (by(try simp only[noRefs,Qaa,Qaj,Qad,Qak,Qah,noRef,Zad,Zac])<;>rfl) (Qab _) ?_;unfold s219;refine ZcD ?_;refine cp (merge168 242 _ minus242 A B hA c) ?_;refine ZcD ?_;exact⟨.inr trivial,_,rfl,Zcd (Qab _)⟩
theorem subset167(A B:List Nat)(hA:A.length<=1000000)(d:B.length<=1000000):PSpec Tryz.prog 167 [sliN A,sliN B] (.bool (decide ((mrg (fun a b=>a&&!b) A B).length=0))):=by
 refine Zcg 64 ok167 rfl (by(try simp only[noRefs,Qaa,Qaj,Qad,Qak,Qah,noRef,Zad,Zac])<;>rfl) rfl ?_;unfold s167;refine ZcD ?_;refine cp (minus219 A B hA d) ?_;by_cases h:(mrg (fun a b=>a&&!b) A B).length=0
 ·have c:(((mrg (fun a b=>a&&!b) A B).length:Nat):Int)=0:=by omega
  refine ZcE c ?_;exact⟨.inr trivial,_,rfl,by simp[resOf,QaL,h]⟩
 have c:¬(((mrg (fun a b=>a&&!b) A B).length:Nat):Int)=0:=by omega
 refine ZcE c ?_;exact⟨.inr trivial,_,rfl,by simp[resOf,QaL,h]⟩
end Go.AM.SO
namespace Go.AM.SD
theorem Qir{α:Type}(f:α->Nat):∀{l c:List α},l.Pairwise (fun a b=>f a<f b)->c.Pairwise (fun a b=>f a<f b)->(∀p,p∈l↔p∈c)->l=c
 |[],[],_,_,_=>rfl|[],y::c,_,_,hm=>absurd ((hm y).2 (by simp)) (by simp)|x::l,[],_,_,hm=>absurd ((hm x).1 (by simp)) (by simp)|x::l,y::c,h,g,hm=>by
  rw[Zaz]at h g;have d:x=y:=by grind
  subst d;have:l=c:=Qir f h.2 g.2 fun p=>by grind
  rw[this]
theorem uniqE{es:List Ed}(h:es.Pairwise fun x y=>x.1<y.1\/(x.1=y.1/\x.2.1<y.2.1)){e a:Ed}(he:e∈es)(c:a∈es)(h1:e.1=a.1)(g:e.2.1=a.2.1):e=a:=by induction h with|nil=>cases he|cons f _ d=>
 rcases ZaA.1 he with rfl|m1<;>rcases ZaA.1 c with rfl|m2;·rfl
 ·grind
 ·grind
 exact d m1 m2
theorem Qew{es:List Ed}(h:es.Pairwise fun x y=>x.1<y.1\/(x.1=y.1/\x.2.1<y.2.1)){v ev to:Nat}:stepA es v ev=some to↔((v,ev,to):Ed)∈es:=by
 unfold stepA;constructor;·intro d;cases hf:es.find? fun e=>e.1==v&&e.2.1==ev with|none=>rw[hf]at d;cases d|some e=>rw[hf]at d;cases d;have h1:=List.find?_some hf;simp only[Zab,beq_iff_eq]at h1;have f:=Zbw hf;obtain⟨a,b,c⟩:=e;obtain⟨rfl,rfl⟩:=h1;exact f
 intro hm;cases hf:es.find? fun e=>e.1==v&&e.2.1==ev with|none=>rw[List.find?_eq_none]at hf;exact absurd (by simp) (hf _ hm)|some e=>have h1:=List.find?_some hf;simp only[Zab,beq_iff_eq]at h1;rw[uniqE h (Zbw hf) hm h1.1 h1.2];rfl
theorem QnF{a:Aut}(h:WfA a)(v:Nat):sOut a.es (fun _=>true) v=a.al.filterMap fun ev=>(stepA a.es v ev).map fun to=>((v,ev,to):Ed):=by
 refine Qir (fun e:Ed=>e.2.1) ?_ ?_ fun e=>?_;·have h1:(sOut a.es (fun _=>true) v).Pairwise fun x y=>x.1<y.1\/(x.1=y.1/\x.2.1<y.2.1):=h.es.filter _;refine h1.imp_of_mem fun{x y}f i g=>?_;simp_all[QaU]
 ·refine List.Pairwise.filterMap _ (R:=(·<·)) ?_ h.al;simp_all
 rw[QaU,ZbH];constructor;·rintro⟨he,rfl,_⟩;obtain⟨x,y,z⟩:=e;exact⟨y,h.ev _ he,by rw[(Qew h.es).2 he];rfl⟩
 rintro⟨ev,d,hm⟩;cases c:stepA a.es v ev with|none=>rw[c]at hm;cases hm|some to=>rw[c]at hm;cases hm;exact⟨(Qew h.es).1 c,rfl,rfl⟩
theorem Qq5{a:Aut}(h:WfA a)(i v:Nat)(s:OE):(sRow a.es (fun _=>true) i v s).1=fRow a.al a.es v s.1:=by
 unfold sRow fRow;rw[QnF h];have key:∀(c:List Nat)(s:OE),((c.filterMap fun ev=>(stepA a.es v ev).map fun to=>((v,ev,to):Ed)).foldl (sEd i) s).1=c.foldl (fEv a.es v) s.1:=by intro c;induction c with|nil=>intro s;rfl|cons ev c d=>intro s;rw[ZbB,ZaN];cases f:stepA a.es v ev with
  |none=>
   have e:fEv a.es v s.1 ev=s.1:=by grind[fEv]
   rw[e];exact d s|some to=>
   have e:fEv a.es v s.1 ev=if s.1.contains to then s.1 else s.1++[to]:=by grind[fEv]
   dsimp only[Option.map_some];rw[ZaN,d,e];congr 1;unfold sEd;split<;>rfl
 simp_all
theorem QpN{a:Aut}(h:WfA a):∀(k i:Nat)(s:OE),(sQ a.es (fun _=>true) k i s).1=fQ a.al a.es k i s.1|0,_,_=>rfl|k+1,i,s=>by unfold sQ fQ;cases s.1[i]? with|none=>rfl|some v=>dsimp only;rw[QpN h k,Qq5 h]
theorem Qq6{a:Aut}(h:WfA a):(sAll a fun _=>true).1=found a:=by simp_all[sAll,found,QpN]
theorem QmR{a:Aut}(h:WfA a):canon a=restr a (fun _=>true):=by
 have c:=(QeM (left:=fun _=>true) h).1;have hf:=Qq6 h;have he:(sAll a fun _=>true).2=cRows a (found a):=by rw[c.ed,hf];unfold cRows;rw[List.flatMap_def,List.flatMap_def];congr 1;refine Za0 fun i _=>?_;rw[QnF h];unfold cRow;rw[List.map_filterMap];congr 1;funext ev;rw[Option.map_map];rfl
 simp_all[canon,restr]
end Go.AM.SD
namespace Go.AM.SE
open Go.Proofs Go.AM.SD
theorem shr1{i j:Nat}:aBin .shr (.int .u64 ((i:Int)+(j:Int))) (.int .u64 1)=some (.int .u64 (((i+j)/2:Nat):Int)):=by
 have h:(((i:Int)+(j:Int)).fdiv (2^(min (1:Int).toNat 64)))=(((i+j)/2:Nat):Int):=by rw[show min (1:Int).toNat 64=1 from rfl,Int.fdiv_eq_ediv_of_nonneg _ (by decide)];omega
 show(if(1:Int)<0 then none else some (AV.int .u64 (((i:Int)+(j:Int)).fdiv (2^(min (1:Int).toNat 64)))))=_;rw[if_neg (by decide),h]
def lbN(l:List Nat)(t:Nat):Nat:=l.countP fun x=>decide (x<t)
theorem lb_eq:∀{l:List Nat}{t i:Nat},i<=l.length->(∀j,j<i->l.getD j 0<t)->(∀j,i<=j->j<l.length->¬l.getD j 0<t)->lbN l t=i
 |[],t,i,hi,_,_=>by simp at hi;subst hi;rfl|x::l,t,0,_,_,c=>by unfold lbN;rw[List.countP_eq_zero];intro y h;obtain⟨q,d,a⟩:=Qcy h;have:=c q (Zah _) a;rw[Zak,d]at this;simpa using this|x::l,t,i+1,hi,h1,c=>by
  have k:x<t:=by have:=h1 0 (by omega);simpa using this
  have:=lb_eq (l:=l) (t:=t) (i:=i) (by simpa using hi) (fun j f=>by have:=h1 (j+1) (by omega);simpa using this) (fun j f g=>by have:=c (j+1) (by omega) (by simpa using g);simpa using this);unfold lbN at this⊢;rw[ZbF,this,if_pos (by simpa using k)]
theorem lb_le{l:List Nat}{t:Nat}:lbN l t<=l.length:=ZbV
theorem Qdi{l:List Nat}(h:l.Pairwise (·<=·)){p q:Nat}(a:p<=q)(c:q<l.length):l.getD p 0<=l.getD q 0:=by
 rw[Zak,Zak,Zal (by omega),Zal c];rcases Nat.lt_or_eq_of_le a with h1|h1;·exact Za8.1 h p q (by omega) c h1
 subst h1;exact ZaO _
theorem QlZ{l:List Nat}(h:l.Pairwise (·<=·)){t i:Nat}(h1:∀j,j<i->l.getD j 0<t)(k:∀j,i<=j->j<l.length->¬l.getD j 0<t):l.contains t=decide (i<l.length/\l.getD i 0=t):=by
 rw[ZbU,decide_eq_true_iff,List.contains_iff_mem];constructor
 ·intro hm;obtain⟨q,d,a⟩:=Qcy hm;have g:l.getD q 0=t:=by rw[Zak,d];rfl
  have c:i<=q:=by refine Nat.le_of_not_lt fun f=>?_;have:=h1 q f;omega
  have m:=Qdi h c a;have n:=k i (ZaO _) (by omega);exact⟨by omega,by omega⟩
 rintro⟨hi,e⟩;rw[<-e,Zak,Zal hi];exact List.getElem_mem hi
theorem nan81(x:Int):PSpec Tryz.prog 227 [.int .i64 x] (.bool false):=by refine Zcg 64 ok227 rfl (by(try simp only[noRefs,QaI,Qai,Qal,Qaa,Qaj,Qad,Qak,Qao,Qah,noRef,Zad,Zac])<;>rfl) rfl ?_;unfold s227;refine ZcL ?_;exact⟨.inr trivial,_,rfl,rfl⟩
theorem nan66(x:Int):PSpec Tryz.prog 198 [.int .i64 x] (.bool false):=by refine Zcg 64 ok198 rfl (by(try simp only[noRefs,QaI,Qai,Qal,Qaa,Qaj,Qad,Qak,Qao,Qah,noRef,Zad,Zac])<;>rfl) rfl ?_;unfold s198;refine ZcL ?_;exact⟨.inr trivial,_,rfl,rfl⟩
theorem less65(x y:Int):PSpec Tryz.prog 197 [.int .i64 x,.int .i64 y] (.bool (decide (x<y))):=by refine Zcg 64 ok197 rfl (by(try simp only[noRefs,QaI,Qai,Qal,Qaa,Qaj,Qad,Qak,Qao,Qah,noRef,Zad,Zac])<;>rfl) rfl ?_;unfold s197;refine ZcL ?_;refine cp (nan81 x) ?_;refine ZcL ?_;exact⟨.inr trivial,_,rfl,rfl⟩
theorem find57(l:List Nat)(t:Nat)(m:l.Pairwise (·<=·))(x:l.length<=1000000):PSpec Tryz.prog 144 [sliN l,.int .i64 (t:Int)] (.tup [.int .i64 (lbN l t:Int),.bool (l.contains t)]):=by
 refine Zcg 64 ok144 rfl (by(try simp only[noRefs,QaI,Qai,Qal,Qaa,Qaj,Qad,Qak,Qao,Qah,noRef,Zad,Zac])<;>rfl) rfl ?_;unfold s144;refine ZcL ?_;refine Qaq 100 (fun p:Nat×Nat=>[(0,sliN l),(1,.int .i64 (t:Int)),(6,.int .i64 l.length),(7,.int .i64 p.1),(8,.int .i64 p.2)]) (fun _=>[]) (fun p=>p.1<=p.2/\p.2<=l.length/\(∀q,q<p.1->l.getD q 0<t)/\∀q,p.2<=q->q<l.length->¬l.getD q 0<t) (fun p=>p.2-p.1) (0,l.length) 0 140 (fun i:Nat=>[(0,sliN l),(1,.int .i64 (t:Int)),(6,.int .i64 l.length),(7,.int .i64 i)]) (fun _=>[]) (fun i=>i<=l.length/\(∀q,q<i->l.getD q 0<t)/\∀q,i<=q->q<l.length->¬l.getD q 0<t) ?_ ⟨Zah _,ZaO _,fun q f=>absurd f (ZaD _),fun q h1 d=>by omega⟩ ?_ ?_;·exact⟨[],rfl,au0,au11,au12⟩
 ·rintro⟨i,j⟩⟨g,s,h1,d⟩;dsimp only at g s h1 d⊢;by_cases a:i<j
  ·obtain⟨k,hk,o,w⟩:∃k:Nat,aBin .shr (.int .u64 ((i:Int)+(j:Int))) (.int .u64 1)=some (.int .u64 (k:Int))/\i<=k/\k<j:=⟨(i+j)/2,shr1,by omega,by omega⟩;have c:k<l.length:=by omega
   have v:l[k]?=some (l.getD k 0):=by rw[Zal c];simp[c]
   refine ZcM (ZcP a hk c (QaJ v)) ?_;refine cp (less65 _ _) ?_;by_cases hc:l.getD k 0<t;·rw[decide_eq_true (by omega)];refine ZcL ?_;refine⟨(k+1,j),by dsimp only;omega,⟨by dsimp only;omega,s,fun q f=>?_,d⟩,⟨[],rfl,au0,au11,au12⟩⟩;have:=Qdi m (p:=q) (q:=k) (by dsimp only at f;omega) c;omega
   rw[decide_eq_false (by omega)];refine ZcL ?_;refine⟨(i,k),by dsimp only;omega,⟨o,by dsimp only;omega,h1,fun q f r=>?_⟩,⟨[],rfl,au0,au11,au12⟩⟩;have:=Qdi m (p:=k) (q:=q) f r;omega
  have e:i=j:=by omega
  subst e;refine ZcM a ?_;exact⟨i,⟨s,h1,d⟩,⟨[],rfl,au0,au11,au12⟩⟩
 rintro i⟨hi,h1,d⟩;rw[lb_eq hi h1 d,QlZ m h1 d];by_cases a:i<l.length
 ·have u:l[i]?=some (l.getD i 0):=by rw[Zal a];simp[a]
  by_cases he:l.getD i 0=t;·rw[decide_eq_true ⟨a,he⟩];rw[he]at u;refine ZcM (ZcN a (QaJ u)) ?_;exact⟨.inr trivial,_,rfl,rfl⟩
  rw[decide_eq_false fun h=>he h.2];generalize l.getD i 0=y at*;have n:¬(y:Int)=(t:Int):=by omega
  refine ZcM (ZcO a (QaJ u) n) ?_;refine cp (nan66 _) ?_;refine ZcL ?_;exact⟨.inr trivial,_,rfl,rfl⟩
 rw[decide_eq_false fun h=>a h.1];refine ZcM a ?_;exact⟨.inr trivial,_,rfl,rfl⟩
end Go.AM.SE
namespace Go.AM.SE
open Go.Proofs Go.AM.SD
abbrev edV(e:Ed):AV:=.agg [.int .i64 (e.1:Int),.int .i64 (e.2.1:Int),.int .i64 (e.2.2:Int)]
theorem Qis(x y:Ed):aEq (.flat true [.i,.i,.i]) true (edV x) (edV y)=some (.bool (!decide (x=y))):=by have:∀n m:Nat,decide ((n:Int)=(m:Int))=decide (n=m):=fun n m=>decide_eq_decide.2 (by omega);obtain⟨a,b,c⟩:=x;obtain⟨g,d,f⟩:=y;simp only[aEq,eqCells,eqCell,if_true];simp only[Zaj,Bool.decide_and,this];cases decide (a=g)<;>cases decide (b=d)<;>cases decide (c=f)<;>rfl
theorem eq41(a b:List Int)(o:b.length<=1000000):PSpec Tryz.prog 31 [sli a,sli b] (.bool (decide (a=b))):=by
 refine Zcg 64 ok31 rfl (by(try simp only[noRefs,QaI,Qai,Qal,Qaa,Qaj,Qad,Qak,Qao,Qah,noRef,Zad,Zac])<;>rfl) rfl ?_;by_cases f:a.length=b.length
 ·unfold s31;refine ZcM f ?_;refine QaN 100 (fun i:Nat=>[(0,sli a),(1,sli b),(12,.int .i64 b.length),(13,.int .i64 i)]) (fun _=>[]) (fun i=>i<=b.length/\∀j,j<i->a[j]?=b[j]?) (fun i=>b.length-i) 0 ⟨[],rfl,au0,au11,au12⟩ ⟨Zah _,fun j l=>absurd l (ZaD _)⟩ ?_;rintro i⟨hi,n⟩;by_cases d:i<b.length
  ·obtain⟨x,k⟩:=Qap (l:=a) (i:=i) (by omega);obtain⟨y,g⟩:=Qap (l:=b) (i:=i) (by omega);have c:i<a.length:=by omega
   by_cases h:x=y
   ·have m:True:=by trivial
    refine ZcM (ZcR d c (QaP k) (QaP g) h m) ?_;refine⟨i+1,by omega,⟨by omega,fun j l=>?_⟩,⟨[],rfl,au0,au11,au12⟩⟩;by_cases e:j=i;·subst e;rw[k,g,h]
    exact n j (by omega)
   have m:True:=by trivial
   refine ZcM (ZcR d c (QaP k) (QaP g) h m) ?_;refine⟨.inr trivial,_,rfl,?_⟩;have:a≠b:=fun e=>by subst e;rw[k]at g;cases g;exact h rfl
   simp[resOf,QaL,this]
  have :a=b:=Zba fun j=>by
   by_cases l:j<i;·exact n j l
   rw[Zat (by omega),Zat (by omega)]
  refine ZcM d ?_;exact⟨.inr trivial,_,rfl,by simp[resOf,QaL,this]⟩
 unfold s31;refine ZcM f ?_;have:a≠b:=fun e=>f (by rw[e]);exact⟨.inr trivial,_,rfl,by simp[resOf,QaL,this]⟩
theorem eq55(a b:List Ed)(o:b.length<=10000000):PSpec Tryz.prog 106 [egsN a,egsN b] (.bool (decide (a=b))):=by
 refine Zcg 64 ok106 rfl (by(try simp only[noRefs,QaI,Qai,Qal,Qaa,Qaj,Qad,Qak,Qao,Qah,noRef,Zad,Zac])<;>rfl) rfl ?_;by_cases d:a.length=b.length
 ·unfold s106;refine ZcM d ?_;refine QaN 100 (fun i:Nat=>[(0,egsN a),(1,egsN b),(12,.int .i64 b.length),(13,.int .i64 i)]) (fun _=>[]) (fun i=>i<=b.length/\∀j,j<i->a[j]?=b[j]?) (fun i=>b.length-i) 0 ⟨[],rfl,au0,au11,au12⟩ ⟨Zah _,fun j k=>absurd k (ZaD _)⟩ ?_;rintro i⟨hi,n⟩;by_cases f:i<b.length
  ·obtain⟨x,l⟩:=Qap (l:=a) (i:=i) (by omega);obtain⟨y,g⟩:=Qap (l:=b) (i:=i) (by omega);have c:i<a.length:=by omega
   by_cases h:x=y
   ·have m:aEq (.flat true [.i,.i,.i]) true (edV y) (edV y)=some (.bool false):=by rw[Qis];simp
    refine ZcM (ZcR f c (QaB l) (QaB g) h m) ?_;refine⟨i+1,by omega,⟨by omega,fun j k=>?_⟩,⟨[],rfl,au0,au11,au12⟩⟩;by_cases e:j=i;·subst e;rw[l,g,h]
    exact n j (by omega)
   have m:aEq (.flat true [.i,.i,.i]) true (edV x) (edV y)=some (.bool true):=by rw[Qis];simp[h]
   refine ZcM (ZcR f c (QaB l) (QaB g) h m) ?_;refine⟨.inr trivial,_,rfl,?_⟩;have:a≠b:=fun e=>by subst e;rw[l]at g;cases g;exact h rfl
   simp[resOf,QaL,this]
  have :a=b:=Zba fun j=>by
   by_cases k:j<i;·exact n j k
   rw[Zat (by omega),Zat (by omega)]
  refine ZcM f ?_;exact⟨.inr trivial,_,rfl,by simp[resOf,QaL,this]⟩
 unfold s106;refine ZcM d ?_;have:a≠b:=fun e=>d (by rw[e]);exact⟨.inr trivial,_,rfl,by simp[resOf,QaL,this]⟩
theorem QpO{a b:List Nat}:decide (nz a=nz b)=decide (a=b):=by
 refine decide_eq_decide.2 ⟨fun h=>?_,fun h=>by rw[h]⟩;have:∀a b:List Nat,nz a=nz b->a=b:=by intro a;induction a with
  |nil=>intro b h;cases b with|nil=>rfl|cons=>simp at h
  |cons x a c=>intro b h;cases b with|nil=>simp at h|cons y b=>simp only[nz,ZaR,List.cons.injEq]at h;rw[c b h.2,show x=y by omega]
 exact this a b h
theorem eq41N(a b:List Nat)(c:b.length<=1000000):PSpec Tryz.prog 31 [sliN a,sliN b] (.bool (decide (a=b))):=by have:=eq41 (nz a) (nz b) (by simpa using c);rw[Qbi,Qbi,QpO]at this;exact this
theorem eq14N(a b:List Nat)(c:a.length<=1000000):PSpec Tryz.prog 65 [sliN a,sliN b] (.bool (decide (a=b))):=by have:=sameInts (nz a) (nz b) (by simp;omega);rw[Qbi,Qbi,QpO]at this;exact this
def autB(x y:Aut):Bool:=decide (x.n=y.n)&&(decide (x.al=y.al)&&(decide (x.ms=y.ms)&&decide (x.es=y.es)))
structure AOk(r:Aut):Prop where
 al:r.al.length<=1000000
 ms:r.ms.length<=1000000
 es:r.es.length<=10000000
theorem eq43(x y:Aut)(g:AOk x)(a:AOk y):PSpec Tryz.prog 33 [aV x,aV y] (.bool (autB x y)):=by
 refine Zcg 64 ok33 rfl (by(try simp only[noRefs,QaI,Qai,Qal,Qaa,Qaj,Qad,Qak,Qao,Qah,noRef,Zad,Zac])<;>rfl) rfl ?_;have c1:=eq41N x.al y.al a.al;have c2:=eq41N x.ms y.ms a.ms;have d:=eq55 x.es y.es a.es;unfold autB;by_cases h1:x.n=y.n;·rw[decide_eq_true h1,Zag];generalize decide (x.al=y.al)=c at*;generalize decide (x.ms=y.ms)=b2 at*;generalize decide (x.es=y.es)=f at*;unfold s33;refine ZcM h1 ?_;refine cp c1 ?_;cases c with|false=>refine ZcL ?_;exact⟨.inr trivial,_,rfl,rfl⟩|true=>refine ZcL ?_;refine cp c2 ?_;cases b2 with|false=>refine ZcL ?_;exact⟨.inr trivial,_,rfl,rfl⟩|true=>refine ZcL ?_;refine cp d ?_;refine ZcL ?_;exact⟨.inr trivial,_,rfl,rfl⟩
 rw[decide_eq_false h1,Zbl];unfold s33;refine ZcM h1 ?_;exact⟨.inr trivial,_,rfl,rfl⟩
theorem same30(x y:Aut)(k:AOk x)(r:AOk y):PSpec Tryz.prog 64 [aV x,aV y] (.bool (autB x y)):=by refine Zcg 64 ok64 rfl (by(try simp only[noRefs,QaI,Qai,Qal,Qaa,Qaj,Qad,Qak,Qao,Qah,noRef,Zad,Zac])<;>rfl) rfl ?_;have c1:=eq14N x.al y.al k.al;have c2:=eq14N x.ms y.ms k.ms;unfold autB;have o:=k.es;have n:=r.es;generalize decide (x.al=y.al)=s at*;generalize decide (x.ms=y.ms)=b2 at*;unfold s64;refine ZcL ?_;refine cp c1 ?_;cases s with|false=>rw[Zbl,Bool.and_false];refine ZcL ?_;exact⟨.inr trivial,_,rfl,rfl⟩|true=>
 by_cases h1:x.n=y.n;·rw[decide_eq_true h1,Zag,Zag];refine ZcM h1 ?_;refine cp c2 ?_;cases b2 with|false=>rw[Zbl];refine ZcL ?_;exact⟨.inr trivial,_,rfl,rfl⟩|true=>
  rw[Zag];by_cases l:x.es.length=y.es.length
  ·refine ZcM l ?_;refine QaN 100 (fun i:Nat=>[(2,.ptr 50 0 0),(3,.ptr 60 0 0),(5,.int .i64 i)]) (fun _=>[(50,.cells 0 [sliN x.al,.int .i64 (y.n:Int),sliN x.ms,egsN x.es]),(60,.cells 0 [sliN y.al,.int .i64 (y.n:Int),sliN y.ms,egsN y.es])]) (fun i=>i<=y.es.length/\∀j,j<i->x.es[j]?=y.es[j]?) (fun i=>y.es.length-i) 0 ⟨[(50,.blk 64 0),(60,.blk 65 0)],rfl,au0,au11,au12⟩ ⟨Zah _,fun j h=>absurd h (ZaD _)⟩ ?_;rintro i⟨hi,m⟩;by_cases c:i<x.es.length
   ·obtain⟨p,hp⟩:=Qap (l:=x.es) (i:=i) (by omega);obtain⟨q,f⟩:=Qap (l:=y.es) (i:=i) (by omega);have a:i<y.es.length:=by omega
    by_cases g:p=q
    ·have d:aEq (.flat true [.i,.i,.i]) true (edV q) (edV q)=some (.bool false):=by rw[Qis];simp
     refine ZcM (ZcR c a (QaB hp) (QaB f) g d) ?_;refine⟨i+1,by omega,⟨by omega,fun j h=>?_⟩,⟨[(50,.blk 50 0),(60,.blk 60 0)],rfl,au0,au11,au12⟩⟩;by_cases e:j=i;·subst e;rw[hp,f,g]
     exact m j (by omega)
    have d:aEq (.flat true [.i,.i,.i]) true (edV p) (edV q)=some (.bool true):=by rw[Qis];simp[g]
    refine ZcM (ZcQ c a (QaB hp) (QaB f) d) ?_;refine⟨.inr trivial,_,rfl,?_⟩;have:x.es≠y.es:=fun e=>by rw[e,f]at hp;cases hp;exact g rfl
    simp[resOf,QaL,this]
   have :x.es=y.es:=Zba fun j=>by
    by_cases h:j<i;·exact m j h
    rw[Zat (by omega),Zat (by omega)]
   refine ZcM c ?_;exact⟨.inr trivial,_,rfl,by simp[resOf,QaL,this]⟩
  refine ZcM l ?_;have:x.es≠y.es:=fun e=>l (by rw[e]);exact⟨.inr trivial,_,rfl,by simp[resOf,QaL,this]⟩
 rw[decide_eq_false h1,Zbl];refine ZcM h1 ?_;exact⟨.inr trivial,_,rfl,rfl⟩
def resB(x y:Res):Bool:=decide (x.kept=y.kept)&&(decide (x.dist=y.dist)&&(decide (x.rem=y.rem)&&(decide (x.rounds=y.rounds)&&(autB x.sup y.sup&&decide (x.orig=y.orig)))))
structure ROk(r:Res):Prop where
 kept:r.kept.length<=1000000
 dist:r.dist.length<=1000000
 rem:r.rem.length<=1000000
 orig:r.orig.length<=1000000
 sup:AOk r.sup
theorem QdD(x:Aut):autB x x=true:=by simp[autB]
theorem QpP(x:Res):resB x x=true:=by simp[resB,QdD]
end Go.AM.SE
namespace Go.AM.SE
open Go.Proofs Go.AM.SD
abbrev froms(es:List Ed):List Nat:=es.map (·.1)
theorem Qkc:∀(l:List Ed)(i:Nat),(l.flatMap edC).drop (i*3)=(l.drop i).flatMap edC|l,0=>by simp|[],i+1=>by simp|e::l,i+1=>by rw[Zav,Zbc,Zbe];show List.drop (i*3+3) (_::_::_::l.flatMap edC)=_;rw[Zbe,Zbe,Zbe];exact Qkc l i
theorem Qkd:∀(l:List Ed)(i:Nat),(l.flatMap edC).take (i*3)=(l.take i).flatMap edC|l,0=>by simp|[],i+1=>by simp|e::l,i+1=>by rw[Zav,Zbc,ZaY,Zav];show List.take (i*3+3) (_::_::_::l.flatMap edC)=_;rw[ZaY,ZaY,ZaY,Qkd l i];rfl
theorem QnG{x t:Nat}{l:List Nat}:lbN (x::l) t=lbN l t+if x<t then 1 else 0:=by unfold lbN;rw[ZbF];simp
theorem QiS{l:List Nat}{t:Nat}(h:∀x∈l,t<=x):lbN l t=0:=by unfold lbN;rw[List.countP_eq_zero];intro x a;have:=h x a;simp;omega
theorem QpQ:∀{es:List Ed},es.Pairwise (fun a b=>a.1<=b.1)->∀v:Nat,(es.drop (lbN (froms es) v)).take (lbN (froms es) (v+1)-lbN (froms es) v)=sOut es (fun _=>true) v
 |[],_,_=>by simp[sOut]|e::es,h,v=>by
  rw[Zaz]at h;have c:=QpQ h.2 v;have j:froms (e::es)=e.1::froms es:=rfl;have k:sOut (e::es) (fun _=>true) v=if e.1=v then e::sOut es (fun _=>true) v else sOut es (fun _=>true) v:=by unfold sOut;rw[Zb3];simp
  rw[j,QnG,QnG,k];rcases Nat.lt_trichotomy e.1 v with h1|h1|h1;·rw[if_pos h1,if_pos (by omega),if_neg (by omega),Zbe,Nat.add_sub_add_right,c]
  ·have g:lbN (froms es) v=0:=QiS fun x d=>by obtain⟨y,f,rfl⟩:=Zaq.1 d;have:=h.1 y f;omega
   rw[g]at c⊢;have l:¬e.1<v:=by omega
   have i2:e.1<v+1:=by omega
   simp only[if_neg l,if_pos i2,if_pos h1,Nat.add_zero,Za9,Nat.sub_zero,ZaY];rw[Za9,Nat.sub_zero]at c;rw[c]
  have g:lbN (froms es) v=0:=QiS fun x d=>by obtain⟨y,f,rfl⟩:=Zaq.1 d;have:=h.1 y f;omega
  have i:lbN (froms es) (v+1)=0:=QiS fun x d=>by obtain⟨y,f,rfl⟩:=Zaq.1 d;have:=h.1 y f;omega
  rw[g,i]at c⊢;rw[if_neg (by omega),if_neg (by omega),if_neg (by omega)];simpa using c
theorem sub229(e:Ed)(t:Nat)(he:e.1<=1000000)(a:t<=1000000):PSpec Tryz.prog 229 [edV e,.int .i64 (t:Int)] (.int .i64 ((e.1:Int)-(t:Int))):=by refine Zcg 64 ok229 rfl (by(try simp only[noRefs,QaI,Qai,Qal,Qaa,Qaj,Qad,Qak,Qao,Qah,noRef,Zad,Zac])<;>rfl) rfl ?_;unfold s229;refine ZcL ?_;exact⟨.inr trivial,_,rfl,rfl⟩
theorem sub230(e:Ed)(t:Nat)(he:e.1<=1000000)(a:t<=1000000):PSpec Tryz.prog 230 [edV e,.int .i64 (t:Int)] (.int .i64 ((e.1:Int)-(t:Int))):=by refine Zcg 64 ok230 rfl (by(try simp only[noRefs,QaI,Qai,Qal,Qaa,Qaj,Qad,Qak,Qao,Qah,noRef,Zad,Zac])<;>rfl) rfl ?_;unfold s230;refine ZcL ?_;exact⟨.inr trivial,_,rfl,rfl⟩
theorem find67(es:List Ed)(t:Nat)(u:(froms es).Pairwise (·<=·))(w:∀e∈es,e.1<=1000000)(s:t<=1000000)(A:es.length<=1000000):PSpec Tryz.prog 228 [egsN es,.int .i64 (t:Int),.fn 229 [] []] (.tup [.int .i64 (lbN (froms es) t:Int),.bool ((froms es).contains t)]):=by
 refine Zcg 64 ok228 rfl (by(try simp only[noRefs,QaI,Qai,Qal,Qaa,Qaj,Qad,Qak,Qao,Qah,noRef,Zad,Zac])<;>rfl) rfl ?_;have x:(froms es).length=es.length:=by simp
 unfold s228;refine ZcL ?_;refine Qaq 100 (fun p:Nat×Nat=>[(0,egsN es),(1,.int .i64 (t:Int)),(2,.fn 229 [] []),(8,.int .i64 es.length),(9,.int .i64 p.1),(10,.int .i64 p.2)]) (fun _=>[]) (fun p=>p.1<=p.2/\p.2<=es.length/\(∀q,q<p.1->(froms es).getD q 0<t)/\∀q,p.2<=q->q<es.length->¬(froms es).getD q 0<t) (fun p=>p.2-p.1) (0,es.length) 0 140 (fun i:Nat=>[(0,egsN es),(1,.int .i64 (t:Int)),(2,.fn 229 [] []),(8,.int .i64 es.length),(9,.int .i64 i)]) (fun _=>[]) (fun i=>i<=es.length/\(∀q,q<i->(froms es).getD q 0<t)/\∀q,i<=q->q<es.length->¬(froms es).getD q 0<t) ?_ ⟨Zah _,ZaO _,fun q l=>absurd l (ZaD _),fun q h1 g=>by omega⟩ ?_ ?_;·exact⟨[],rfl,au0,au11,au12⟩
 ·rintro⟨i,j⟩⟨o,r,h1,g⟩;dsimp only at o r h1 g⊢;by_cases c:i<j
  ·obtain⟨k,hk,v,z⟩:∃k:Nat,aBin .shr (.int .u64 ((i:Int)+(j:Int))) (.int .u64 1)=some (.int .u64 (k:Int))/\i<=k/\k<j:=⟨(i+j)/2,shr1,by omega,by omega⟩;have m:k<es.length:=by omega
   obtain⟨e,he⟩:=Qap m;have n:(froms es).getD k 0=e.1:=by rw[Zak,ZaJ,he];rfl
   have f:=w e (Zaf he);refine ZcM (ZcP c hk m (QaB he)) ?_;refine cp (sub229 e t f s) ?_;by_cases hc:e.1<t
   ·have d:(e.1:Int)-(t:Int)<0:=by omega
    refine ZcM d ?_;refine⟨(k+1,j),by dsimp only;omega,⟨by dsimp only;omega,r,fun q l=>?_,g⟩,⟨[],rfl,au0,au11,au12⟩⟩;have:=Qdi u (p:=q) (q:=k) (by dsimp only at l;omega) (by omega);omega
   have d:¬(e.1:Int)-(t:Int)<0:=by omega
   refine ZcM d ?_;refine⟨(i,k),by dsimp only;omega,⟨v,by dsimp only;omega,h1,fun q l y=>?_⟩,⟨[],rfl,au0,au11,au12⟩⟩;have:=Qdi u (p:=k) (q:=q) l (by omega);omega
  have e:i=j:=by omega
  subst e;refine ZcM c ?_;exact⟨i,⟨r,h1,g⟩,⟨[],rfl,au0,au11,au12⟩⟩
 rintro i⟨hi,h1,g⟩;rw[lb_eq (by omega) h1 fun q a b=>g q a (by omega),QlZ u h1 fun q a b=>g q a (by omega)];by_cases c:i<es.length
 ·obtain⟨e,he⟩:=Qap c;have n:(froms es).getD i 0=e.1:=by rw[Zak,ZaJ,he];rfl
  have f:=w e (Zaf he);rw[n];by_cases hc:e.1=t
  ·rw[decide_eq_true ⟨by omega,hc⟩];have d:(e.1:Int)-(t:Int)=0:=by omega
   refine ZcM (ZcN c (QaB he)) ?_;refine cp (sub229 e t f s) ?_;refine ZcM d ?_;exact⟨.inr trivial,_,rfl,rfl⟩
  rw[decide_eq_false fun h=>hc h.2];have d:¬(e.1:Int)-(t:Int)=0:=by omega
  refine ZcM (ZcN c (QaB he)) ?_;refine cp (sub229 e t f s) ?_;refine ZcM d ?_;exact⟨.inr trivial,_,rfl,rfl⟩
 rw[decide_eq_false fun h=>c (by omega)];refine ZcM c ?_;exact⟨.inr trivial,_,rfl,rfl⟩
theorem find67b(es:List Ed)(t:Nat)(u:(froms es).Pairwise (·<=·))(w:∀e∈es,e.1<=1000000)(s:t<=1000000)(A:es.length<=1000000):PSpec Tryz.prog 228 [egsN es,.int .i64 (t:Int),.fn 230 [] []] (.tup [.int .i64 (lbN (froms es) t:Int),.bool ((froms es).contains t)]):=by
 refine Zcg 64 ok228 rfl (by(try simp only[noRefs,QaI,Qai,Qal,Qaa,Qaj,Qad,Qak,Qao,Qah,noRef,Zad,Zac])<;>rfl) rfl ?_;have x:(froms es).length=es.length:=by simp
 unfold s228;refine ZcL ?_;refine Qaq 100 (fun p:Nat×Nat=>[(0,egsN es),(1,.int .i64 (t:Int)),(2,.fn 230 [] []),(8,.int .i64 es.length),(9,.int .i64 p.1),(10,.int .i64 p.2)]) (fun _=>[]) (fun p=>p.1<=p.2/\p.2<=es.length/\(∀q,q<p.1->(froms es).getD q 0<t)/\∀q,p.2<=q->q<es.length->¬(froms es).getD q 0<t) (fun p=>p.2-p.1) (0,es.length) 0 140 (fun i:Nat=>[(0,egsN es),(1,.int .i64 (t:Int)),(2,.fn 230 [] []),(8,.int .i64 es.length),(9,.int .i64 i)]) (fun _=>[]) (fun i=>i<=es.length/\(∀q,q<i->(froms es).getD q 0<t)/\∀q,i<=q->q<es.length->¬(froms es).getD q 0<t) ?_ ⟨Zah _,ZaO _,fun q l=>absurd l (ZaD _),fun q h1 g=>by omega⟩ ?_ ?_;·exact⟨[],rfl,au0,au11,au12⟩
 ·rintro⟨i,j⟩⟨o,r,h1,g⟩;dsimp only at o r h1 g⊢;by_cases c:i<j
  ·obtain⟨k,hk,v,z⟩:∃k:Nat,aBin .shr (.int .u64 ((i:Int)+(j:Int))) (.int .u64 1)=some (.int .u64 (k:Int))/\i<=k/\k<j:=⟨(i+j)/2,shr1,by omega,by omega⟩;have m:k<es.length:=by omega
   obtain⟨e,he⟩:=Qap m;have n:(froms es).getD k 0=e.1:=by rw[Zak,ZaJ,he];rfl
   have f:=w e (Zaf he);refine ZcM (ZcP c hk m (QaB he)) ?_;refine cp (sub230 e t f s) ?_;by_cases hc:e.1<t
   ·have d:(e.1:Int)-(t:Int)<0:=by omega
    refine ZcM d ?_;refine⟨(k+1,j),by dsimp only;omega,⟨by dsimp only;omega,r,fun q l=>?_,g⟩,⟨[],rfl,au0,au11,au12⟩⟩;have:=Qdi u (p:=q) (q:=k) (by dsimp only at l;omega) (by omega);omega
   have d:¬(e.1:Int)-(t:Int)<0:=by omega
   refine ZcM d ?_;refine⟨(i,k),by dsimp only;omega,⟨v,by dsimp only;omega,h1,fun q l y=>?_⟩,⟨[],rfl,au0,au11,au12⟩⟩;have:=Qdi u (p:=k) (q:=q) l (by omega);omega
  have e:i=j:=by omega
  subst e;refine ZcM c ?_;exact⟨i,⟨r,h1,g⟩,⟨[],rfl,au0,au11,au12⟩⟩
 rintro i⟨hi,h1,g⟩;rw[lb_eq (by omega) h1 fun q a b=>g q a (by omega),QlZ u h1 fun q a b=>g q a (by omega)];by_cases c:i<es.length
 ·obtain⟨e,he⟩:=Qap c;have n:(froms es).getD i 0=e.1:=by rw[Zak,ZaJ,he];rfl
  have f:=w e (Zaf he);rw[n];by_cases hc:e.1=t
  ·rw[decide_eq_true ⟨by omega,hc⟩];have d:(e.1:Int)-(t:Int)=0:=by omega
   refine ZcM (ZcN c (QaB he)) ?_;refine cp (sub230 e t f s) ?_;refine ZcM d ?_;exact⟨.inr trivial,_,rfl,rfl⟩
  rw[decide_eq_false fun h=>hc h.2];have d:¬(e.1:Int)-(t:Int)=0:=by omega
  refine ZcM (ZcN c (QaB he)) ?_;refine cp (sub230 e t f s) ?_;refine ZcM d ?_;exact⟨.inr trivial,_,rfl,rfl⟩
 rw[decide_eq_false fun h=>c (by omega)];refine ZcM c ?_;exact⟨.inr trivial,_,rfl,rfl⟩
theorem out58(a:Aut)(v:Nat)(h:WfA a)(c:a.es.length<=1000000)(m:v<=100000):PSpec Tryz.prog 199 [aV a,.int .i64 (v:Int)] (egsN (sOut a.es (fun _=>true) v)):=by
 have g:(froms a.es).Pairwise (·<=·):=by rw[Zbp];exact h.srt
 have i:∀e∈a.es,e.1<=1000000:=fun e he=>by have:=(h.esn e he).1;have:=h.n5;omega
 have f1:=find67 a.es v g i (by omega) c;have f2:=find67b a.es (v+1) g i (by omega) c;have k:((v+1:Nat):Int)=(v:Int)+1:=by omega
 rw[k]at f2;have ho:=QpQ h.srt v;have j:=lb_le (l:=froms a.es) (t:=v+1);rw[Zaw]at j;have hm:lbN (froms a.es) v<=lbN (froms a.es) (v+1):=List.countP_mono_left fun x _ l=>by simp at l⊢;omega
 generalize(froms a.es).contains v=n at*;generalize(froms a.es).contains (v+1)=b2 at*;generalize lbN (froms a.es) v=p at*;generalize lbN (froms a.es) (v+1)=q at*;have hlen:q-p=(sOut a.es (fun _=>true) v).length:=by rw[<-ho,Zas,Za6];omega
 have f:(p:Int)<=(q:Int):=by omega
 have d:(q:Int)<=(a.es.length:Int):=by omega
 refine Zcf 64 ok199 rfl (by(try simp only[noRefs,QaI,Qai,Qal,Qaa,Qaj,Qad,Qak,Qao,Qah,noRef,Zad,Zac])<;>rfl) (Qam _) ?_;unfold s199;refine ZcL ?_;refine cp f1 ?_;refine ZcL ?_;refine cp f2 ?_;refine ZcM (ZcN f d) ?_;refine⟨.inr trivial,_,rfl,?_⟩;rw[Qkc,Qkd,ho,hlen];exact Zcd (Qam _)
end Go.AM.SE
namespace Go.AM.SE
open Go.Proofs Go.AM.SD
theorem QpR{l:List Nat}{x:Nat}:idx l x<=l.length:=by grind[idx]
theorem Qei{l:List Nat}{x:Nat}(h:x∈l):idx l x<l.length:=by simp_all[idx]
theorem Qgw{l:List Nat}{x:Nat}(h:x∉l):idx l x=l.length:=by grind[idx]
abbrev rsB(a:Aut)(m e:Nat):List AV:=[sliN a.al,.int .i64 0,.sl 77 0 0 m 1,.sl 76 0 0 e 3]
abbrev rsA(a:Aut):List AV:=[sliN a.al,.int .i64 (a.n:Int),sliN a.ms,egsN a.es]
abbrev rsN:List AV:=[.nilsl,.int .i64 0,.nilsl,.nilsl]
end Go.AM.SE
namespace Go.AM.SE
open Go.Proofs Go.AM.SD
def pl(n:Nat)(o:List Nat):List Int:=(List.range n).map fun x=>if o.contains x then((SD.idx o x:Nat):Int)else-1
theorem Qit{n:Nat}{o:List Nat}:(pl n o).length=n:=by simp[pl]
theorem Qiu{n:Nat}{o:List Nat}{x:Nat}(a:x<n):(pl n o).getD x 0=if o.contains x then((SD.idx o x:Nat):Int)else-1:=by unfold pl;rw[Zak,ZaJ,Zbu a];rfl
theorem QpS{n:Nat}{o:List Nat}{x:Nat}(c:x∉o):(pl n o).set x (o.length:Int)=pl n (o++[x]):=by
 refine List.ext_getElem (by simp[pl]) fun j h1 a=>?_;have f:j<n:=by simpa[pl]using a
 rw[List.getElem_set];simp only[pl,List.getElem_map,List.getElem_range];by_cases e:x=j;·subst e;rw[if_pos rfl,if_pos (by simp),SD.QdU c]
 rw[if_neg e];by_cases hm:j∈o;·rw[if_pos (by simpa using hm),if_pos (by simp[hm]),SD.Qdc hm]
 have d:¬j=x:=fun h=>e h.symm;rw[if_neg (by simpa using hm),if_neg (by simp[hm,d])]
theorem Qq7{n:Nat}(d:0<n):(List.replicate n (-1:Int)).set 0 0=pl n [0]:=by
 refine List.ext_getElem (by simp[pl]) fun j h1 a=>?_;have f:j<n:=by simpa[pl]using a
 rw[List.getElem_set];simp only[pl,List.getElem_map,List.getElem_range,List.getElem_replicate];by_cases e:0=j;·subst e;rw[if_pos rfl,if_pos (by simp)];rfl
 have c:¬j=0:=fun h=>e h.symm;rw[if_neg e,if_neg (by simp[c])]
abbrev cnB(a:Aut)(m e:Nat):List AV:=[.sl 83 0 0 a.al.length 1,.int .i64 0,.sl 77 0 0 m 1,.sl 76 0 0 e 3]
abbrev tru:Nat->Bool:=fun _=>true
theorem canonical44(a:Aut)(h:WfA a)(Y:a.es.length<=1000000):PSpec Tryz.prog 150 [aV a] (aV (restr a tru)):=by
 have hn5:=h.n5;have hal:a.al.length<=32:=QaS 32 a.al (by rw[ZaK];exact h.al.imp fun h=>by omega) h.al5;have hml:a.ms.length<=a.n:=QaS a.n a.ms h.nd h.msn;have O:a.ms.Pairwise (·<=·):=h.ms.imp fun h=>by omega
 have U:(a.n:Int)<=140737488355328:=by omega
 have S:(8:Int)*(a.n:Int)<=140737488355328:=by omega
 refine Zcf 40 ok150 rfl (by(try simp only[noRefs,QaI,Qai,Qal,Qaa,Qaj,Qad,Qak,Qao,Qah,noRef,Zad,Zac])<;>rfl) (Qdf _) ?_;unfold s150;refine ZcL ?_;refine ch (HSpec.of_O (b:=83) (by(try simp only[noRefs,QaI,Qai,Qal,Qaa,Qaj,Qad,Qak,Qao,Qah,noRef,Zad,Zac])<;>rfl) (clone56 a.al (by omega)) (by repeat(first|exact Fresh.e|exact Fresh.le (by assumption) (by omega)|refine Fresh.set ?_ (by omega) (by omega))) rfl) ?_;by_cases h0:a.n=0
 ·have L:(a.n:Int)=0:=by omega
  have e:sAll a tru=([],[]):=by unfold sAll;rw[h0];rfl
  have hr:restr a tru=⟨a.al,0,[],[]⟩:=by unfold restr;rw[e];rfl
  refine ZcM L ?_;refine⟨.inr trivial,_,rfl,?_⟩;rw[hr];exact Rn.agg (Zct (Zcv (g:=0) rfl (by simp[ints]) (Zce (Qaa _))) (Zct (Zcd rfl) (Zct Rn.nilK (Zct Rn.nilK Zcs))))
 have L:¬(a.n:Int)=0:=by omega
 have K:0<a.n:=by omega
 have h0n:(0:Int)<(a.n:Int):=by omega
 refine ZcM (ZcP L U S @QhE) ?_;refine Qaq 100 (fun i:Nat=>[(1,.ptr 50 0 0),(2,.ptr 60 0 0),(3,.ptr 69 0 0),(4,.sl 78 0 0 a.n 1),(24,.int .i64 a.n),(25,.int .i64 i)]) (fun i=>[(50,.cells 0 (rsA a)),(60,.cells 0 rsN),(69,.cells 0 [.sl 83 0 0 a.al.length 1,.int .i64 0,.nilsl,.nilsl]),(83,.cells 0 (ints (nz a.al))),(78,.cells 0 (ints (List.replicate i (-1)++List.replicate (a.n-i) 0)))]) (fun i=>i<=a.n) (fun i=>a.n-i) 0 0 120 (fun _:Unit=>[(1,.ptr 50 0 0),(2,.ptr 60 0 0),(3,.ptr 69 0 0),(4,.sl 78 0 0 a.n 1)]) (fun _=>[(50,.cells 0 (rsA a)),(60,.cells 0 rsN),(69,.cells 0 [.sl 83 0 0 a.al.length 1,.int .i64 0,.nilsl,.nilsl]),(83,.cells 0 (ints (nz a.al))),(78,.cells 0 (ints (List.replicate a.n (-1))))]) (fun _=>True) ?_ (Zah _) ?_ ?_;·exact⟨[(50,.blk 40 0),(60,.blk 41 0),(69,.blk 46 0),(83,.blk 83 0),(78,.blk 53 0)],rfl,au0,au11,au12⟩
 ·rintro i hi;by_cases l:i<a.n
  ·have h1:i+1<=i+(a.n-i):=by omega
   refine ZcM (ZcP l h1 @Qbs (QjZ l)) ?_;exact⟨i+1,by omega,by omega,⟨[(50,.blk 50 0),(60,.blk 60 0),(69,.blk 69 0),(83,.blk 83 0),(78,.blk 78 0)],rfl,au0,au11,au12⟩⟩
  have e:i=a.n:=by omega
  subst e;have e2:List.replicate a.n (-1:Int)++List.replicate (a.n-a.n) 0=List.replicate a.n (-1):=by simp
  refine ZcM l ?_;refine⟨(),?_⟩;rw[e2];exact⟨[(50,.blk 50 0),(60,.blk 60 0),(69,.blk 69 0),(83,.blk 83 0),(78,.blk 78 0)],rfl,au0,au11,au12⟩
 rintro _ _;have u:1<=a.n:=K;have n:=Qq7 K;refine ZcM (ZcP h0n u @Qbs n) ?_;have f:SI a.n a.es tru 0 (([0],[]):OE):=⟨⟨by simp,fun x hx=>by simp at hx;omega⟩,fun _ _=>rfl,Zah _,fun j v hj=>by omega,by simp⟩;have hq0:sQ a.es tru (a.n+1) 0 ([0],[])=sAll a tru:=by unfold sAll;rw[if_pos (by simp[K])]
 refine Qaq 180 (fun t:Nat×OE=>[(1,.ptr 50 0 0),(2,.ptr 60 0 0),(3,.ptr 69 0 0),(4,.sl 78 0 0 a.n 1),(6,.sl 75 0 0 t.2.1.length 1),(7,.int .i64 t.1)]) (fun t=>[(50,.cells 0 (rsA a)),(60,.cells 0 rsN),(69,.cells 0 (cnB a (mks a t.1 t.2.1).length t.2.2.length)),(83,.cells 0 (ints (nz a.al))),(78,.cells 0 (ints (pl a.n t.2.1))),(75,.cells 0 (ints (nz t.2.1))),(76,.cells 0 (t.2.2.flatMap edC)),(77,.cells 0 (ints (nz (mks a t.1 t.2.1))))]) (fun t=>t.1<=a.n/\SI a.n a.es tru t.1 t.2/\t.2.2.length<=t.1*1000000/\sQ a.es tru (a.n+1-t.1) t.1 t.2=sAll a tru) (fun t=>a.n+1-t.1) (0,([0],[])) 2 260 (fun _:Unit=>[(2,.ptr 60 0 0),(3,.ptr 69 0 0),(6,.sl 75 0 0 (sAll a tru).1.length 1)]) (fun _=>[(60,.cells 0 rsN),(69,.cells 0 (cnB a (restr a tru).ms.length (restr a tru).es.length)),(83,.cells 0 (ints (nz a.al))),(75,.cells 0 (ints (nz (sAll a tru).1))),(76,.cells 0 ((restr a tru).es.flatMap edC)),(77,.cells 0 (ints (nz (restr a tru).ms)))]) (fun _=>True) ?_ ⟨Zah _,f,Zah _,hq0⟩ ?_ ?_;·dsimp only;have P:mks a 0 [0]=[]:=rfl;rw[P];exact⟨[(50,.blk 50 0),(60,.blk 60 0),(69,.blk 69 0),(83,.blk 83 0),(78,.blk 78 0),(75,.blk 123 0),(76,.nil),(77,.nil)],rfl,au0,au11,au12⟩
 ·rintro⟨i,s⟩⟨hi,f,T,V⟩;dsimp only at hi f T V⊢;have hfl:=f.fi.len;have hile:=f.le;by_cases l:i<s.1.length
  ·obtain⟨v,A⟩:=Qap l;have hvn:=f.fi.lt v (Zaf A);have E:i<a.n:=by omega
   have F:=f.step h.esn A;have N:sQ a.es tru (a.n+1-(i+1)) (i+1) (sRow a.es tru i v s)=sAll a tru:=by rw[<-V,show a.n+1-i=(a.n+1-(i+1))+1 by omega];simp only[sQ,A]
   have C:=fun j=>Qb7 (n:=a.n) (left:=tru) i ((sOut a.es tru v).take j) s (fun e he=>⟨(h.esn e (QaU.1 (ZaP he)).1).2,rfl⟩) f.fi f.lft;have hol:=Qb9 a.es tru v;have B:=Qfk (a:=a) A;have hmsl:=@QeT a i s.1;have y:mks a (i+1) (sRow a.es tru i v s).1=mks a (i+1) s.1:=by obtain⟨_,_,⟨t,ht⟩,_⟩:=Qb7 (n:=a.n) (left:=tru) i (sOut a.es tru v) s (fun e he=>⟨(h.esn e (QaU.1 he).1).2,rfl⟩) f.fi f.lft;have ht:(sRow a.es tru i v s).1=s.1++t:=ht;rw[ht,QiR (by omega)]
   have hc:=find57 a.ms v O (by omega);have ho:=out58 a v h Y (by omega);generalize hM0:mks a i s.1=M0 at*;generalize hM:mks a (i+1) s.1=M at*;refine ZcM (ZcN l (QaZ (nz_at A))) ?_;refine cp hc ?_;by_cases p:a.ms.contains v=true
   ·rw[if_pos p]at B;rw[p];refine ZcM (ZcN l (QaZ (nz_at A))) ?_;refine cp ho ?_;refine ZcL ?_;refine Qaq 300 (fun j:Nat=>[(1,.ptr 50 0 0),(2,.ptr 60 0 0),(3,.ptr 69 0 0),(4,.sl 78 0 0 a.n 1),(6,.sl 75 0 0 (((sOut a.es tru v).take j).foldl (sEd i) s).1.length 1),(7,.int .i64 i),(63,egsN (sOut a.es tru v)),(64,.int .i64 (sOut a.es tru v).length),(65,.int .i64 j)]) (fun j=>[(50,.cells 0 (rsA a)),(60,.cells 0 rsN),(69,.cells 0 (cnB a M.length (((sOut a.es tru v).take j).foldl (sEd i) s).2.length)),(83,.cells 0 (ints (nz a.al))),(78,.cells 0 (ints (pl a.n (((sOut a.es tru v).take j).foldl (sEd i) s).1))),(75,.cells 0 (ints (nz (((sOut a.es tru v).take j).foldl (sEd i) s).1))),(76,.cells 0 ((((sOut a.es tru v).take j).foldl (sEd i) s).2.flatMap edC)),(77,.cells 0 (ints (nz M)))]) (fun j=>j<=(sOut a.es tru v).length) (fun j=>(sOut a.es tru v).length-j) 0 4 400 (fun _:Unit=>[(1,.ptr 50 0 0),(2,.ptr 60 0 0),(3,.ptr 69 0 0),(4,.sl 78 0 0 a.n 1),(6,.sl 75 0 0 (sRow a.es tru i v s).1.length 1),(7,.int .i64 i)]) (fun _=>[(50,.cells 0 (rsA a)),(60,.cells 0 rsN),(69,.cells 0 (cnB a M.length (sRow a.es tru i v s).2.length)),(83,.cells 0 (ints (nz a.al))),(78,.cells 0 (ints (pl a.n (sRow a.es tru i v s).1))),(75,.cells 0 (ints (nz (sRow a.es tru i v s).1))),(76,.cells 0 ((sRow a.es tru i v s).2.flatMap edC)),(77,.cells 0 (ints (nz M)))]) (fun _=>True) ?_ (Zah _) ?_ ?_;·rw[B,Zae,QaF,Qaw];exact⟨[(50,.blk 50 0),(60,.blk 60 0),(69,.blk 69 0),(83,.blk 83 0),(78,.blk 78 0),(75,.blk 75 0),(76,.blk 76 0),(77,.blk 77 1)],rfl,au0,au11,au12⟩
    ·rintro j hj;by_cases g:j<(sOut a.es tru v).length
     ·obtain⟨e,he⟩:=Qap g;have G:=QaU.1 (Zaf he);have d:=(h.esn e G.1).2;obtain⟨X,_,_,_,_⟩:=C j;have Z:=X.len;have c:=Qga (i:=i) (s:=s) he;have o:=QbJ (i:=i) ((sOut a.es tru v).take j) s;rw[Zas]at o;generalize(((sOut a.es tru v).take j).foldl (sEd i) s)=t at*;have m:=Qbp t.2;have hpl:=Qit (n:=a.n) (o:=t.1);have k:=Qiu (o:=t.1) d;have z:e.2.2<(pl a.n t.1).length:=by omega
      have u:e.2.2+1<=(pl a.n t.1).length:=by omega
      by_cases hc:e.2.2∈t.1
      ·have I:sEd i t e=(t.1,t.2++[(i,e.2.1,SD.idx t.1 e.2.2)]):=if_pos (by simpa using hc);rw[I]at c;rw[if_pos (by simpa using hc)]at k;have J:¬((SD.idx t.1 e.2.2:Nat):Int)<0:=by omega
       generalize SD.idx t.1 e.2.2=q at*;refine ZcM (ZcS g (QaB he) d (QaV z) k J m) ?_;refine⟨j+1,by omega,by omega,?_⟩;rw[c,Zan,Zae];exact⟨[(50,.blk 50 0),(60,.blk 60 0),(69,.blk 69 0),(83,.blk 83 0),(78,.blk 78 0),(75,.blk 75 0),(76,.blk 76 1),(77,.blk 77 0)],rfl,au0,au11,au12⟩
      have I:sEd i t e=(t.1++[e.2.2],t.2++[(i,e.2.1,t.1.length)]):=if_neg (by simpa using hc);rw[I]at c;rw[if_neg (by simpa using hc)]at k;have n:=QpS (n:=a.n) hc;have J:(-1:Int)<0:=by decide
      have r:e.2.2<(pl a.n (t.1++[e.2.2])).length:=by rw[Qit];exact d
      have w:(pl a.n (t.1++[e.2.2])).getD e.2.2 0=(t.1.length:Int):=by rw[Qiu d,if_pos (by simp),SD.QdU hc]
      refine ZcM (ZcX g (QaB he) d (QaV z) k J m u @Qbs n (QaV r) w) ?_;refine⟨j+1,by omega,by omega,?_⟩;rw[c,Zan,Zae];dsimp only;rw[Zae,QaF,Qaw];exact⟨[(50,.blk 50 0),(60,.blk 60 0),(69,.blk 69 0),(83,.blk 83 0),(78,.blk 78 0),(75,.blk 75 1),(76,.blk 76 1),(77,.blk 77 0)],rfl,au0,au11,au12⟩
     have e:j=(sOut a.es tru v).length:=by omega
     subst e;refine ZcM g ?_;refine⟨(),?_⟩;exact⟨[(50,.blk 50 0),(60,.blk 60 0),(69,.blk 69 0),(83,.blk 83 0),(78,.blk 78 0),(75,.blk 75 0),(76,.blk 76 0),(77,.blk 77 0)],rfl,au0,au11,au12⟩
    rintro _ _;have R:(sRow a.es tru i v s).2.length=s.2.length+(sOut a.es tru v).length:=QbJ _ _;have Q:=Qb9 a.es tru v;refine ZcL ?_;refine⟨(i+1,sRow a.es tru i v s),by dsimp only;omega,⟨E,F,by dsimp only;omega,N⟩,?_⟩;dsimp only;rw[y];exact⟨[(50,.blk 50 0),(60,.blk 60 0),(69,.blk 69 0),(83,.blk 83 0),(78,.blk 78 0),(75,.blk 75 0),(76,.blk 76 0),(77,.blk 77 0)],rfl,au0,au11,au12⟩
   rw[if_neg p,Zao]at B;rw[Zai]at p;rw[p];refine ZcM (ZcN l (QaZ (nz_at A))) ?_;refine cp ho ?_;refine ZcL ?_;refine Qaq 300 (fun j:Nat=>[(1,.ptr 50 0 0),(2,.ptr 60 0 0),(3,.ptr 69 0 0),(4,.sl 78 0 0 a.n 1),(6,.sl 75 0 0 (((sOut a.es tru v).take j).foldl (sEd i) s).1.length 1),(7,.int .i64 i),(63,egsN (sOut a.es tru v)),(64,.int .i64 (sOut a.es tru v).length),(65,.int .i64 j)]) (fun j=>[(50,.cells 0 (rsA a)),(60,.cells 0 rsN),(69,.cells 0 (cnB a M.length (((sOut a.es tru v).take j).foldl (sEd i) s).2.length)),(83,.cells 0 (ints (nz a.al))),(78,.cells 0 (ints (pl a.n (((sOut a.es tru v).take j).foldl (sEd i) s).1))),(75,.cells 0 (ints (nz (((sOut a.es tru v).take j).foldl (sEd i) s).1))),(76,.cells 0 ((((sOut a.es tru v).take j).foldl (sEd i) s).2.flatMap edC)),(77,.cells 0 (ints (nz M)))]) (fun j=>j<=(sOut a.es tru v).length) (fun j=>(sOut a.es tru v).length-j) 0 4 400 (fun _:Unit=>[(1,.ptr 50 0 0),(2,.ptr 60 0 0),(3,.ptr 69 0 0),(4,.sl 78 0 0 a.n 1),(6,.sl 75 0 0 (sRow a.es tru i v s).1.length 1),(7,.int .i64 i)]) (fun _=>[(50,.cells 0 (rsA a)),(60,.cells 0 rsN),(69,.cells 0 (cnB a M.length (sRow a.es tru i v s).2.length)),(83,.cells 0 (ints (nz a.al))),(78,.cells 0 (ints (pl a.n (sRow a.es tru i v s).1))),(75,.cells 0 (ints (nz (sRow a.es tru i v s).1))),(76,.cells 0 ((sRow a.es tru i v s).2.flatMap edC)),(77,.cells 0 (ints (nz M)))]) (fun _=>True) ?_ (Zah _) ?_ ?_;·rw[B];exact⟨[(50,.blk 50 0),(60,.blk 60 0),(69,.blk 69 0),(83,.blk 83 0),(78,.blk 78 0),(75,.blk 75 0),(76,.blk 76 0),(77,.blk 77 0)],rfl,au0,au11,au12⟩
   ·rintro j hj;by_cases g:j<(sOut a.es tru v).length
    ·obtain⟨e,he⟩:=Qap g;have G:=QaU.1 (Zaf he);have d:=(h.esn e G.1).2;obtain⟨X,_,_,_,_⟩:=C j;have Z:=X.len;have c:=Qga (i:=i) (s:=s) he;have o:=QbJ (i:=i) ((sOut a.es tru v).take j) s;rw[Zas]at o;generalize(((sOut a.es tru v).take j).foldl (sEd i) s)=t at*;have m:=Qbp t.2;have hpl:=Qit (n:=a.n) (o:=t.1);have k:=Qiu (o:=t.1) d;have z:e.2.2<(pl a.n t.1).length:=by omega
     have u:e.2.2+1<=(pl a.n t.1).length:=by omega
     by_cases hc:e.2.2∈t.1
     ·have I:sEd i t e=(t.1,t.2++[(i,e.2.1,SD.idx t.1 e.2.2)]):=if_pos (by simpa using hc);rw[I]at c;rw[if_pos (by simpa using hc)]at k;have J:¬((SD.idx t.1 e.2.2:Nat):Int)<0:=by omega
      generalize SD.idx t.1 e.2.2=q at*;refine ZcM (ZcS g (QaB he) d (QaV z) k J m) ?_;refine⟨j+1,by omega,by omega,?_⟩;rw[c,Zan,Zae];exact⟨[(50,.blk 50 0),(60,.blk 60 0),(69,.blk 69 0),(83,.blk 83 0),(78,.blk 78 0),(75,.blk 75 0),(76,.blk 76 1),(77,.blk 77 0)],rfl,au0,au11,au12⟩
     have I:sEd i t e=(t.1++[e.2.2],t.2++[(i,e.2.1,t.1.length)]):=if_neg (by simpa using hc);rw[I]at c;rw[if_neg (by simpa using hc)]at k;have n:=QpS (n:=a.n) hc;have J:(-1:Int)<0:=by decide
     have r:e.2.2<(pl a.n (t.1++[e.2.2])).length:=by rw[Qit];exact d
     have w:(pl a.n (t.1++[e.2.2])).getD e.2.2 0=(t.1.length:Int):=by rw[Qiu d,if_pos (by simp),SD.QdU hc]
     refine ZcM (ZcX g (QaB he) d (QaV z) k J m u @Qbs n (QaV r) w) ?_;refine⟨j+1,by omega,by omega,?_⟩;rw[c,Zan,Zae];dsimp only;rw[Zae,QaF,Qaw];exact⟨[(50,.blk 50 0),(60,.blk 60 0),(69,.blk 69 0),(83,.blk 83 0),(78,.blk 78 0),(75,.blk 75 1),(76,.blk 76 1),(77,.blk 77 0)],rfl,au0,au11,au12⟩
    have e:j=(sOut a.es tru v).length:=by omega
    subst e;refine ZcM g ?_;refine⟨(),?_⟩;exact⟨[(50,.blk 50 0),(60,.blk 60 0),(69,.blk 69 0),(83,.blk 83 0),(78,.blk 78 0),(75,.blk 75 0),(76,.blk 76 0),(77,.blk 77 0)],rfl,au0,au11,au12⟩
   rintro _ _;have R:(sRow a.es tru i v s).2.length=s.2.length+(sOut a.es tru v).length:=QbJ _ _;have Q:=Qb9 a.es tru v;refine ZcL ?_;refine⟨(i+1,sRow a.es tru i v s),by dsimp only;omega,⟨E,F,by dsimp only;omega,N⟩,?_⟩;dsimp only;rw[y];exact⟨[(50,.blk 50 0),(60,.blk 60 0),(69,.blk 69 0),(83,.blk 83 0),(78,.blk 78 0),(75,.blk 75 0),(76,.blk 76 0),(77,.blk 77 0)],rfl,au0,au11,au12⟩
  have A:s.1[i]?=none:=Zat (by omega);have H:s=sAll a tru:=by rw[<-V,show a.n+1-i=(a.n-i)+1 by omega];simp only[sQ,A]
  have hil:i=s.1.length:=by omega
  have hmf:mks a i s.1=(restr a tru).ms:=by rw[hil,H];rfl
  have hef:s.2=(restr a tru).es:=by rw[H];rfl
  refine ZcM l ?_;refine⟨(),?_⟩;rw[hmf,hef,<-H];exact⟨[(60,.blk 60 0),(69,.blk 69 0),(83,.blk 83 0),(75,.blk 75 0),(76,.blk 76 0),(77,.blk 77 0)],rfl,au0,au11,au12⟩
 rintro _ _;have hra:(restr a tru).al=a.al:=rfl;have hrn2:(restr a tru).n=(sAll a tru).1.length:=rfl;refine ZcL ?_;refine⟨.inr trivial,_,rfl,?_⟩;exact Rn.agg (Zct (Zcv (g:=0) rfl (by simp[ints,hra]) (Zce (Qaa _))) (Zct (Zcd rfl) (Zct (Zcv (g:=0) rfl (by simp[ints]) (Zce (Qaa _))) (Zct (Zcv (g:=0) rfl (Qbp _) (Zce (Qad _))) Zcs))))
end Go.AM.SE
namespace Go.AM.SO
open Go.Proofs Go.AM.SD Go.AM.SE
theorem check112(a:Aut)(h:WfA a)(c:a.es.length<=1000000):PSpec Tryz.prog 112 [aV a] (.int .i64 0):=by have:=check37 (au a) (WfA.auOk h c);rwa[Qs4]at this
theorem isCanon60(a:Aut)(h:WfA a)(c:a.es.length<=1000000)(hc:restr a (fun _=>true)=a):PSpec Tryz.prog 60 [aV a] (.bool true):=by have h1:=canonical44 a h c;have d:restr a tru=a:=hc;rw[d]at h1;have g:=h.n5;have i:a.al.length<=32:=QaS 32 a.al (by rw[ZaK];exact h.al.imp fun h=>by omega) h.al5;have j:a.ms.length<=a.n:=QaS a.n a.ms h.nd h.msn;have ho:AOk a:=⟨by omega,by omega,by omega⟩;have f:=eq43 a a ho ho;rw[QdD]at f;refine Zcg 64 ok60 rfl (by(try simp only[noRefs,Qaa,Qaj,Qad,Qak,Qah,noRef,Zad,Zac])<;>rfl) rfl ?_;unfold s60;refine ZcD ?_;refine cp (check112 a h c) ?_;refine ZcD ?_;refine cp h1 ?_;refine ZcD ?_;refine cp f ?_;refine ZcD ?_;exact⟨.inr trivial,_,rfl,rfl⟩
end Go.AM.SO
namespace Go.AM.SP
open Go.Proofs
noncomputable section
def isTrue:AV->Bool|.bool true=>true|_=>false
theorem QpT:∀u,isTrue u=true->u=.bool true:=by
 intro u h;unfold isTrue at h;split at h;·rfl
 cases h
def nameB(s:List UInt8):Bool:=callR ansB noOrc SK.ft.get (exR ansB noOrc SK.ft.get 1000) (.c .pure) 135 [.str s] .e 64 (fun u _ _=>isTrue u)
theorem Qcf{s:List UInt8}(h:nameB s=true):PSpec Tryz.prog 135 [.str s] (.bool true):=QbL (t:=SK.ft) SK.ft_ok Qda (d:=1000) isTrue QpT h
theorem Qtc:PSpec Tryz.prog 135 [.str [97]] (.bool true):=Qcf (by kernel_rfl)
theorem Qtd:PSpec Tryz.prog 135 [.str [98]] (.bool true):=Qcf (by kernel_rfl)
theorem Ql0:PSpec Tryz.prog 135 [.str [99]] (.bool true):=Qcf (by kernel_rfl)
theorem Qte:PSpec Tryz.prog 135 [.str [100]] (.bool true):=Qcf (by kernel_rfl)
theorem Qtf:PSpec Tryz.prog 135 [.str [101]] (.bool true):=Qcf (by kernel_rfl)
theorem Qr2:PSpec Tryz.prog 135 [.str [99,48]] (.bool true):=Qcf (by kernel_rfl)
theorem Qr3:PSpec Tryz.prog 135 [.str [99,49]] (.bool true):=Qcf (by kernel_rfl)
theorem Qr4:PSpec Tryz.prog 135 [.str [99,50]] (.bool true):=Qcf (by kernel_rfl)
theorem Qr5:PSpec Tryz.prog 135 [.str [114,48]] (.bool true):=Qcf (by kernel_rfl)
theorem Qr6:PSpec Tryz.prog 135 [.str [114,49]] (.bool true):=Qcf (by kernel_rfl)
end
end Go.AM.SP
namespace Go.AM.SO
open Go.Proofs Go.AM.SD Go.AM.SE
structure Evt where
 c:Bool
 o:Bool
 f:Bool
 flt:Nat
def Evt.Ok(e:Evt):Prop:=e.flt<=4/\(e.flt≠0->e.c=false/\e.o=false)
def evC(i:Nat)(e:Evt):List AV:=[.str [UInt8.ofNat (97+i)],.bool e.c,.bool e.o,.bool e.f,.int .i64 (e.flt:Int)]
abbrev evsC(e:Nat->Evt):List AV:=evC 0 (e 0)++evC 1 (e 1)++evC 2 (e 2)++evC 3 (e 3)++evC 4 (e 4)
abbrev evsV(e:Nat->Evt):AV:=.fsl (evsC e) 5 5
theorem Qtg(e:Nat->Evt){i:Nat}(hi:i<5):((evsC e).drop (i*5)).take 5=evC i (e i):=by
 have:i=0\/i=1\/i=2\/i=3\/i=4:=by omega
 rcases this with rfl|rfl|rfl|rfl|rfl<;>rfl
theorem Qgx(e:Nat->Evt):(evsC e).length=25:=rfl
theorem Qr7{i:Nat}(hi:i<5):PSpec Tryz.prog 135 [.str [UInt8.ofNat (97+i)]] (.bool true):=by
 have:i=0\/i=1\/i=2\/i=3\/i=4:=by omega
 rcases this with rfl|rfl|rfl|rfl|rfl;·exact SP.Qtc
 ·exact SP.Qtd
 ·exact SP.Ql0
 ·exact SP.Qte
 exact SP.Qtf
end Go.AM.SO
namespace Go.AM
variable{P:Program}
def mapS(f:List UInt8->AV)(l:List (List UInt8)):List (AV×AV):=l.map fun x=>(.str x,f x)
def updS(f:List UInt8->AV)(x:List UInt8)(v:AV):List UInt8->AV:=fun y=>if y=x then v else f y
theorem Qgd{x y:List UInt8}:keyEq false [.s] (.str x) (.str y)=some (decide (x=y)):=by simp_all[keyEq,eqCells,eqCell]
theorem Qfm{f:List UInt8->AV}{x:List UInt8}:∀(l:List (List UInt8))(i:Nat),x∉l->aFind false [.s] (.str x) (mapS f l) i=some none|[],_,_=>rfl|y::l,i,a=>by simp only[ZaA,not_or]at a;show(match keyEq false [.s] (.str x) (.str y)with|some true=>_|some false=>_|none=>_)=_;rw[Qgd,decide_eq_false a.1];exact Qfm l (i+1) a.2
theorem Qq8{f:List UInt8->AV}{x:List UInt8}{v:AV}{l:List (List UInt8)}(a:x∉l):mapS f l++[(.str x,v)]=mapS (updS f x v) (l++[x]):=by grind[mapS,updS,Za0]
theorem Qke{x:List UInt8}:keyOK false [.s] (.str x)=true:=by unfold keyOK;rw[Qgd]
section
variable{N:NM}{d:Option Nat}{r:List SOper}{dead:List Nat}{fs:List Fr}{n:Nat}{T:Tmps}{h:Heap}{Q:QC}
theorem Qge{f:List UInt8->AV}{x:List UInt8}{l:List (List UInt8)}{b g:Nat}{z:AV}{ok:Bool}(a:h.get b=some (.map g (mapS f l)))(c:x∉l)(hk:wR P N r dead fs (n+1) (putD T d (if ok then .tup [z,.bool false]else z)) h Q):wM P N (aLookup false [.s] z ok (.map b g) (.str x)) d r dead fs n T h Q:=by refine⟨_,h,?_,hk⟩;simp_all[aLookup,Qke,HM.entries,HM.run,Qfm]
theorem Qek{f:List UInt8->AV}{x:List UInt8}{l:List (List UInt8)}{b g:Nat}{v:AV}(j:h.get b=some (.map g (mapS f l)))(c:x∉l)(i:b<1099511627775)(hk:wR P N r dead fs (n+1) (putD T d .any) (h.set b (.map g (mapS (updS f x v) (l++[x])))) Q):wM P N (aMapUpd false [.s] (.map b g) (.str x) v) d r dead fs n T h Q:=by
 refine⟨_,_,?_,hk⟩;have k:Nat.beq g g=true:=by simp
 have a:Nat.blt b lim=true:=by simp[Nat.blt];exact i
 unfold aMapUpd;rw[if_pos Qke];simp only[HM.entries,HM.run,j,k,cond_true,Qfm l 0 c,a,Qq8 c]
end
theorem RnM.mapS{m:Nat}{π:Nat->Option Src}{h:Heap}{f g:List UInt8->AV}:∀{l:List (List UInt8)},(∀x∈l,Rn m π h (f x) (g x))->RnM m π h (mapS f l) (mapS g l)|[],_=>trivial|x::l,hf=>⟨⟨Zcd rfl,hf x (by simp)⟩,RnM.mapS (l:=l) fun y a=>hf y (by simp[a])⟩
end Go.AM
