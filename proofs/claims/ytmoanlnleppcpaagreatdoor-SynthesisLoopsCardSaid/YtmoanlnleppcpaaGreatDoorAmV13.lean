/- A part of the proof of SynthesisLoopsCardSaid: lemmas on the way (AmTq, AmBp, AmBk, AmBl, AmBm, AmBn, AmBo, AmCa, AmCb, AmFa, AmBFb, AmBw, AmBFd, AmBy, AmBFe, AmCc, AmCe, AmCf, AmTi, AmCg, AmCh). Conditions: none of ours. -/
import Derived.Shelf.SlSortCmp.NoneTotal
import Derived.Test.YtmoanlnleppcpaaGreatDoorProg
import Derived.KernelRfl
import Derived.Test.YtmoanlnleppcpaaGreatDoorAmV12
set_option linter.unusedSectionVars false
set_option maxHeartbeats 32000000
set_option maxRecDepth 100000
set_option linter.unusedVariables false
set_option linter.unusedSimpArgs false
set_option linter.unusedSectionVars false
namespace Go.AM
open Go.Proofs Go.Shelf Go.Sort
variable{P:Program}{ρ:Ren}{α:Type}[Inhabited α]
abbrev encI(ci:α->List Int)(x:α):List Value:=(ci x).map (Value.int .i64)
abbrev avI(ci:α->List Int)(x:α):List AV:=(ci x).map (AV.int .i64)
theorem QjZ{ok:Okc}{c:Ctx ok}{w:World}:∀{a:List Int}{vs:List Value},VPre c w (a.map (AV.int .i64)) vs->∃r,vs=a.map (Value.int .i64)++r|[],vs,_=>⟨vs,rfl⟩|n::a,vs,h=>by simp only[ZaK,VPre]at h;obtain⟨v,f,rfl,b,d⟩:=h;obtain⟨r,rfl⟩:=QjZ d;simp only[VRel]at b;simp_all
theorem Qg7{ok:Okc}{c:Ctx ok}{w:World}:∀{a:List Int}{r:List Value},VPre c w (a.map (AV.int .i64)) (a.map (Value.int .i64)++r)|[],r=>by simp[VPre]|n::a,r=>by simp only[ZaK,VPre,ZaW];exact⟨_,_,rfl,by simp[VRel],Qg7⟩
theorem Qnt(ci:α->List Int)(l:List α):l.flatMap (avI ci)=(l.flatMap ci).map (AV.int .i64):=by rw[List.map_flatMap]
theorem QlL(ci:α->List Int)(l:List α):l.flatMap (encI ci)=(l.flatMap ci).map (Value.int .i64):=by rw[List.map_flatMap]
theorem Qg8{β γ:Type}{f:β->List γ}{k:Nat}(hk:∀x,(f x).length=k)(a:0<k):∀{l:List β}{t:Nat},(l.flatMap f)[t]?=(l[t/k]?).bind fun x=>(f x)[t%k]?
 |[],t=>by simp|x::l,t=>by
  rw[Zax];by_cases h:t<k;·simp_all[Zbh,Nat.div_eq_of_lt,Nat.mod_eq_of_lt]
  rw[List.getElem?_append_right (by rw[hk];omega),hk,Qg8 hk a (l:=l)];simp_all[Nat.div_eq_sub_div,Nat.mod_eq_sub_mod]
theorem Qil{enc:α->List Value}{k:Nat}(hk:∀x,(enc x).length=k)(c:0<k)(l:List α):Go.Sort.flatK enc k l.toArray=(l.flatMap enc).toArray:=by
 refine ext_get! ?_ fun t a=>?_;·simp_all[List.map_const']
 have b:t<l.length*k:=by simpa using a
 have d:t/k<l.length:=by simp_all[Nat.div_lt_iff_lt_mul]
 grind[get_flatK,Qg8]
theorem Qkv{F:List Value}{C:Array Value}{o:Nat}(h:o+F.length<=C.size):(putCells id o F.toArray C).toList.drop o=F++C.toList.drop (o+F.length):=by apply Zbo;grind[putCells]
theorem HSpec.sortK{f g b γ:Nat}(L:SlLaysF0.n6 P ρ)(hf:ρ.f 6=f)(B:Callable P f)(k:Nat)(h0:0<k)(aE:∀w,(isAgg (ρ.t 24)).run P w=.ok true w)(zE:∀w,(Go.sizeOf (ρ.t 24)).run P w=.ok k w)(ci:α->List Int)(hk:∀x,(ci x).length=k)(cf:α->α->Int)(hO:SWO (ltOf cf))(eg:∀args w,(callFunc g args).run P w=.ok (.enter g args) w)(U:∀x y w,Calls P g #[.agg (encI ci x).toArray,.agg (encI ci y).toArray] w fun e w'=>e=.returned (.int .i64 (cf x y))/\∃q os',w'=grow (w.drewN q) os')(l:List α)(hl:l.length<4611686018427387904){h:Heap}(hb:h.get b=some (.cells γ (l.flatMap (avI ci))))(hlim:b<1099511627775):∃Z:List α,Z.Perm l/\Z.Pairwise (fun x y=>ltOf cf y x=false)/\HSpec P f [.sl b γ 0 l.length k,.fn g [] []] h (.tup []) (h.set b (.cells γ (Z.flatMap (avI ci)))):=by
 obtain⟨a,Y⟩:∃a,a=pdq (ltOf cf) l.toArray 0 l.length (Lib.bitLen l.length) true true:=⟨_,rfl⟩;have hs:=pdq_sorts (ltOf cf) hO l.toArray 0 l.length (Lib.bitLen l.length) true true (Zaj _) (by simp) (Or.inl rfl);rw[<-Y]at hs;obtain⟨⟨hsz,_,s⟩,I⟩:=hs;have T:a.size=l.length:=by simpa using hsz
 have V:(a.extract 0 l.length).toList=a.toList:=by rw[<-T];simp
 have G:(l.toArray.extract 0 l.length).toList=l:=by simp
 rw[V,G]at s;have z:∀x,(encI ci x).length=k:=fun x=>by simp[hk]
 have Q:∀x,∀v∈encI ci x,v.oneCell'=true:=fun x v hv=>by obtain⟨n,_,rfl⟩:=Zao.1 hv;rfl
 refine⟨a.toList,s,?_,B,?_⟩;·rw[Za7];intro i j hi hj hij;have:=I i j (Zaj _) hij (by simp_all);grind
 intro c w u H ha;have hget:∀x j,(h.set b x).get j=if j=b then some x else h.get j:=fun x j=>Zb3 h (by simp_all[lim]) j x;obtain⟨v1,v2,hca,O,hv2⟩:∃v1 v2,u.toList=[v1,v2]/\VRel c w (.sl b γ 0 l.length k) v1/\v2=.func (.func g) #[] #[]:=by simp_all[VRels,VRel]
 have X:u=#[v1,v2]:=Array.toList_inj.1 (by rw[hca]);subst X hv2;have none:l=[]->∀p cap,v1=.slice p 0 cap->Calls P f #[v1,.func (.func g) #[] #[]] w fun e w'=>∃cv c',e=.returned cv/\Evo c w c' w'/\HRel c' (h.set b (.cells γ (a.toList.flatMap (avI ci)))) w'/\VRel c' w' (.tup []) cv:=by rintro e p cap rfl;have hn:=AnyF.slices_SortFunc_none {L with} p cap (.func (.func g) #[] #[]) w;rw[hf]at hn;refine hn.mono ?_;rintro e1 w'⟨rfl,rfl⟩;refine⟨_,c,rfl,Evo.refl c _,Qb6 (fun j=>?_) H,by simp[VRel,VRels]⟩;simp_all
 simp only[VRel]at O;rcases O with⟨_,h1,_,rfl⟩|⟨t,base,o,cap,C,e,fr,hp,rfl,hlc,S,R⟩;·simp_all
 by_cases hl0:l.length=0;·simp_all
 obtain⟨ho,hbd⟩:=R.resolve_left (by omega);have ho':base=o:=ho.symm;subst ho';obtain⟨C',e',fr',hcO,J,hfr,hbs,A⟩:=H.here hb hp;rw[S]at J;cases J;have hlen:(l.flatMap ci).length=l.length*k:=by simp[List.length_flatMap,hk,List.map_const',List.sum_replicate_nat]
 have hlen':(a.toList.flatMap ci).length=l.length*k:=by grind
 have hlk:l.length*k<=cap*k:=ZaZ k hlc;rw[Qnt]at A;obtain⟨r,hr⟩:=QjZ A;have hfl:Go.Sort.flatK (encI ci) k l.toArray=((l.flatMap ci).map (Value.int .i64)).toArray:=by rw[Qil z h0,QlL]
 have K:Go.Sort.flatK (encI ci) k a=((a.toList.flatMap ci).map (Value.int .i64)).toArray:=by have:=Qil z h0 a.toList;rw[QlL]at this;exact this
 have hblk:=Qa1 S;have hH:HoldsK (encI ci) k w t base l.toArray:=by
  unfold HoldsK;rw[hfl];intro j hj;have hj':j<l.length*k:=by grind
  have hjC:base+j<C.size:=by omega
  refine⟨?_,?_⟩
  ·simp only[World.cell?,S];have h2:C.toList[base+j]?=some (((l.flatMap ci).map (Value.int .i64))[j]'(by omega)):=by rw[<-ZbQ,hr,Zbh (by omega),Zal]
   grind
  simp only[World.frozen?,S];have:=hfr (base+j) hjC;grind
 have d:=AnyQ.slices_SortFunc_eq L k aE zE (encI ci) z Q cf hO g #[] t base cap l.toArray w eg (fun m os dk _ x y=>U x y _) hH hblk (by simpa using hl);rw[hf]at d;have e0:(base+0:Nat)=base:=rfl;have esz:(l.toArray).size=l.length:=by simp
 rw[esz,<-Y]at d;refine d.mono ?_;rintro e1 w'⟨rfl,n,os,rfl⟩;have F:∀j,j<w.heap.size->(sortWorldK (encI ci) k w t base n a os).heap[j]?=if j=t then some (.cells (putCells id base ((a.toList.flatMap ci).map (Value.int .i64)).toArray C) e fr)else w.heap[j]?:=fun j hj=>by
  unfold sortWorldK putRowK;rw[heap_grow_old _ _ (by grind[putRow,mapBlock,Sort.ahead]),K];show(w.heap.modify t _)[j]?=_;rw[Array.getElem?_modify];by_cases e2:t=j;·subst e2;rw[if_pos rfl,if_pos rfl,S];rfl
  grind
 have M:w.heap.size<=(sortWorldK (encI ci) k w t base n a os).heap.size:=by grind
 have N:=F t hblk;rw[if_pos rfl]at N;obtain⟨E,H2⟩:=H.put (w':=sortWorldK (encI ci) k w t base n a os) (b:=b) (cb:=t) (base:=base) (x:=.cells γ (a.toList.flatMap (avI ci))) (by grind[lim]) (fun y hy=>H.later b _ hb y hy) (.inr hp) (.inr ⟨γ,base,⟨_,hb,rfl,fun k=>by simp⟩,hp⟩) rfl rfl rfl M (by omega) (fun j hj hne=>by grind) (fun C2 e2 fr2 h2=>by grind[putCells]) (fun E=>.inr ⟨t,base,_,_,_,by show(if b=b/\γ=γ then _ else _)=_;grind,.inr rfl,N,by grind[putCells],by grind[putCells],by grind[Qkv,Qnt,Qg7]⟩);exact⟨_,_,rfl,E,H2,by simp[VRel,VRels]⟩
end Go.AM
namespace Go.Proofs
open Go.Shelf Go.RowKit Go.Lib Go.Sort
def Tryz.Qoh:Go.Shelf.Ren:=⟨fun|6=>179|15=>164|14=>222|28=>217|29=>218|20=>243|21=>244|22=>245|23=>246|24=>247|25=>248|26=>249|27=>250|46=>268|47=>238|48=>239|49=>269|50=>270|57=>278|n=>n,fun|22=>51|24=>167|25=>268|3=>3|39=>253|0=>0|53=>300|55=>302|4=>4|46=>294|45=>293|50=>188|5=>5|9=>9|66=>315|70=>319|76=>336|77=>278|n=>n,fun|n=>n⟩
theorem Tryz.sortRm:Go.Proofs.SlLaysF0.n6 Tryz.prog Tryz.Qoh:={
 mixed:=by kernel_rfl
 f6:=⟨Tryz.f179.name,by decide,Tryz.func179.trans (congrArg some (by kernel_rfl))⟩
 f14:=⟨Tryz.f222.name,by decide,Tryz.func222.trans (congrArg some (by kernel_rfl))⟩
 f15:=Tryz.func164.trans (congrArg some (by kernel_rfl))
 f20:=⟨Tryz.f243.name,by decide,Tryz.func243.trans (congrArg some (by kernel_rfl))⟩
 f21:=⟨Tryz.f244.name,by decide,Tryz.func244.trans (congrArg some (by kernel_rfl))⟩
 f22:=⟨Tryz.f245.name,by decide,Tryz.func245.trans (congrArg some (by kernel_rfl))⟩
 f23:=⟨Tryz.f246.name,by decide,Tryz.func246.trans (congrArg some (by kernel_rfl))⟩
 f24:=⟨Tryz.f247.name,by decide,Tryz.func247.trans (congrArg some (by kernel_rfl))⟩
 f25:=⟨Tryz.f248.name,by decide,Tryz.func248.trans (congrArg some (by kernel_rfl))⟩
 f26:=⟨Tryz.f249.name,by decide,Tryz.func249.trans (congrArg some (by kernel_rfl))⟩
 f27:=⟨Tryz.f250.name,by decide,Tryz.func250.trans (congrArg some (by kernel_rfl))⟩
 f28:=Tryz.func217.trans (congrArg some (by kernel_rfl))
 f29:=Tryz.func218.trans (congrArg some (by kernel_rfl))
 f46:=⟨Tryz.f268.name,by decide,Tryz.func268.trans (congrArg some (by kernel_rfl))⟩
 f47:=Tryz.func238.trans (congrArg some (by kernel_rfl))
 f48:=Tryz.func239.trans (congrArg some (by kernel_rfl))
 f49:=⟨Tryz.f269.name,by decide,Tryz.func269.trans (congrArg some (by kernel_rfl))⟩
 f50:=⟨Tryz.f270.name,by decide,Tryz.func270.trans (congrArg some (by kernel_rfl))⟩
 f57:=⟨Tryz.f278.name,by decide,Tryz.func278.trans (congrArg some (by kernel_rfl))⟩
 t0:=Tryz.underlying0
 a0:=Tryz.isAgg0
 z0:=Tryz.sizeOf0
 v0:=Tryz.zeroValue0
 t3:=Tryz.underlying3
 a3:=Tryz.isAgg3
 z3:=Tryz.sizeOf3
 v3:=Tryz.zeroValue3
 t4:=Tryz.underlying4
 a4:=Tryz.isAgg4
 z4:=Tryz.sizeOf4
 v4:=Tryz.zeroValue4
 t5:=Tryz.underlying5
 a5:=Tryz.isAgg5
 z5:=Tryz.sizeOf5
 v5:=Tryz.zeroValue5
 t9:=Tryz.underlying9
 a9:=Tryz.isAgg9
 z9:=Tryz.sizeOf9
 v9:=Tryz.zeroValue9
 t22:=Tryz.underlying51
 a22:=Tryz.isAgg51
 z22:=Tryz.sizeOf51
 v22:=Tryz.zeroValue51
 t25:=Tryz.underlying268
 a25:=Tryz.isAgg268
 z25:=Tryz.sizeOf268
 v25:=Tryz.zeroValue268
 t39:=Tryz.underlying253
 a39:=Tryz.isAgg253
 z39:=Tryz.sizeOf253
 v39:=Tryz.zeroValue253
 t45:=Tryz.underlying293
 a45:=Tryz.isAgg293
 z45:=Tryz.sizeOf293
 v45:=Tryz.zeroValue293
 t46:=Tryz.underlying294
 a46:=Tryz.isAgg294
 z46:=Tryz.sizeOf294
 v46:=Tryz.zeroValue294
 t50:=Tryz.underlying188
 a50:=Tryz.isAgg188
 z50:=Tryz.sizeOf188
 v50:=Tryz.zeroValue188
 t53:=Tryz.underlying300
 a53:=Tryz.isAgg300
 z53:=Tryz.sizeOf300
 v53:=Tryz.zeroValue300
 t55:=Tryz.underlying302
 a55:=Tryz.isAgg302
 z55:=Tryz.sizeOf302
 v55:=Tryz.zeroValue302
 t66:=Tryz.underlying315
 a66:=Tryz.isAgg315
 z66:=Tryz.sizeOf315
 v66:=Tryz.zeroValue315
 t70:=Tryz.underlying319
 a70:=Tryz.isAgg319
 z70:=Tryz.sizeOf319
 v70:=Tryz.zeroValue319
 t76:=Tryz.underlying336
 a76:=Tryz.isAgg336
 z76:=Tryz.sizeOf336
 v76:=Tryz.zeroValue336
 t77:=Tryz.underlying278
 a77:=Tryz.isAgg278
 z77:=Tryz.sizeOf278
 v77:=Tryz.zeroValue278}
abbrev Rm4:=Fin 1048576×Int×Int×Int
def ciR(x:Rm4):List Int:=[(x.1.val:Int),x.2.1,x.2.2.1,x.2.2.2]
def cfR(x y:Rm4):Int:=(x.1.val:Int)-(y.1.val:Int)
theorem Tryz.cmp180(x y:Rm4)(W:World):Calls Tryz.prog 180 #[.agg #[.int .i64 (x.1.val:Int),.int .i64 x.2.1,.int .i64 x.2.2.1,.int .i64 x.2.2.2],.agg #[.int .i64 (y.1.val:Int),.int .i64 y.2.1,.int .i64 y.2.2.1,.int .i64 y.2.2.2]] W fun e w'=>e=.returned (.int .i64 (cfR x y))/\∃q f,w'=grow (W.drewN q) f:=by obtain⟨⟨a,h⟩,b,c,d⟩:=x;obtain⟨⟨m,g⟩,k,i,l⟩:=y;unfold cfR;go_enter Tryz.func180,Tryz.ntmps180;go_wp2;go_ret;exact⟨rfl,0,_,by rw[alloc_eq_grow,alloc_eq_grow,grow_grow];rfl⟩
theorem Qf6(x y:Rm4):ltOf cfR x y=decide (x.1.val<y.1.val):=by unfold ltOf cfR;grind
theorem QrT:SWO (ltOf cfR)where
 irrefl x:=by rw[Qf6];simp
 trans x y z h1 a:=by rw[Qf6,decide_eq_true_eq]at*;omega
 ntrans x y z h1 a:=by grind[Qf6]
end Go.Proofs
namespace Go.AM.SE
open Go.Proofs Go.AM.SD Go.Sort Go.Shelf
def toR(r:Rm):Rm4:=(⟨r.st%1048576,Nat.mod_lt _ (by decide)⟩,r.rank,(r.reason:Int),r.ev)
theorem QsW{r:Rm}(h:r.st<=4096):avI ciR (toR r)=rmC r:=by simp[avI,ciR,toR,rmC,Nat.mod_eq_of_lt (show r.st<1048576 by omega)]
theorem QhB:∀{l:List Rm},(∀r∈l,r.st<=4096)->(l.map toR).flatMap (avI ciR)=l.flatMap rmC|[],_=>rfl|e::l,h=>by rw[ZaK,Zax,Zax,QsW (h e (by simp)),QhB fun x a=>h x (by simp[a])]
theorem call179:Callable Tryz.prog 179:=⟨_,Tryz.func179,by kernel_rfl,by kernel_rfl⟩
theorem sortH{l:List Rm}{h:Heap}(b:∀r∈l,r.st<=4096)(z:l.length<1000000000)(t:(l.map (·.st)).Nodup)(u:h.get 74=some (.cells 0 (l.flatMap rmC))):HSpec Tryz.prog 179 [.sl 74 0 0 l.length 4,.fn 180 [] []] h (.tup []) (h.set 74 (.cells 0 ((srtR l).flatMap rmC))):=by
 have m:=Qpx l;have f:∀r∈srtR l,r.st<=4096:=fun r p=>b r (m.mem_iff.1 p);obtain⟨s,hp,d,v⟩:=HSpec.sortK (f:=179) (g:=180) (γ:=0) (h:=h) (b:=74) Tryz.sortRm rfl call179 4 (by decide) Tryz.isAgg167 Tryz.sizeOf167 ciR (fun _=>rfl) cfR QrT (enters_of Tryz.func180 (by kernel_rfl) rfl) (fun x y w=>Tryz.cmp180 x y w) (l.map toR) (by rw[Zaz];omega) (by rw[u,QhB b]) (by decide);have e:s=(srtR l).map toR:=by
  refine List.Perm.eq_of_pairwise (le:=fun x y=>ltOf cfR y x=false) ?_ d ?_ (hp.trans (m.map toR).symm)
  ·intro x y g k h1 n;obtain⟨m1,c,rfl⟩:=Zao.1 (hp.mem_iff.1 g);obtain⟨m2,a,rfl⟩:=Zao.1 k;have a:=m.mem_iff.1 a;have o:=b m1 c;have b2:=b m2 a;rw[Qf6,decide_eq_false_iff_not]at h1 n;simp only[toR]at h1 n;have e:m1.st=m2.st:=by omega
   obtain⟨i,hi,rfl⟩:=Zbf c;obtain⟨j,q,rfl⟩:=Zbf a;have:i=j:=(List.getElem_inj t (h₀:=by simpa using hi) (h₁:=by simpa using q)).1 (by simpa using e);subst this;rfl
  rw[Zbx];refine(Qpy l).imp_of_mem fun{x y}g k h=>?_;have o:=f x g;have b2:=f y k;rw[Qf6,decide_eq_false_iff_not];simp only[toR];omega
 simp_all[QhB]
end Go.AM.SE
namespace Go.AM.SE
open Go.Proofs Go.AM.SD
theorem Agr0{n:Nat}{f:List Nat}(hf:∀x∈f,x<n)(d:f.Nodup):Agr n (left0 n f) (f.map rm0) ((List.range n).map rm0):=by
 refine⟨by simp,fun i r h=>?_,?_,fun r=>?_⟩
 ·rw[ZaG]at h;by_cases hi:i<n;·rw[Zbq hi]at h;cases h;rfl
  rw[ZaA (by simpa using hi)]at h;cases h
 ·rw[List.map_map];have:(fun x:Rm=>x.st)∘rm0=id:=rfl;rw[this,List.map_id];exact d
 constructor
 ·intro h;obtain⟨x,g,rfl⟩:=Zao.1 h;have a:=hf x g;refine⟨a,?_,?_⟩;·rw[ZaB];intro b;exact(Qhw.1 b).2 g
  show((List.range n).map rm0)[x]?=_;rw[ZaG,Zbq a];rfl
 rintro⟨h1,b,c⟩;rw[ZaG,Zbq h1]at c;have c:rm0 r.st=r:=by simpa using c
 refine Zao.2 ⟨r.st,?_,c⟩;refine Classical.byContradiction fun k=>?_;have:=Qhw.2 ⟨h1,k⟩;rw[this]at b;cases b
theorem QlM{n:Nat}{l:LB}{rs rr:List Rm}(h:Agr n l rs rr):rs.length<=n:=by
 have:=QaT n (rs.map (·.st)) h.nd fun x b=>by obtain⟨r,a,rfl⟩:=Zao.1 b;exact((h.mem r).1 a).1
 simpa using this
theorem QpC{l:LB}{xs:List Nat}{i x:Nat}(h:xs[i]?=some x):offs l (xs.take (i+1))=(offs l (xs.take i)).set x false:=by unfold offs;rw[ZaT,h,Option.toList,Za5];rfl
def dists(n:Nat)(l:LB)(d:List Int):List Int:=(kept n l).map fun i=>d.getD i 0
theorem Qj0{i:Nat}{l:LB}:kept (i+1) l=kept i l++if lf l i=true then[i]else[]:=by unfold kept;rw[ZaI,Zbm];congr 1;rw[ZbC];rfl
theorem QqU{i:Nat}{l:LB}:(kept i l).length<=i:=by unfold kept;exact Zay (Za3 _ _) (by simp)
structure Res where
 kept:List Nat
 dist:List Int
 rem:List Rm
 rounds:Nat
 sup:Aut
 orig:List Nat
abbrev rsV(r:Res):AV:=.agg [sliN r.kept,sli r.dist,rms r.rem,.int .i64 (r.rounds:Int),sliN r.sup.al,.int .i64 (r.sup.n:Int),sliN r.sup.ms,egsN r.sup.es,sliN r.orig]
theorem Qep(r:Res):noRef (rsV r)=true:=by simp only[noRef,noRefs,Qab,Qal,Qaf];rfl
def pRes(a:Aut)(f u:List Nat)(all:Bool):Res:=let F:=fin a.n a.es a.ms f u all
 ⟨kept a.n F.1,dists a.n F.1 (pDist a.n a.es a.ms (lf F.1)),srtR F.2.1,F.2.2,restr a (lf F.1),(sAll a (lf F.1)).1⟩
abbrev nine:List AV:=[.nilsl,.nilsl,.nilsl,.int .i64 0,.nilsl,.int .i64 0,.nilsl,.nilsl,.nilsl]
def rnd0(i:Nat):Nat:=if i=0 then 0 else 1
theorem QsX(l:List Rm):(l.flatMap rmC).all AV.one=true:=by induction l with|nil=>rfl|cons x l a=>rw[Zax,ZbU,a];rfl
theorem Qoi{i:Nat}{l:LB}{d:List Int}:dists (i+1) l d=dists i l d++if lf l i=true then[d.getD i 0]else[]:=by unfold dists;rw[Qj0,ZaN];congr 1;split<;>rfl
theorem Qj1{i:Nat}{l:LB}{d:List Int}:(dists i l d).length=(kept i l).length:=by unfold dists;simp
abbrev St4:=Nat×LB×List Rm×Nat
abbrev rkH(a:Aut)(u:List Nat)(t:St4):HL:=[(41,.cells 0 nine),(61,.cells 0 [.nilsl,.nilsl,.sl 74 0 0 t.2.2.1.length 4,.int .i64 (t.2.2.2:Int),.nilsl,.int .i64 0,.nilsl,.nilsl,.nilsl]),(70,.cells 0 (pblk a u)),(71,.map 0 (mapF .i64 (backF a.es) (keysR a.es))),(72,.cells 0 (bls t.2.1)),(74,.cells 0 (t.2.2.1.flatMap rmC))]
theorem result39(a:Aut)(f u:List Nat)(all:Bool)(h:WfA a)(z:QOk a f u)(p:a.es.length<=1000000):PSpec Tryz.prog 87 [aV a,sliN f,sliN u,.bool all] (rsV (pRes a f u all)):=by
 have hn5:=h.n5;have hfl:=Qbq z.fS z.fn;have hul:=Qbq z.uS z.un;have hml:a.ms.length<=a.n:=QaT a.n a.ms h.nd h.msn;refine Zcb 40 ok87 rfl (by(try simp only[noRefs,Qak,Qam,Qab,Qai,Qaf,Qal,Qao,Qah,noRef,Zad,Zac])<;>rfl) (Qep _) ?_;unfold s87;refine ZcE ?_;refine ch (HSpec.of_O (b:=70) (by(try simp only[noRefs,Qak,Qam,Qab,Qai,Qaf,Qal,Qao,Qah,noRef,Zad,Zac])<;>rfl) (start34 a f u h.esn z.fn (by omega) p (by omega)) (by repeat(first|exact Fresh.e|exact Fresh.le (by assumption) (by omega)|refine Fresh.set ?_ (by omega) (by omega))) rfl) ?_;refine ZcE ?_;refine Qat 100 (fun i:Nat=>[(3,.bool all),(8,.ptr 41 0 0),(9,.ptr 70 0 0),(10,.ptr 61 0 0),(23,sliN f),(24,.int .i64 f.length),(25,.int .i64 i)]) (fun i=>rkH a u (2,left0 a.n f,(f.take i).map rm0,rnd0 i)) (fun i=>i<=f.length) (fun i=>f.length-i) 0 0 160 (fun _:Unit=>[(3,.bool all),(8,.ptr 41 0 0),(9,.ptr 70 0 0),(10,.ptr 61 0 0)]) (fun _=>rkH a u (2,left0 a.n f,f.map rm0,rnd0 f.length)) (fun _=>True) ?_ (Zaj _) ?_ ?_
 ·refine⟨[(41,.blk 41 0),(61,.blk 47 0),(70,.blk 70 0),(71,.blk 71 0),(72,.blk 72 0),(74,.nil)],rfl,Zcf,?_,au9⟩;repeat'(first|exact Zci|(refine Zca ?_;first|rfl|(simp only[noRef,noRefs,Qag,Zad,Zac,Zah,Qab,Qai,Qaf,Qal,Qao,Qau,Qah,Qan,Qaa,Qap,Qaj,Qak,Qam,Qas];done))|exact Zct rfl|exact Zco|exact(True.intro:RnM _ _ _ [] [])|refine Zcp ?_ ?_|(refine Zb9 ?_;first|rfl|(simp only[noRef,noRefs,Qag,Zad,Zac,Zah,Qab,Qai,Qaf,Qal,Qao,Qau,Qah,Qan,Qaa,Qap,Qaj,Qak,Qam,Qas];done))|exact Rn.x1 rfl rfl|exact Rn.x2 rfl rfl|exact Rn.x3 rfl rfl|exact Rn.x4 rfl rfl|exact Rn.x5 rfl|exact Rn.x6 rfl|exact Rn.x7 rfl|refine Zck rfl rfl ?_|refine Zcj rfl rfl rfl ?_ ?_|refine Zcl rfl rfl rfl ?_ ?_|refine Zcm rfl rfl ?_ ?_|refine Zcn rfl rfl ?_ ?_)
  exact Zcw fun x _=>Zb9 (Qaa _)
 ·rintro i hi;by_cases g:i<f.length
  ·obtain⟨x,hx⟩:=Qaq g;have U:=Qf4 ((f.take i).map rm0);rw[Zaz,Zas,Nat.min_eq_left (by omega)]at U;have htk:((f.take (i+1)).map rm0)=(f.take i).map rm0++[rm0 x]:=by rw[ZaT,hx,Option.toList,ZaN];rfl
   have M:((f.take i).map rm0).length=i:=by rw[Zaz,Zas];omega
   generalize hF:(f.take i).map rm0=G at*;refine ZcF (ZcK g (QaF hx) U M) ?_;refine⟨i+1,by omega,by omega,?_⟩;rw[htk];dsimp only[rkH];rw[Zaq,Zaf,M];refine⟨[(41,.blk 41 0),(61,.blk 61 0),(70,.blk 70 0),(71,.blk 71 0),(72,.blk 72 0),(74,.blk 74 1)],rfl,au0,?_,au9⟩;repeat'(first|exact Zci|(refine Zca ?_;first|rfl|(simp only[noRef,noRefs,Qag,Zad,Zac,Zah,Qab,Qai,Qaf,Qal,Qao,Qau,Qah,Qan,Qaa,Qap,Qaj,Qak,Qam,Qas];done))|exact Zct rfl|exact Zco|exact(True.intro:RnM _ _ _ [] [])|refine Zcp ?_ ?_|(refine Zb9 ?_;first|rfl|(simp only[noRef,noRefs,Qag,Zad,Zac,Zah,Qab,Qai,Qaf,Qal,Qao,Qau,Qah,Qan,Qaa,Qap,Qaj,Qak,Qam,Qas];done))|exact Rn.x1 rfl rfl|exact Rn.x2 rfl rfl|exact Rn.x3 rfl rfl|exact Rn.x4 rfl rfl|exact Rn.x5 rfl|exact Rn.x6 rfl|exact Rn.x7 rfl|refine Zck rfl rfl ?_|refine Zcj rfl rfl rfl ?_ ?_|refine Zcl rfl rfl rfl ?_ ?_|refine Zcm rfl rfl ?_ ?_|refine Zcn rfl rfl ?_ ?_)
   exact Zcw fun x _=>Zb9 (Qaa _)
  have e:i=f.length:=by omega
  subst e;dsimp only[rkH];refine ZcF g ?_;refine⟨(),?_⟩;refine⟨[(41,.blk 41 0),(61,.blk 61 0),(70,.blk 70 0),(71,.blk 71 0),(72,.blk 72 0),(74,.blk 74 0)],rfl,au0,?_,au9⟩;repeat'(first|exact Zci|(refine Zca ?_;first|rfl|(simp only[noRef,noRefs,Qag,Zad,Zac,Zah,Qab,Qai,Qaf,Qal,Qao,Qau,Qah,Qan,Qaa,Qap,Qaj,Qak,Qam,Qas];done))|exact Zct rfl|exact Zco|exact(True.intro:RnM _ _ _ [] [])|refine Zcp ?_ ?_|(refine Zb9 ?_;first|rfl|(simp only[noRef,noRefs,Qag,Zad,Zac,Zah,Qab,Qai,Qaf,Qal,Qao,Qau,Qah,Qan,Qaa,Qap,Qaj,Qak,Qam,Qas];done))|exact Rn.x1 rfl rfl|exact Rn.x2 rfl rfl|exact Rn.x3 rfl rfl|exact Rn.x4 rfl rfl|exact Rn.x5 rfl|exact Rn.x6 rfl|exact Rn.x7 rfl|refine Zck rfl rfl ?_|refine Zcj rfl rfl rfl ?_ ?_|refine Zcl rfl rfl rfl ?_ ?_|refine Zcm rfl rfl ?_ ?_|refine Zcn rfl rfl ?_ ?_)
  exact Zcw fun x _=>Zb9 (Qaa _)
 rintro _ _;have hrn0:rnd0 f.length=if f.length=0 then 0 else 1:=rfl;have X:cntL a.n (left0 a.n f)<a.n+1:=by
  have:cntL a.n (left0 a.n f)<=a.n:=by unfold cntL;exact Zay List.countP_le_length (by simp)
  omega
 have Y:=Agr0 (n:=a.n) z.fn (by rw[ZaL];exact z.fS.imp fun h=>by omega);dsimp only[rkH];refine ZcE ?_;refine Qat 170 (fun t:St4=>[(3,.bool all),(8,.ptr 41 0 0),(9,.ptr 70 0 0),(10,.ptr 61 0 0),(13,.int .i64 t.1)]) (rkH a u) (fun t=>t.2.1.length=a.n/\(∃rr,Agr a.n t.2.1 t.2.2.1 rr)/\t.1+cntL a.n t.2.1<=a.n+2/\∃A,cntL a.n t.2.1<A/\pRounds a.n a.es a.ms u all A t.1 t.2.1 t.2.2.1 t.2.2.2=fin a.n a.es a.ms f u all) (fun t=>cntL a.n t.2.1) (2,left0 a.n f,f.map rm0,rnd0 f.length) 2 260 (fun t:St4=>[(8,.ptr 41 0 0),(9,.ptr 70 0 0),(10,.ptr 61 0 0)]) (rkH a u) (fun t=>t.2=fin a.n a.es a.ms f u all/\t.2.1.length=a.n/\∃rr,Agr a.n t.2.1 t.2.2.1 rr) ?_ ⟨QjS,⟨_,Y⟩,by dsimp only;omega,a.n+1,X,rfl⟩ ?_ ?_
 ·dsimp only[rkH];rw[Zaz];refine⟨[(41,.blk 41 0),(61,.blk 61 0),(70,.blk 70 0),(71,.blk 71 0),(72,.blk 72 0),(74,.blk 74 0)],rfl,au0,?_,au9⟩;repeat'(first|exact Zci|(refine Zca ?_;first|rfl|(simp only[noRef,noRefs,Qag,Zad,Zac,Zah,Qab,Qai,Qaf,Qal,Qao,Qau,Qah,Qan,Qaa,Qap,Qaj,Qak,Qam,Qas];done))|exact Zct rfl|exact Zco|exact(True.intro:RnM _ _ _ [] [])|refine Zcp ?_ ?_|(refine Zb9 ?_;first|rfl|(simp only[noRef,noRefs,Qag,Zad,Zac,Zah,Qab,Qai,Qaf,Qal,Qao,Qau,Qah,Qan,Qaa,Qap,Qaj,Qak,Qam,Qas];done))|exact Rn.x1 rfl rfl|exact Rn.x2 rfl rfl|exact Rn.x3 rfl rfl|exact Rn.x4 rfl rfl|exact Rn.x5 rfl|exact Rn.x6 rfl|exact Rn.x7 rfl|refine Zck rfl rfl ?_|refine Zcj rfl rfl rfl ?_ ?_|refine Zcl rfl rfl rfl ?_ ?_|refine Zcm rfl rfl ?_ ?_|refine Zcn rfl rfl ?_ ?_)
  exact Zcw fun x _=>Zb9 (Qaa _)
 ·rintro⟨b,l,rs,k⟩⟨o,⟨rr,hA⟩,hrk,A,hfu,n⟩;dsimp only at o hA hrk hfu n⊢;dsimp only[rkH];have hN:=next35 a u l b all h.inN h.nd o (by omega) p (by omega) (by omega);have s:=Qll (left:=lf l) (unc:=u) (rank:=b) (all:=all) h.inN h.nd h.srt;obtain⟨A,rfl⟩:∃m,A=m+1:=⟨A-1,by omega⟩;have I:∀r∈pNext a.n a.es a.ms (lf l) u b all,cntL a.n (offs l ((pNext a.n a.es a.ms (lf l) u b all).map (·.st)))<cntL a.n l:=fun r w=>by
   obtain⟨h1,h2⟩:=s.2 r w;refine Qna (fun i _ hi=>?_) h1 h2 ?_;·rw[Qc8]at hi;simp only[Zab]at hi;exact hi.1
   rw[Qc8,Qek (Zao.2 ⟨r,w,rfl⟩)];simp
  unfold pRounds at n;have hrl:=QlM hA;have R:=hA.step o s.1 s.2;generalize pNext a.n a.es a.ms (lf l) u b all=c at*;refine ZcE ?_;refine ch (HSpec.of_F (Zcv (frzP (a:=a) (u:=u) (l:=l) gg gg gg o) (Zcv (Zcd _) (Zcv (Zcd _) Zcu))) (FSpec.QbN hN (by(try simp only[noRefs,Qak,Qam,Qab,Qai,Qaf,Qal,Qao,Qah,noRef,Zad,Zac])<;>rfl) (QrP _) (Qf4 _) rfl)) ?_;by_cases V:c.length=0
  ·rw[if_pos V]at n;refine ZcF V ?_;refine⟨(b,l,rs,k),⟨n,o,rr,hA⟩,?_⟩;refine⟨[(41,.blk 41 0),(61,.blk 61 0),(70,.blk 70 0),(71,.blk 71 0),(72,.blk 72 0),(74,.blk 74 0)],rfl,au0,?_,au9⟩;repeat'(first|exact Zci|(refine Zca ?_;first|rfl|(simp only[noRef,noRefs,Qag,Zad,Zac,Zah,Qab,Qai,Qaf,Qal,Qao,Qau,Qah,Qan,Qaa,Qap,Qaj,Qak,Qam,Qas];done))|exact Zct rfl|exact Zco|exact(True.intro:RnM _ _ _ [] [])|refine Zcp ?_ ?_|(refine Zb9 ?_;first|rfl|(simp only[noRef,noRefs,Qag,Zad,Zac,Zah,Qab,Qai,Qaf,Qal,Qao,Qau,Qah,Qan,Qaa,Qap,Qaj,Qak,Qam,Qas];done))|exact Rn.x1 rfl rfl|exact Rn.x2 rfl rfl|exact Rn.x3 rfl rfl|exact Rn.x4 rfl rfl|exact Rn.x5 rfl|exact Rn.x6 rfl|exact Rn.x7 rfl|refine Zck rfl rfl ?_|refine Zcj rfl rfl rfl ?_ ?_|refine Zcl rfl rfl rfl ?_ ?_|refine Zcm rfl rfl ?_ ?_|refine Zcn rfl rfl ?_ ?_)
   exact Zcw fun x _=>Zb9 (Qaa _)
  rw[if_neg V]at n;have hnl:=QlM R;rw[Zaf]at hnl;obtain⟨r0,hr0⟩:∃r,r∈c:=by cases c with|nil=>exact absurd rfl V|cons r _=>exact⟨r,by simp⟩
  have hd0:=I r0 hr0;have h0':¬(c.length:Int)=0:=by omega
  refine ZcF h0' ?_;refine Qat 300 (fun j:Nat=>[(49,rms c),(50,.int .i64 c.length),(51,.int .i64 j),(3,.bool all),(8,.ptr 41 0 0),(9,.ptr 70 0 0),(10,.ptr 61 0 0),(13,.int .i64 b),(14,rms c)]) (fun j=>rkH a u (b,offs l ((c.map (·.st)).take j),rs,k)) (fun j=>j<=c.length) (fun j=>c.length-j) 0 4 400 (fun _:Unit=>[(3,.bool all),(8,.ptr 41 0 0),(9,.ptr 70 0 0),(10,.ptr 61 0 0),(13,.int .i64 b),(14,rms c)]) (fun _=>rkH a u (b,offs l (c.map (·.st)),rs,k)) (fun _=>True) ?_ (Zaj _) ?_ ?_
  ·refine⟨[(41,.blk 41 0),(61,.blk 61 0),(70,.blk 70 0),(71,.blk 71 0),(72,.blk 72 0),(74,.blk 74 0)],rfl,au0,?_,au9⟩;repeat'(first|exact Zci|(refine Zca ?_;first|rfl|(simp only[noRef,noRefs,Qag,Zad,Zac,Zah,Qab,Qai,Qaf,Qal,Qao,Qau,Qah,Qan,Qaa,Qap,Qaj,Qak,Qam,Qas];done))|exact Zct rfl|exact Zco|exact(True.intro:RnM _ _ _ [] [])|refine Zcp ?_ ?_|(refine Zb9 ?_;first|rfl|(simp only[noRef,noRefs,Qag,Zad,Zac,Zah,Qab,Qai,Qaf,Qal,Qao,Qau,Qah,Qan,Qaa,Qap,Qaj,Qak,Qam,Qas];done))|exact Rn.x1 rfl rfl|exact Rn.x2 rfl rfl|exact Rn.x3 rfl rfl|exact Rn.x4 rfl rfl|exact Rn.x5 rfl|exact Rn.x6 rfl|exact Rn.x7 rfl|refine Zck rfl rfl ?_|refine Zcj rfl rfl rfl ?_ ?_|refine Zcl rfl rfl rfl ?_ ?_|refine Zcm rfl rfl ?_ ?_|refine Zcn rfl rfl ?_ ?_)
   exact Zcw fun x _=>Zb9 (Qaa _)
  ·rintro j hj;dsimp only[rkH];by_cases B:j<c.length
   ·obtain⟨r,w⟩:=Qaq B;have hrn:=(s.2 r (Zae w)).1;have P:=QpC (l:=l) (xs:=c.map (·.st)) (i:=j) (x:=r.st) (by rw[ZaG,w];rfl);have hol:(offs l ((c.map (·.st)).take j)).length=a.n:=by rw[Qhv];exact o
    generalize offs l ((c.map (·.st)).take j)=L at*;have h1:r.st+1<=L.length:=by omega
    refine ZcF (ZcL B (QqO w) hrn h1 @Qgr) ?_;refine⟨j+1,by omega,by omega,?_⟩;rw[P];refine⟨[(41,.blk 41 0),(61,.blk 61 0),(70,.blk 70 0),(71,.blk 71 0),(72,.blk 72 0),(74,.blk 74 0)],rfl,au0,?_,au9⟩;repeat'(first|exact Zci|(refine Zca ?_;first|rfl|(simp only[noRef,noRefs,Qag,Zad,Zac,Zah,Qab,Qai,Qaf,Qal,Qao,Qau,Qah,Qan,Qaa,Qap,Qaj,Qak,Qam,Qas];done))|exact Zct rfl|exact Zco|exact(True.intro:RnM _ _ _ [] [])|refine Zcp ?_ ?_|(refine Zb9 ?_;first|rfl|(simp only[noRef,noRefs,Qag,Zad,Zac,Zah,Qab,Qai,Qaf,Qal,Qao,Qau,Qah,Qan,Qaa,Qap,Qaj,Qak,Qam,Qas];done))|exact Rn.x1 rfl rfl|exact Rn.x2 rfl rfl|exact Rn.x3 rfl rfl|exact Rn.x4 rfl rfl|exact Rn.x5 rfl|exact Rn.x6 rfl|exact Rn.x7 rfl|refine Zck rfl rfl ?_|refine Zcj rfl rfl rfl ?_ ?_|refine Zcl rfl rfl rfl ?_ ?_|refine Zcm rfl rfl ?_ ?_|refine Zcn rfl rfl ?_ ?_)
    exact Zcw fun x _=>Zb9 (Qaa _)
   have e:j=c.length:=by omega
   have e2:(c.map (·.st)).take j=c.map (·.st):=by rw[ZaS];simp;omega
   rw[e2];refine ZcF B ?_;refine⟨(),?_⟩;refine⟨[(41,.blk 41 0),(61,.blk 61 0),(70,.blk 70 0),(71,.blk 71 0),(72,.blk 72 0),(74,.blk 74 0)],rfl,au0,?_,au9⟩;repeat'(first|exact Zci|(refine Zca ?_;first|rfl|(simp only[noRef,noRefs,Qag,Zad,Zac,Zah,Qab,Qai,Qaf,Qal,Qao,Qau,Qah,Qan,Qaa,Qap,Qaj,Qak,Qam,Qas];done))|exact Zct rfl|exact Zco|exact(True.intro:RnM _ _ _ [] [])|refine Zcp ?_ ?_|(refine Zb9 ?_;first|rfl|(simp only[noRef,noRefs,Qag,Zad,Zac,Zah,Qab,Qai,Qaf,Qal,Qao,Qau,Qah,Qan,Qaa,Qap,Qaj,Qak,Qam,Qas];done))|exact Rn.x1 rfl rfl|exact Rn.x2 rfl rfl|exact Rn.x3 rfl rfl|exact Rn.x4 rfl rfl|exact Rn.x5 rfl|exact Rn.x6 rfl|exact Rn.x7 rfl|refine Zck rfl rfl ?_|refine Zcj rfl rfl rfl ?_ ?_|refine Zcl rfl rfl rfl ?_ ?_|refine Zcm rfl rfl ?_ ?_|refine Zcn rfl rfl ?_ ?_)
   exact Zcw fun x _=>Zb9 (Qaa _)
  rintro _ _;have E:=Qf4 rs;have hon:=QsX c;dsimp only[rkH];refine ZcF (ZcI E hon) ?_;refine⟨(b+1,offs l (c.map (·.st)),rs++c,b),by dsimp only;exact hd0,⟨by dsimp only;rw[Qhv];exact o,⟨_,R⟩,by dsimp only;omega,A,by dsimp only;omega,n⟩,?_⟩;dsimp only[rkH];rw[Zaq,Zaf];refine⟨[(41,.blk 41 0),(61,.blk 61 0),(70,.blk 70 0),(71,.blk 71 0),(72,.blk 72 0),(74,.blk 74 1)],rfl,au0,?_,au9⟩;repeat'(first|exact Zci|(refine Zca ?_;first|rfl|(simp only[noRef,noRefs,Qag,Zad,Zac,Zah,Qab,Qai,Qaf,Qal,Qao,Qau,Qah,Qan,Qaa,Qap,Qaj,Qak,Qam,Qas];done))|exact Zct rfl|exact Zco|exact(True.intro:RnM _ _ _ [] [])|refine Zcp ?_ ?_|(refine Zb9 ?_;first|rfl|(simp only[noRef,noRefs,Qag,Zad,Zac,Zah,Qab,Qai,Qaf,Qal,Qao,Qau,Qah,Qan,Qaa,Qap,Qaj,Qak,Qam,Qas];done))|exact Rn.x1 rfl rfl|exact Rn.x2 rfl rfl|exact Rn.x3 rfl rfl|exact Rn.x4 rfl rfl|exact Rn.x5 rfl|exact Rn.x6 rfl|exact Rn.x7 rfl|refine Zck rfl rfl ?_|refine Zcj rfl rfl rfl ?_ ?_|refine Zcl rfl rfl rfl ?_ ?_|refine Zcm rfl rfl ?_ ?_|refine Zcn rfl rfl ?_ ?_)
  exact Zcw fun x _=>Zb9 (Qaa _)
 rintro⟨b,l,rs,k⟩⟨y,o,rr,hA⟩;dsimp only at y o hA⊢;have hrl:=QlM hA;have hpd:=QjV (left:=lf l) h.inN h.nd;have N:=super54 a u l h o p (by omega);have Z:=dist53 a u l h.inN h.nd o (by omega) p (by omega);have F:pRes a f u all=⟨kept a.n l,dists a.n l (pDist a.n a.es a.ms (lf l)),srtR rs,k,restr a (lf l),(sAll a (lf l)).1⟩:=by unfold pRes;rw[<-y]
 rw[F];have J:=QqS rs;have hsrl:=Qf4 (srtR rs);generalize pDist a.n a.es a.ms (lf l)=d at*;dsimp only[rkH];refine ZcE ?_;refine ch (sortH (l:=rs) (fun r w=>by have:=((hA.mem r).1 w).1;omega) (by omega) hA.nd gg) ?_;refine ZcE ?_;refine ch (HSpec.of_F (Zcv (frzP (a:=a) (u:=u) (l:=l) gg gg gg o) Zcu) (FSpec.QbN Z (by(try simp only[noRefs,Qak,Qam,Qab,Qai,Qaf,Qal,Qao,Qah,noRef,Zad,Zac])<;>rfl) (Qb0 _) (by rw[Qcy,hpd,Zb2]) rfl)) ?_;refine ZcE ?_;refine Qat 500 (fun i:Nat=>[(8,.ptr 41 0 0),(9,.ptr 70 0 0),(10,.ptr 61 0 0),(77,.fsl (ints d) a.n 1),(78,.int .i64 a.n),(79,.int .i64 i)]) (fun i=>[(41,.cells 0 nine),(61,.cells 0 [.sl 76 0 0 (kept i l).length 1,.sl 77 0 0 (kept i l).length 1,.sl 74 0 0 rs.length 4,.int .i64 (k:Int),.nilsl,.int .i64 0,.nilsl,.nilsl,.nilsl]),(70,.cells 0 (pblk a u)),(71,.map 0 (mapF .i64 (backF a.es) (keysR a.es))),(72,.cells 0 (bls l)),(74,.cells 0 ((srtR rs).flatMap rmC)),(76,.cells 0 (ints (nz (kept i l)))),(77,.cells 0 (ints (dists i l d)))]) (fun i=>i<=a.n) (fun i=>a.n-i) 0 6 600 (fun _:Unit=>[(8,.ptr 41 0 0),(9,.ptr 70 0 0),(10,.ptr 61 0 0)]) (fun _=>[(41,.cells 0 nine),(61,.cells 0 [.sl 76 0 0 (kept a.n l).length 1,.sl 77 0 0 (kept a.n l).length 1,.sl 74 0 0 rs.length 4,.int .i64 (k:Int),.nilsl,.int .i64 0,.nilsl,.nilsl,.nilsl]),(70,.cells 0 (pblk a u)),(71,.map 0 (mapF .i64 (backF a.es) (keysR a.es))),(72,.cells 0 (bls l)),(74,.cells 0 ((srtR rs).flatMap rmC)),(76,.cells 0 (ints (nz (kept a.n l)))),(77,.cells 0 (ints (dists a.n l d)))]) (fun _=>True) ?_ (Zaj _) ?_ ?_
 ·refine⟨[(41,.blk 41 0),(61,.blk 61 0),(70,.blk 70 0),(71,.blk 71 0),(72,.blk 72 0),(74,.blk 74 0),(76,.nil),(77,.nil)],rfl,au0,?_,au9⟩;repeat'(first|exact Zci|(refine Zca ?_;first|rfl|(simp only[noRef,noRefs,Qag,Zad,Zac,Zah,Qab,Qai,Qaf,Qal,Qao,Qau,Qah,Qan,Qaa,Qap,Qaj,Qak,Qam,Qas];done))|exact Zct rfl|exact Zco|exact(True.intro:RnM _ _ _ [] [])|refine Zcp ?_ ?_|(refine Zb9 ?_;first|rfl|(simp only[noRef,noRefs,Qag,Zad,Zac,Zah,Qab,Qai,Qaf,Qal,Qao,Qau,Qah,Qan,Qaa,Qap,Qaj,Qak,Qam,Qas];done))|exact Rn.x1 rfl rfl|exact Rn.x2 rfl rfl|exact Rn.x3 rfl rfl|exact Rn.x4 rfl rfl|exact Rn.x5 rfl|exact Rn.x6 rfl|exact Rn.x7 rfl|refine Zck rfl rfl ?_|refine Zcj rfl rfl rfl ?_ ?_|refine Zcl rfl rfl rfl ?_ ?_|refine Zcm rfl rfl ?_ ?_|refine Zcn rfl rfl ?_ ?_)
  exact Zcw fun x _=>Zb9 (Qaa _)
 ·rintro i hi;by_cases g:i<a.n
  ·have q:=Qj0 (i:=i) (l:=l);have v:=Qoi (i:=i) (l:=l) (d:=d);have hkl:=@QqU i l;have C:=@Qj1 i l d;generalize kept i l=K at*;generalize dists i l d=D at*;have Q:i<l.length:=by omega
   have T:i<d.length:=by omega
   have H:d[i]?=some (d.getD i 0):=by rw[Zal T];simp[T]
   by_cases h1:lf l i=true
   ·rw[if_pos h1]at q v;refine ZcF (ZcL g (Qnn Q) (QaZ H) h1 C) ?_;refine⟨i+1,by omega,by omega,?_⟩;rw[q,v,Zaf,QaH,QaA,QaA];refine⟨[(41,.blk 41 0),(61,.blk 61 0),(70,.blk 70 0),(71,.blk 71 0),(72,.blk 72 0),(74,.blk 74 0),(76,.blk 76 1),(77,.blk 77 1)],rfl,au0,?_,au9⟩;repeat'(first|exact Zci|(refine Zca ?_;first|rfl|(simp only[noRef,noRefs,Qag,Zad,Zac,Zah,Qab,Qai,Qaf,Qal,Qao,Qau,Qah,Qan,Qaa,Qap,Qaj,Qak,Qam,Qas];done))|exact Zct rfl|exact Zco|exact(True.intro:RnM _ _ _ [] [])|refine Zcp ?_ ?_|(refine Zb9 ?_;first|rfl|(simp only[noRef,noRefs,Qag,Zad,Zac,Zah,Qab,Qai,Qaf,Qal,Qao,Qau,Qah,Qan,Qaa,Qap,Qaj,Qak,Qam,Qas];done))|exact Rn.x1 rfl rfl|exact Rn.x2 rfl rfl|exact Rn.x3 rfl rfl|exact Rn.x4 rfl rfl|exact Rn.x5 rfl|exact Rn.x6 rfl|exact Rn.x7 rfl|refine Zck rfl rfl ?_|refine Zcj rfl rfl rfl ?_ ?_|refine Zcl rfl rfl rfl ?_ ?_|refine Zcm rfl rfl ?_ ?_|refine Zcn rfl rfl ?_ ?_)
    exact Zcw fun x _=>Zb9 (Qaa _)
   rw[if_neg h1,Zap]at q v;rw[Zai]at h1;refine ZcF (ZcK g (Qnn Q) (QaZ H) h1) ?_;refine⟨i+1,by omega,by omega,?_⟩;rw[q,v];refine⟨[(41,.blk 41 0),(61,.blk 61 0),(70,.blk 70 0),(71,.blk 71 0),(72,.blk 72 0),(74,.blk 74 0),(76,.blk 76 0),(77,.blk 77 0)],rfl,au0,?_,au9⟩;repeat'(first|exact Zci|(refine Zca ?_;first|rfl|(simp only[noRef,noRefs,Qag,Zad,Zac,Zah,Qab,Qai,Qaf,Qal,Qao,Qau,Qah,Qan,Qaa,Qap,Qaj,Qak,Qam,Qas];done))|exact Zct rfl|exact Zco|exact(True.intro:RnM _ _ _ [] [])|refine Zcp ?_ ?_|(refine Zb9 ?_;first|rfl|(simp only[noRef,noRefs,Qag,Zad,Zac,Zah,Qab,Qai,Qaf,Qal,Qao,Qau,Qah,Qan,Qaa,Qap,Qaj,Qak,Qam,Qas];done))|exact Rn.x1 rfl rfl|exact Rn.x2 rfl rfl|exact Rn.x3 rfl rfl|exact Rn.x4 rfl rfl|exact Rn.x5 rfl|exact Rn.x6 rfl|exact Rn.x7 rfl|refine Zck rfl rfl ?_|refine Zcj rfl rfl rfl ?_ ?_|refine Zcl rfl rfl rfl ?_ ?_|refine Zcm rfl rfl ?_ ?_|refine Zcn rfl rfl ?_ ?_)
   exact Zcw fun x _=>Zb9 (Qaa _)
  have e:i=a.n:=by omega
  subst e;refine ZcF g ?_;refine⟨(),?_⟩;refine⟨[(41,.blk 41 0),(61,.blk 61 0),(70,.blk 70 0),(71,.blk 71 0),(72,.blk 72 0),(74,.blk 74 0),(76,.blk 76 0),(77,.blk 77 0)],rfl,au0,?_,au9⟩;repeat'(first|exact Zci|(refine Zca ?_;first|rfl|(simp only[noRef,noRefs,Qag,Zad,Zac,Zah,Qab,Qai,Qaf,Qal,Qao,Qau,Qah,Qan,Qaa,Qap,Qaj,Qak,Qam,Qas];done))|exact Zct rfl|exact Zco|exact(True.intro:RnM _ _ _ [] [])|refine Zcp ?_ ?_|(refine Zb9 ?_;first|rfl|(simp only[noRef,noRefs,Qag,Zad,Zac,Zah,Qab,Qai,Qaf,Qal,Qao,Qau,Qah,Qan,Qaa,Qap,Qaj,Qak,Qam,Qas];done))|exact Rn.x1 rfl rfl|exact Rn.x2 rfl rfl|exact Rn.x3 rfl rfl|exact Rn.x4 rfl rfl|exact Rn.x5 rfl|exact Rn.x6 rfl|exact Rn.x7 rfl|refine Zck rfl rfl ?_|refine Zcj rfl rfl rfl ?_ ?_|refine Zcl rfl rfl rfl ?_ ?_|refine Zcm rfl rfl ?_ ?_|refine Zcn rfl rfl ?_ ?_)
  exact Zcw fun x _=>Zb9 (Qaa _)
 rintro _ _;have C:=@Qj1 a.n l d;generalize restr a (lf l)=S at*;generalize(sAll a (lf l)).1=O at*;refine ZcE ?_;refine ch (HSpec.of_F (Zcv (frzP (a:=a) (u:=u) (l:=l) gg gg gg o) Zcu) N) ?_;refine ZcE ?_;refine⟨.inr trivial,_,rfl,?_⟩;refine Rn.agg (Zcp (Rn.fz0 (g:=0) rfl (by simp[ints]) (Zca (Qab _))) (Zcp ?_ (Zcp ?_ (Zcp (Zb9 rfl) (Zcp (Zb9 (Qaa _)) (Zcp (Zb9 rfl) (Zcp (Zb9 (Qaa _)) (Zcp (Zb9 (Qaj _)) (Zcp (Zb9 (Qaa _)) Zco)))))))));·have :(dists a.n l d).length=(kept a.n l).length:=C;show Rn 0 π0 _ (.fsl (ints (dists a.n l d)) (dists a.n l d).length 1) _;rw[this];exact Rn.fz0 (g:=0) rfl (by rw[Qcy,this,Zb2]) (Zca (Qab _))
 show Rn 0 π0 _ (.fsl ((srtR rs).flatMap rmC) (srtR rs).length 4) _;rw[J];exact Rn.fz0 (g:=0) rfl (by rw[Qf4,J]) (Zca (Qal _))
end Go.AM.SE
namespace Go.AM.SE
open Go.Proofs Go.AM.SD
def mach:Aut:=⟨[0,1,2,3],3,[0],[(0,0,1),(1,1,0),(1,2,2),(2,3,0)]⟩
def mach3:Aut:=⟨[0,1,2,3],3,[0],[(0,0,1),(1,1,0),(1,2,2)]⟩
theorem q1:QOk mach [2] [1,2]:=⟨by decide,by decide,by decide,by decide⟩
theorem q2:QOk mach3 [] [1,2]:=⟨by decide,by decide,by decide,by decide⟩
end Go.AM.SE
namespace Go.AM.SE
open Go.Proofs Go.AM.SD
theorem QrU{α:Type}{p:α->Bool}{l:List α}{i:Nat}{x:α}(b:l[i]?=some x)(hp:p x=true)(a:∀j y,j<i->l[j]?=some y->p y=false):l.find? p=some x:=by obtain⟨hi,e⟩:=Zam.1 b;rw[List.find?_eq_some_iff_getElem];refine⟨hp,i,hi,e,fun j c=>?_⟩;have:=a j l[j] c (Zal (by omega));simp[this]
def stepI(es:List Ed)(s ev:Nat):Int:=match stepA es s ev with|some to=>(to:Int)|none=>-1
theorem step60(a:Aut)(s ev:Nat)(o:a.es.length<=1000000):PSpec Tryz.prog 62 [aV a,.int .i64 s,.int .i64 ev] (.int .i64 (stepI a.es s ev)):=by
 refine Zcc 64 ok62 rfl (by(try simp only[noRefs,Qak,Qam,Qab,Qai,Qaf,Qal,Qao,Qah,noRef,Zad,Zac])<;>rfl) rfl ?_;unfold s62;refine ZcE ?_;refine QaO 100 (fun i:Nat=>[(1,.int .i64 s),(2,.int .i64 ev),(3,.ptr 50 0 0),(7,.int .i64 i)]) (fun _=>[(50,.cells 0 [sliN a.al,.int .i64 (a.n:Int),sliN a.ms,egsN a.es])]) (fun i=>i<=a.es.length/\∀(j:Nat)y,j<i->a.es[j]?=some y->(y.1==s&&y.2.1==ev)=false) (fun i=>a.es.length-i) 0 ⟨[(50,.blk 64 0)],rfl,au0,au10,au9⟩ ⟨Zaj _,fun j y k=>absurd k (ZaF _)⟩ ?_;rintro i⟨hi,l⟩;by_cases c:i<a.es.length
 ·obtain⟨e,he⟩:=Qaq c;have f:(e.1==s&&e.2.1==ev)=false->i+1<=a.es.length/\∀(j:Nat)y,j<i+1->a.es[j]?=some y->(y.1==s&&y.2.1==ev)=false:=fun h=>⟨by omega,fun j y k g=>by
  by_cases q:j=i;·subst q;rw[he]at g;cases g;exact h
  exact l j y (by omega) g⟩;by_cases h1:e.1=s
  ·by_cases n:e.2.1=ev
   ·have hf:=QrU (p:=fun e:Ed=>e.1==s&&e.2.1==ev) he (by simp[h1,n]) l;have m:stepI a.es s ev=e.2.2:=by unfold stepI stepA;rw[hf];rfl
    have b:(e.1:Int)=(s:Int):=by omega
    have d:(e.2.1:Int)=(ev:Int):=by omega
    refine ZcF (ZcK c (QaJ he) b d) ?_;exact⟨.inr trivial,_,rfl,by rw[m];rfl⟩
   have b:(e.1:Int)=(s:Int):=by omega
   have d:¬(e.2.1:Int)=(ev:Int):=by omega
   refine ZcF (ZcK c (QaJ he) b d) ?_;exact⟨i+1,by omega,f (by simp[n]),⟨[(50,.blk 50 0)],rfl,au0,au10,au9⟩⟩
  have b:¬(e.1:Int)=(s:Int):=by omega
  refine ZcF (ZcJ c (QaJ he) b) ?_;exact⟨i+1,by omega,f (by simp[h1]),⟨[(50,.blk 50 0)],rfl,au0,au10,au9⟩⟩
 have hf:a.es.find? (fun e=>e.1==s&&e.2.1==ev)=none:=by rw[ZbR];intro y g;obtain⟨j,k,p⟩:=QcS g;rw[l j y (by omega) k];decide
 have m:stepI a.es s ev=-1:=by unfold stepI stepA;rw[hf];rfl
 refine ZcF c ?_;exact⟨.inr trivial,_,rfl,by rw[m];rfl⟩
theorem index61(l:List Int)(n:Int)(o:l.length<=140737488355328):PSpec Tryz.prog 261 [sli l,.int .i64 n] (.int .i64 (indexR l n)):=by
 refine Zcc 64 ok261 rfl (by(try simp only[noRefs,Qak,Qam,Qab,Qai,Qaf,Qal,Qao,Qah,noRef,Zad,Zac])<;>rfl) rfl ?_;unfold s261;refine ZcE ?_;refine QaO 100 (fun i:Nat=>[(0,sli l),(1,.int .i64 n),(5,.int .i64 i)]) (fun _=>[]) (fun i=>i<=l.length/\∀(j:Nat)y,j<i->l[j]?=some y->y≠n) (fun i=>l.length-i) 0 ⟨[],rfl,au0,au10,au9⟩ ⟨Zaj _,fun j y c=>absurd c (ZaF _)⟩ ?_;rintro i⟨hi,f⟩;by_cases a:i<l.length
 ·obtain⟨x,b⟩:=Qaq a;by_cases d:x=n
  ·have h1:n∈l:=d▸Zae b;have k:l.findIdx (·==n)=i:=by rw[List.findIdx_eq a];refine⟨by rw[Zal a]at b;cases b;simp[d],fun j c=>?_⟩;have:=f j l[j] c (Zal (by omega));simpa using this
   refine ZcF (ZcJ a (QaZ b) d) ?_;refine⟨.inr trivial,_,rfl,?_⟩;simp only[indexR,if_pos h1,k];rfl
  refine ZcF (ZcJ a (QaZ b) d) ?_;refine⟨i+1,by omega,⟨by omega,fun j y c g=>?_⟩,⟨[],rfl,au0,au10,au9⟩⟩;by_cases e:j=i;·subst e;rw[b]at g;cases g;exact d
  exact f j y (by omega) g
 have :n∉l:=fun h=>by obtain⟨j,c,m⟩:=QcS h;exact f j n (by omega) c rfl
 refine ZcF a ?_;exact⟨.inr trivial,_,rfl,by simp only[indexR,if_neg this];rfl⟩
theorem QlN{l:List Nat}{x:Nat}(h:x∈l):indexR (nz l) x=idx l x:=by
 have h1:(x:Int)∈nz l:=Zao.2 ⟨x,h,rfl⟩;unfold indexR;rw[if_pos h1];unfold idx nz;rw[List.findIdx_map];congr 2;funext y;show((y:Int)==(x:Int))=(y==x);by_cases e:y=x;·subst e;simp
 have :¬(y:Int)=(x:Int):=by omega
 rw[beq_eq_false_iff_ne.2 this,beq_eq_false_iff_ne.2 e]
theorem Qj2{al:List Nat}{es:List Ed}{s:Nat}{out:List Nat}{k ev:Nat}(h:al[k]?=some ev):(al.take (k+1)).foldl (fEv es s) out=fEv es s ((al.take k).foldl (fEv es s) out) ev:=by rw[ZaT,h,Option.toList,Za5];rfl
structure Raw(a:Aut):Prop where
 esn:∀e∈a.es,e.1<a.n/\e.2.2<a.n
 n5:a.n<=5
 el:a.es.length<=1000000
 al:a.al.length<=32
 ml:a.ms.length<=32
theorem found59(a:Aut)(h:Raw a):PSpec Tryz.prog 259 [aV a] (sliN (found a)):=by
 have L:=h.n5;have K:=h.al;refine Zcb 64 ok259 rfl (by(try simp only[noRefs,Qak,Qam,Qab,Qai,Qaf,Qal,Qao,Qah,noRef,Zad,Zac])<;>rfl) (Qaa _) ?_;have m:fQ a.al a.es (a.n+1) 0 (if 0<a.n then[0]else[])=found a:=rfl;by_cases J:0<a.n
 ·rw[if_pos J]at m;have y:(0:Int)<(a.n:Int):=by omega
  unfold s259;refine ZcF (ZcJ y @Qf3 @QlE) ?_;refine QaO 100 (fun t:Nat×List Nat=>[(1,.ptr 50 0 0),(3,.sl 75 0 0 t.2.length 1),(4,.int .i64 t.1)]) (fun t=>[(50,.cells 0 [sliN a.al,.int .i64 (a.n:Int),sliN a.ms,egsN a.es]),(75,.cells 0 (ints (nz t.2)))]) (fun t=>t.1<=t.2.length/\FI a.n t.2/\fQ a.al a.es (a.n+1-t.1) t.1 t.2=found a) (fun t=>a.n+1-t.1) (0,[0]) ?_ ⟨Zaj _,⟨by simp,fun x I=>by simp at I;omega⟩,by dsimp only;exact m⟩ ?_;·exact⟨[(50,.blk 64 0),(75,.blk 72 0)],rfl,au0,au10,au9⟩
  rintro⟨i,out⟩⟨hi,l,z⟩;dsimp only at hi l z⊢;have E:=l.len;by_cases d:i<out.length
  ·obtain⟨s,C⟩:=Qaq d;have B:fQ a.al a.es (a.n+1-(i+1)) (i+1) (fRow a.al a.es s out)=found a:=by rw[<-z,show a.n+1-i=(a.n+1-(i+1))+1 by omega];simp only[fQ,C]
   have f:=fun k=>FI.row h.esn s (a.al.take k) out l;refine ZcF d ?_;refine Qat 200 (fun k:Nat=>[(1,.ptr 50 0 0),(3,.sl 75 0 0 ((a.al.take k).foldl (fEv a.es s) out).length 1),(4,.int .i64 i),(5,.int .i64 k)]) (fun k=>[(50,.cells 0 [sliN a.al,.int .i64 (a.n:Int),sliN a.ms,egsN a.es]),(75,.cells 0 (ints (nz ((a.al.take k).foldl (fEv a.es s) out))))]) (fun k=>k<=a.al.length) (fun k=>a.al.length-k) 0 2 300 (fun _:Unit=>[(1,.ptr 50 0 0),(3,.sl 75 0 0 (fRow a.al a.es s out).length 1),(4,.int .i64 i)]) (fun _=>[(50,.cells 0 [sliN a.al,.int .i64 (a.n:Int),sliN a.ms,egsN a.es]),(75,.cells 0 (ints (nz (fRow a.al a.es s out))))]) (fun _=>True) ?_ (Zaj _) ?_ ?_;·exact⟨[(50,.blk 50 0),(75,.blk 75 0)],rfl,au0,au10,au9⟩
   ·rintro k hk;by_cases g:k<a.al.length
    ·obtain⟨ev,u⟩:=Qaq g;have b:=Qj2 (es:=a.es) (s:=s) (out:=out) u;obtain⟨v,⟨t,n⟩,_⟩:=f k;have G:=v.len;have p:((a.al.take k).foldl (fEv a.es s) out)[i]?=some s:=by rw[n,Zbh d];exact C
     generalize(a.al.take k).foldl (fEv a.es s) out=o at*;have A:i<o.length:=(Zam.1 p).1
     refine ZcF (ZcK g A (QbG (nz_at p)) (QaF u)) ?_;refine cp (step60 a s ev h.el) ?_;cases c:stepA a.es s ev with|none=>
      have h1:stepI a.es s ev=-1:=by unfold stepI;rw[c]
      have q:fEv a.es s o ev=o:=by unfold fEv;rw[c]
      rw[q]at b;rw[h1];refine ZcE ?_;refine⟨k+1,by omega,by omega,?_⟩;rw[b];exact⟨[(50,.blk 50 0),(75,.blk 75 0)],rfl,au0,au10,au9⟩|some to=>
      have h1:stepI a.es s ev=to:=by unfold stepI;rw[c]
      have H:=Qeb h.esn c;rw[h1];refine ZcE ?_;have r:=has36 (nz o) to (by simp;omega);rw[Qec,QbF]at r;by_cases hc:o.contains to=true
      ·have q:fEv a.es s o ev=o:=by unfold fEv;rw[c];exact if_pos hc
       rw[q]at b;rw[hc]at r;refine ch (Zcs (Zcv (FrzTo.all gg (by simp[ints])) (Zcv (Zcd _) Zcu)) r rfl) ?_;refine ZcE ?_;refine⟨k+1,by omega,by omega,?_⟩;rw[b];exact⟨[(50,.blk 50 0),(75,.blk 75 0)],rfl,au0,au10,au9⟩
      have q:fEv a.es s o ev=o++[to]:=by unfold fEv;rw[c];exact if_neg hc
      rw[q]at b;rw[Zai]at hc;rw[hc]at r;refine ch (Zcs (Zcv (FrzTo.all gg (by simp[ints])) (Zcv (Zcd _) Zcu)) r rfl) ?_;refine ZcE ?_;refine⟨k+1,by omega,by omega,?_⟩;rw[b,Zaf,QaH,QaA];exact⟨[(50,.blk 50 0),(75,.blk 75 1)],rfl,au0,au10,au9⟩
    have e:k=a.al.length:=by omega
    subst e;refine ZcF g ?_;refine⟨(),?_⟩;exact⟨[(50,.blk 50 0),(75,.blk 75 0)],rfl,au0,au10,au9⟩
   rintro _ _;obtain⟨v,⟨t,n⟩,_⟩:=f a.al.length;rw[Zau]at v n;have n:fRow a.al a.es s out=out++t:=n;refine ZcE ?_;refine⟨(i+1,fRow a.al a.es s out),by dsimp only;omega,⟨by dsimp only;rw[n,List.length_append];omega,v,B⟩,?_⟩;exact⟨[(50,.blk 50 0),(75,.blk 75 0)],rfl,au0,au10,au9⟩
  have F:out[i]?=none:=ZaA (by omega);have w:out=found a:=by rw[<-z,show a.n+1-i=(a.n-i)+1 by omega];simp only[fQ,F]
  refine ZcF d ?_;refine⟨.inr trivial,_,rfl,?_⟩;rw[w];exact Rn.fz0 (g:=0) rfl (by simp[ints]) (Zca (Qab _))
 rw[if_neg J]at m;have y:¬(0:Int)<(a.n:Int):=by omega
 unfold s259;refine ZcF y ?_;refine QaO 100 (fun t:Nat×List Nat=>[(1,.ptr 50 0 0),(3,.sl 75 0 0 t.2.length 1),(4,.int .i64 t.1)]) (fun t=>[(50,.cells 0 [sliN a.al,.int .i64 (a.n:Int),sliN a.ms,egsN a.es]),(75,.cells 0 (ints (nz t.2)))]) (fun t=>t.1<=t.2.length/\FI a.n t.2/\fQ a.al a.es (a.n+1-t.1) t.1 t.2=found a) (fun t=>a.n+1-t.1) (0,([]:List Nat)) ?_ ⟨Zaj _,⟨by simp,fun x I=>by cases I⟩,by dsimp only;exact m⟩ ?_;·exact⟨[(50,.blk 64 0),(75,.nil)],rfl,au0,au10,au9⟩
 rintro⟨i,out⟩⟨hi,l,z⟩;dsimp only at hi l z⊢;have E:=l.len;by_cases d:i<out.length
 ·obtain⟨s,C⟩:=Qaq d;have B:fQ a.al a.es (a.n+1-(i+1)) (i+1) (fRow a.al a.es s out)=found a:=by rw[<-z,show a.n+1-i=(a.n+1-(i+1))+1 by omega];simp only[fQ,C]
  have f:=fun k=>FI.row h.esn s (a.al.take k) out l;refine ZcF d ?_;refine Qat 200 (fun k:Nat=>[(1,.ptr 50 0 0),(3,.sl 75 0 0 ((a.al.take k).foldl (fEv a.es s) out).length 1),(4,.int .i64 i),(5,.int .i64 k)]) (fun k=>[(50,.cells 0 [sliN a.al,.int .i64 (a.n:Int),sliN a.ms,egsN a.es]),(75,.cells 0 (ints (nz ((a.al.take k).foldl (fEv a.es s) out))))]) (fun k=>k<=a.al.length) (fun k=>a.al.length-k) 0 2 300 (fun _:Unit=>[(1,.ptr 50 0 0),(3,.sl 75 0 0 (fRow a.al a.es s out).length 1),(4,.int .i64 i)]) (fun _=>[(50,.cells 0 [sliN a.al,.int .i64 (a.n:Int),sliN a.ms,egsN a.es]),(75,.cells 0 (ints (nz (fRow a.al a.es s out))))]) (fun _=>True) ?_ (Zaj _) ?_ ?_;·exact⟨[(50,.blk 50 0),(75,.blk 75 0)],rfl,au0,au10,au9⟩
  ·rintro k hk;by_cases g:k<a.al.length
   ·obtain⟨ev,u⟩:=Qaq g;have b:=Qj2 (es:=a.es) (s:=s) (out:=out) u;obtain⟨v,⟨t,n⟩,_⟩:=f k;have G:=v.len;have p:((a.al.take k).foldl (fEv a.es s) out)[i]?=some s:=by rw[n,Zbh d];exact C
    generalize(a.al.take k).foldl (fEv a.es s) out=o at*;have A:i<o.length:=(Zam.1 p).1
    refine ZcF (ZcK g A (QbG (nz_at p)) (QaF u)) ?_;refine cp (step60 a s ev h.el) ?_;cases c:stepA a.es s ev with|none=>
     have h1:stepI a.es s ev=-1:=by unfold stepI;rw[c]
     have q:fEv a.es s o ev=o:=by unfold fEv;rw[c]
     rw[q]at b;rw[h1];refine ZcE ?_;refine⟨k+1,by omega,by omega,?_⟩;rw[b];exact⟨[(50,.blk 50 0),(75,.blk 75 0)],rfl,au0,au10,au9⟩|some to=>
     have h1:stepI a.es s ev=to:=by unfold stepI;rw[c]
     have H:=Qeb h.esn c;rw[h1];refine ZcE ?_;have r:=has36 (nz o) to (by simp;omega);rw[Qec,QbF]at r;by_cases hc:o.contains to=true
     ·have q:fEv a.es s o ev=o:=by unfold fEv;rw[c];exact if_pos hc
      rw[q]at b;rw[hc]at r;refine ch (Zcs (Zcv (FrzTo.all gg (by simp[ints])) (Zcv (Zcd _) Zcu)) r rfl) ?_;refine ZcE ?_;refine⟨k+1,by omega,by omega,?_⟩;rw[b];exact⟨[(50,.blk 50 0),(75,.blk 75 0)],rfl,au0,au10,au9⟩
     have q:fEv a.es s o ev=o++[to]:=by unfold fEv;rw[c];exact if_neg hc
     rw[q]at b;rw[Zai]at hc;rw[hc]at r;refine ch (Zcs (Zcv (FrzTo.all gg (by simp[ints])) (Zcv (Zcd _) Zcu)) r rfl) ?_;refine ZcE ?_;refine⟨k+1,by omega,by omega,?_⟩;rw[b,Zaf,QaH,QaA];exact⟨[(50,.blk 50 0),(75,.blk 75 1)],rfl,au0,au10,au9⟩
   have e:k=a.al.length:=by omega
   subst e;refine ZcF g ?_;refine⟨(),?_⟩;exact⟨[(50,.blk 50 0),(75,.blk 75 0)],rfl,au0,au10,au9⟩
  rintro _ _;obtain⟨v,⟨t,n⟩,_⟩:=f a.al.length;rw[Zau]at v n;have n:fRow a.al a.es s out=out++t:=n;refine ZcE ?_;refine⟨(i+1,fRow a.al a.es s out),by dsimp only;omega,⟨by dsimp only;rw[n,List.length_append];omega,v,B⟩,?_⟩;exact⟨[(50,.blk 50 0),(75,.blk 75 0)],rfl,au0,au10,au9⟩
 have F:out[i]?=none:=ZaA (by omega);have w:out=found a:=by rw[<-z,show a.n+1-i=(a.n-i)+1 by omega];simp only[fQ,F]
 refine ZcF d ?_;refine⟨.inr trivial,_,rfl,?_⟩;rw[w];exact Rn.fz0 (g:=0) rfl (by simp[ints]) (Zca (Qab _))
end Go.AM.SE
namespace Go.AM.SE
open Go.Proofs Go.AM.SD
theorem QqV(l:List Int):(ints l).all AV.one=true:=by induction l with|nil=>rfl|cons x l a=>show(AV.one _&&(ints l).all AV.one)=true;rw[a];rfl
theorem empty45(l:List Nat)(b:l.length<=1000000):PSpec Tryz.prog 224 [sliN l] (.agg [sliN l,.int .i64 0,.nilsl,.nilsl]):=by refine Zcb 64 ok224 rfl (by(try simp only[noRefs,Qak,Qam,Qab,Qai,Qaf,Qal,Qao,Qah,noRef,Zad,Zac])<;>rfl) (by simp only[noRef,noRefs,Qab];rfl) ?_;have a:=QqV (nz l);unfold s224;refine ZcF a ?_;refine⟨.inr trivial,_,rfl,?_⟩;exact Rn.agg (Zcp (Rn.fz0 (g:=1) rfl (by simp[ints]) (Zca (Qab _))) (Zca rfl))
theorem Qj3{a:Aut}{f:List Nat}{i s k ev:Nat}(h:a.al[k]?=some ev):(a.al.take (k+1)).filterMap (fun ev=>(stepA a.es s ev).map fun to=>(i,ev,idx f to))=(a.al.take k).filterMap (fun ev=>(stepA a.es s ev).map fun to=>(i,ev,idx f to))++match stepA a.es s ev with|some to=>[(i,ev,idx f to)]|none=>[]:=by rw[ZaT,h,Option.toList,List.filterMap_append];congr 1;cases e:stepA a.es s ev with|none=>simp[e]|some to=>simp[e]
def cPre(a:Aut)(f:List Nat)(i:Nat):List Ed:=(List.range i).flatMap fun i=>cRow a f i (f.getD i 0)
def cPart(a:Aut)(f:List Nat)(i s k:Nat):List Ed:=cPre a f i++(a.al.take k).filterMap (fun ev=>(stepA a.es s ev).map fun to=>(i,ev,idx f to))
theorem QpD{a:Aut}{f:List Nat}{i s:Nat}(h:f[i]?=some s):cPre a f (i+1)=cPre a f i++cRow a f i s:=by
 unfold cPre;rw[ZaI,Zaq];have:f.getD i 0=s:=by rw[Zak,h];rfl
 rw[Zax,ZbZ,Zap,this]
theorem QqW(a:Aut)(f:List Nat)(i s:Nat):(cRow a f i s).length<=a.al.length:=by unfold cRow;exact List.length_filterMap_le _ _
theorem QhC(a:Aut)(f:List Nat):∀i,(cPre a f i).length<=i*a.al.length|0=>by simp[cPre]|i+1=>by have h1:=QhC a f i;have b:=QqW a f i (f.getD i 0);unfold cPre at h1⊢;rw[ZaI,Zaq,Zaf,Zbb];simp only[Zax,ZbZ,Zap];omega
theorem canon46(a:Aut)(h:Raw a):PSpec Tryz.prog 225 [aV a] (aV (canon a)):=by
 have J:=h.n5;have A:=h.al;have I:=h.ml;obtain⟨f1,_,f3⟩:=Qe1 h.esn;have K:=f1.len;refine Zcb 64 ok225 rfl (by(try simp only[noRefs,Qak,Qam,Qab,Qai,Qaf,Qal,Qao,Qah,noRef,Zad,Zac])<;>rfl) (Qde _) ?_;have L:=found59 a h;have w:canon a=⟨a.al,(found a).length,mks a (found a).length (found a),cPre a (found a) (found a).length⟩:=rfl;rw[w];generalize found a=f at*;unfold s225;refine ZcE ?_;refine cp L ?_;refine ZcE ?_;refine cp (empty45 a.al (by omega)) ?_;refine ZcE ?_;refine Qat 100 (fun i:Nat=>[(1,.ptr 50 0 0),(2,.ptr 51 0 0),(3,sliN f),(4,.ptr 52 0 0),(5,.int .i64 i)]) (fun i=>[(50,.cells 0 [sliN a.al,.int .i64 (a.n:Int),sliN a.ms,egsN a.es]),(51,.cells 0 [.nilsl,.int .i64 0,.nilsl,.nilsl]),(52,.cells 0 [sliN a.al,.int .i64 f.length,.sl 77 0 0 (mks a i f).length 1,.sl 76 0 0 (cPre a f i).length 3]),(76,.cells 0 ((cPre a f i).flatMap edC)),(77,.cells 0 (ints (nz (mks a i f))))]) (fun i=>i<=f.length) (fun i=>f.length-i) 0 0 160 (fun _:Unit=>[(2,.ptr 51 0 0),(4,.ptr 52 0 0)]) (fun _=>[(51,.cells 0 [.nilsl,.int .i64 0,.nilsl,.nilsl]),(52,.cells 0 [sliN a.al,.int .i64 f.length,.sl 77 0 0 (mks a f.length f).length 1,.sl 76 0 0 (cPre a f f.length).length 3]),(76,.cells 0 ((cPre a f f.length).flatMap edC)),(77,.cells 0 (ints (nz (mks a f.length f))))]) (fun _=>True) ?_ (Zaj _) ?_ ?_;·exact⟨[(50,.blk 64 0),(51,.blk 65 0),(52,.blk 72 0),(76,.nil),(77,.nil)],rfl,au0,au10,au9⟩
 ·rintro i hi;by_cases o:i<f.length
  ·obtain⟨s,u⟩:=Qaq o;have y:=Zae u;have r:=QhA (a:=a) u;have H:=@QiM a i f;have C:=QhC a f i;have G:(cPre a f i).length<=1000:=Zay C (Zay (Nat.mul_le_mul (show i<=5 by omega) A) (by decide));have B:=QpD (a:=a) u;have F:=QbH (cPre a f i);have z:=has36 (nz a.ms) s (by simp;omega);rw[Qec,QbF]at z;have n:cPart a f i s 0=cPre a f i:=by simp[cPart]
   have m:cPart a f i s a.al.length=cPre a f (i+1):=by rw[B];unfold cPart cRow;rw[Zau]
   generalize x:mks a (i+1) f=M1 at*;generalize N:mks a i f=M at*;by_cases p:a.ms.contains s=true
   ·rw[if_pos p]at r;rw[p]at z;refine ZcF (ZcI o (QaF u)) ?_;refine ch (Zcs (Zce _) z rfl) ?_;refine ZcE ?_;refine Qat 300 (fun k:Nat=>[(1,.ptr 50 0 0),(2,.ptr 51 0 0),(3,sliN f),(4,.ptr 52 0 0),(5,.int .i64 i),(6,.int .i64 k)]) (fun k=>[(50,.cells 0 [sliN a.al,.int .i64 (a.n:Int),sliN a.ms,egsN a.es]),(51,.cells 0 [.nilsl,.int .i64 0,.nilsl,.nilsl]),(52,.cells 0 [sliN a.al,.int .i64 f.length,.sl 77 0 0 M1.length 1,.sl 76 0 0 (cPart a f i s k).length 3]),(76,.cells 0 ((cPart a f i s k).flatMap edC)),(77,.cells 0 (ints (nz M1)))]) (fun k=>k<=a.al.length) (fun k=>a.al.length-k) 0 2 400 (fun _:Unit=>[(1,.ptr 50 0 0),(2,.ptr 51 0 0),(3,sliN f),(4,.ptr 52 0 0),(5,.int .i64 i)]) (fun _=>[(50,.cells 0 [sliN a.al,.int .i64 (a.n:Int),sliN a.ms,egsN a.es]),(51,.cells 0 [.nilsl,.int .i64 0,.nilsl,.nilsl]),(52,.cells 0 [sliN a.al,.int .i64 f.length,.sl 77 0 0 M1.length 1,.sl 76 0 0 (cPre a f (i+1)).length 3]),(76,.cells 0 ((cPre a f (i+1)).flatMap edC)),(77,.cells 0 (ints (nz M1)))]) (fun _=>True) ?_ (Zaj _) ?_ ?_;·rw[n,r,Zaf,QaH,QaA];exact⟨[(50,.blk 50 0),(51,.blk 51 0),(52,.blk 52 0),(76,.blk 76 0),(77,.blk 77 1)],rfl,au0,au10,au9⟩
    ·rintro k hk;by_cases c:k<a.al.length
     ·obtain⟨ev,d⟩:=Qaq c;have q:=Zae d;have v:=Qj3 (a:=a) (f:=f) (i:=i) (s:=s) d;have E:(cPart a f i s k).length<=2000:=by unfold cPart;rw[Zaf];have h1:=List.length_filterMap_le (fun ev=>(stepA a.es s ev).map fun to=>(i,ev,idx f to)) (a.al.take k);rw[Zas]at h1;omega
      have t:=QbH (cPart a f i s k);have g:cPart a f i s (k+1)=cPart a f i s k++match stepA a.es s ev with|some to=>[(i,ev,idx f to)]|none=>[]:=by unfold cPart;rw[v,ZaP]
      generalize cPart a f i s k=R at*;refine ZcF (ZcK c o (QaF u) (QaF d)) ?_;refine cp (step60 a s ev h.el) ?_;cases b:stepA a.es s ev with|none=>
       have h1:stepI a.es s ev=-1:=by unfold stepI;rw[b]
       rw[b,Zap]at g;rw[h1];refine ZcE ?_;refine⟨k+1,by omega,by omega,?_⟩;rw[g];exact⟨[(50,.blk 50 0),(51,.blk 51 0),(52,.blk 52 0),(76,.blk 76 0),(77,.blk 77 0)],rfl,au0,au10,au9⟩|some to=>
       have h1:stepI a.es s ev=to:=by unfold stepI;rw[b]
       rw[b]at g;have l:=index61 (nz f) to (by simp;omega);rw[QbF,QlN (f3 s y ev q to b)]at l;rw[h1];refine ZcF (ZcI c (QaF d)) ?_;refine cp l ?_;refine ZcF t ?_;refine⟨k+1,by omega,by omega,?_⟩;rw[g,Zaq,Zaf];exact⟨[(50,.blk 50 0),(51,.blk 51 0),(52,.blk 52 0),(76,.blk 76 1),(77,.blk 77 0)],rfl,au0,au10,au9⟩
     have e:k=a.al.length:=by omega
     subst e;refine ZcF c ?_;refine⟨(),?_⟩;rw[m];exact⟨[(50,.blk 50 0),(51,.blk 51 0),(52,.blk 52 0),(76,.blk 76 0),(77,.blk 77 0)],rfl,au0,au10,au9⟩
    rintro _ _;refine ZcE ?_;refine⟨i+1,by omega,by omega,?_⟩;rw[x];exact⟨[(50,.blk 50 0),(51,.blk 51 0),(52,.blk 52 0),(76,.blk 76 0),(77,.blk 77 0)],rfl,au0,au10,au9⟩
   rw[if_neg p,Zap]at r;rw[Zai]at p;rw[p]at z;refine ZcF (ZcI o (QaF u)) ?_;refine ch (Zcs (Zce _) z rfl) ?_;refine ZcE ?_;refine Qat 300 (fun k:Nat=>[(1,.ptr 50 0 0),(2,.ptr 51 0 0),(3,sliN f),(4,.ptr 52 0 0),(5,.int .i64 i),(6,.int .i64 k)]) (fun k=>[(50,.cells 0 [sliN a.al,.int .i64 (a.n:Int),sliN a.ms,egsN a.es]),(51,.cells 0 [.nilsl,.int .i64 0,.nilsl,.nilsl]),(52,.cells 0 [sliN a.al,.int .i64 f.length,.sl 77 0 0 M1.length 1,.sl 76 0 0 (cPart a f i s k).length 3]),(76,.cells 0 ((cPart a f i s k).flatMap edC)),(77,.cells 0 (ints (nz M1)))]) (fun k=>k<=a.al.length) (fun k=>a.al.length-k) 0 2 400 (fun _:Unit=>[(1,.ptr 50 0 0),(2,.ptr 51 0 0),(3,sliN f),(4,.ptr 52 0 0),(5,.int .i64 i)]) (fun _=>[(50,.cells 0 [sliN a.al,.int .i64 (a.n:Int),sliN a.ms,egsN a.es]),(51,.cells 0 [.nilsl,.int .i64 0,.nilsl,.nilsl]),(52,.cells 0 [sliN a.al,.int .i64 f.length,.sl 77 0 0 M1.length 1,.sl 76 0 0 (cPre a f (i+1)).length 3]),(76,.cells 0 ((cPre a f (i+1)).flatMap edC)),(77,.cells 0 (ints (nz M1)))]) (fun _=>True) ?_ (Zaj _) ?_ ?_;·rw[n,r];exact⟨[(50,.blk 50 0),(51,.blk 51 0),(52,.blk 52 0),(76,.blk 76 0),(77,.blk 77 0)],rfl,au0,au10,au9⟩
   ·rintro k hk;by_cases c:k<a.al.length
    ·obtain⟨ev,d⟩:=Qaq c;have q:=Zae d;have v:=Qj3 (a:=a) (f:=f) (i:=i) (s:=s) d;have E:(cPart a f i s k).length<=2000:=by unfold cPart;rw[Zaf];have h1:=List.length_filterMap_le (fun ev=>(stepA a.es s ev).map fun to=>(i,ev,idx f to)) (a.al.take k);rw[Zas]at h1;omega
     have t:=QbH (cPart a f i s k);have g:cPart a f i s (k+1)=cPart a f i s k++match stepA a.es s ev with|some to=>[(i,ev,idx f to)]|none=>[]:=by unfold cPart;rw[v,ZaP]
     generalize cPart a f i s k=R at*;refine ZcF (ZcK c o (QaF u) (QaF d)) ?_;refine cp (step60 a s ev h.el) ?_;cases b:stepA a.es s ev with|none=>
      have h1:stepI a.es s ev=-1:=by unfold stepI;rw[b]
      rw[b,Zap]at g;rw[h1];refine ZcE ?_;refine⟨k+1,by omega,by omega,?_⟩;rw[g];exact⟨[(50,.blk 50 0),(51,.blk 51 0),(52,.blk 52 0),(76,.blk 76 0),(77,.blk 77 0)],rfl,au0,au10,au9⟩|some to=>
      have h1:stepI a.es s ev=to:=by unfold stepI;rw[b]
      rw[b]at g;have l:=index61 (nz f) to (by simp;omega);rw[QbF,QlN (f3 s y ev q to b)]at l;rw[h1];refine ZcF (ZcI c (QaF d)) ?_;refine cp l ?_;refine ZcF t ?_;refine⟨k+1,by omega,by omega,?_⟩;rw[g,Zaq,Zaf];exact⟨[(50,.blk 50 0),(51,.blk 51 0),(52,.blk 52 0),(76,.blk 76 1),(77,.blk 77 0)],rfl,au0,au10,au9⟩
    have e:k=a.al.length:=by omega
    subst e;refine ZcF c ?_;refine⟨(),?_⟩;rw[m];exact⟨[(50,.blk 50 0),(51,.blk 51 0),(52,.blk 52 0),(76,.blk 76 0),(77,.blk 77 0)],rfl,au0,au10,au9⟩
   rintro _ _;refine ZcE ?_;refine⟨i+1,by omega,by omega,?_⟩;rw[x];exact⟨[(50,.blk 50 0),(51,.blk 51 0),(52,.blk 52 0),(76,.blk 76 0),(77,.blk 77 0)],rfl,au0,au10,au9⟩
  have e:i=f.length:=by omega
  subst e;refine ZcF o ?_;refine⟨(),?_⟩;exact⟨[(51,.blk 51 0),(52,.blk 52 0),(76,.blk 76 0),(77,.blk 77 0)],rfl,au0,au10,au9⟩
 rintro _ _;refine ZcE ?_;refine⟨.inr trivial,_,rfl,?_⟩;exact Rn.agg (Zcp (Zb9 (Qaa _)) (Zcp (Zb9 rfl) (Zcp (Rn.fz0 (g:=0) rfl (by simp[ints]) (Zca (Qab _))) (Zcp (Rn.fz0 (g:=0) rfl (QbH _) (Zca (Qaf _))) Zco))))
end Go.AM.SE
namespace Go.AM.SE
open Go.Proofs Go.AM.SD
def u8s(l:List Nat):List AV:=l.map fun x:Nat=>.int .u8 (x:Int)
theorem QaI(l:List Nat):noRefs (u8s l)=true:=Qdp (fun _=>rfl) l
theorem Qf7{l:List Nat}{i x:Nat}(h:l[i]?=some x):(u8s l)[i]?=some (.int .u8 (x:Int)):=by simp[u8s,h]
theorem QpE{k:IntKind}{x y:Nat}(b:0<y):aBin .rem (.int k (x:Int)) (.int k (y:Int))=some (.int k ((x%y:Nat):Int)):=by
 have a:¬(y:Int)=0:=by omega
 simp only[aBin,if_true,if_neg a];rw[Zbg (Zbc _)];norm_cast
def gEd(al:List Nat)(n:Nat)(T:List Nat)(i k:Nat):Option Ed:=if T.getD (i*5+k) 0%(n+2)<n then some (i,al.getD k 0,T.getD (i*5+k) 0%(n+2))else none
def gRow(al:List Nat)(n:Nat)(T:List Nat)(i k:Nat):List Ed:=(List.range k).filterMap (gEd al n T i)
def gPre(al:List Nat)(n:Nat)(T:List Nat)(i:Nat):List Ed:=(List.range i).flatMap fun i=>gRow al n T i al.length
def gPart(al:List Nat)(n:Nat)(T:List Nat)(i k:Nat):List Ed:=gPre al n T i++gRow al n T i k
def gRaw(al:List Nat)(st mk:Nat)(T:List Nat):Aut:=if 250<=st then⟨al,0,[],[]⟩else⟨al,1+st%5,SD.part (1+st%5) mk,gPre al (1+st%5) T (1+st%5)⟩
theorem QqX{al:List Nat}{n:Nat}{T:List Nat}{i k:Nat}{e:Ed}(h:e∈gRow al n T i k):e.1=i/\e.2.2<n:=by
 unfold gRow at h;obtain⟨j,_,a⟩:=ZbF.1 h;unfold gEd at a;split at a;·rename_i h1;cases a;exact⟨rfl,h1⟩
 cases a
theorem Qj4{al:List Nat}{n:Nat}{T:List Nat}{i k:Nat}:gRow al n T i (k+1)=gRow al n T i k++match gEd al n T i k with|some e=>[e]|none=>[]:=by unfold gRow;rw[ZaI,List.filterMap_append];congr 1;cases e:gEd al n T i k<;>simp[e]
theorem QhD{al:List Nat}{n:Nat}{T:List Nat}{i k:Nat}:(gRow al n T i k).length<=k:=by unfold gRow;exact Zay (List.length_filterMap_le _ _) (by simp)
theorem QhE{al:List Nat}{n:Nat}{T:List Nat}(a:al.length<=5):∀i,(gPre al n T i).length<=i*5|0=>by simp[gPre]|i+1=>by have h1:=QhE (n:=n) (T:=T) a i;have b:=@QhD al n T i al.length;unfold gPre at h1⊢;rw[ZaI,Zaq,Zaf,Zbb,Zax,ZbZ,Zap];omega
theorem QpF{al:List Nat}{n:Nat}{T:List Nat}{i:Nat}:gPre al n T (i+1)=gPart al n T i al.length:=by unfold gPart gPre;rw[ZaI,Zaq,Zax,ZbZ,Zap]
theorem Qfc{al:List Nat}{st mk:Nat}{T:List Nat}(a:al.length<=5):Raw (gRaw al st mk T):=by
 unfold gRaw;split;·exact⟨by simp,by simp,by simp,by dsimp only;omega,by simp⟩
 have b:1+st%5<=5:=by omega
 refine⟨fun e he=>?_,b,?_,by dsimp only;omega,?_⟩;·unfold gPre at he;obtain⟨i,hi,he⟩:=Zbt.1 he;have:=Zat.1 hi;obtain⟨h1,c⟩:=QqX he;exact⟨by rw[h1];exact this,c⟩
 ·have :=QhE (n:=1+st%5) (T:=T) a (1+st%5);dsimp only;omega
 have :=@Qdf (1+st%5) mk;dsimp only;omega
def mkA(al:List Nat)(st mk:Nat)(T:List Nat):Aut:=canon (gRaw al st mk T)
theorem QsY{al:List Nat}{st mk:Nat}{T:List Nat}(f:al.Pairwise (·<·))(b:∀x∈al,x<5):WfA (mkA al st mk T):=by
 have a:al.length<=5:=Qbq f b;have c:=Qfc (st:=st) (mk:=mk) (T:=T) a;have d:(gRaw al st mk T).al=al:=by unfold gRaw;split<;>rfl
 exact QqH (by rw[d];exact f) (by rw[d];exact fun x g=>by have:=b x g;omega) (by have:=c.n5;omega) c.esn
abbrev grV(st mk:Nat)(T:List Nat):AV:=.agg (.int .u8 (st:Int)::.int .u8 (mk:Int)::u8s T)
theorem _root_.Go.AM.au11{p:Prop}(h:p:=by repeat'(first|exact Zci|(refine Zca ?_;first|rfl|(simp only[noRef,noRefs,Qag,Zad,Zac,Zah,Qab,QaI,Qai,Qaf,Qal,Qao,Qau,Qah,Qan,Qaa,Qap,Qaj,Qak,Qam,Qas];done))|exact Zct rfl|exact Zco|exact(True.intro:RnM _ _ _ [] [])|refine Zcp ?_ ?_|(refine Zb9 ?_;first|rfl|(simp only[noRef,noRefs,Qag,Zad,Zac,Zah,Qab,QaI,Qai,Qaf,Qal,Qao,Qau,Qah,Qan,Qaa,Qap,Qaj,Qak,Qam,Qas];done))|exact Rn.x1 rfl rfl|exact Rn.x2 rfl rfl|exact Rn.x3 rfl rfl|exact Rn.x4 rfl rfl|exact Rn.x5 rfl|exact Rn.x6 rfl|exact Rn.x7 rfl|refine Zck rfl rfl ?_|refine Zcj rfl rfl rfl ?_ ?_|refine Zcl rfl rfl rfl ?_ ?_|refine Zcm rfl rfl ?_ ?_|refine Zcn rfl rfl ?_ ?_)):p:=h
theorem _root_.Go.AM.au12{p:Prop}(h:p:=by repeat(first|exact Zcg|(refine Zch ?_ ?_;·(first|exact Rn.any|exact Rn.x1 rfl rfl|exact Rn.x2 rfl rfl|exact Rn.x3 rfl rfl|exact Rn.x4 rfl rfl|exact Rn.x5 rfl|exact Rn.x6 rfl|exact Rn.x7 rfl|(refine Rn.slot ?_ ?_;(first|rfl|(rw[ZaO];rfl));(first|rfl|(simp only[noRef,noRefs,Qag,Zad,Zac,Zah,Qab,QaI,Qai,Qaf,Qal,Qao,Qau,Qah,Qan,Qaa,Qap,Qaj,Qak,Qam,Qas];done)))|(refine Rn.fn ?_ ?_<;>(repeat'(first|exact Zco|refine Zcp ?_ ?_|exact Zb9 rfl|exact Rn.x6 rfl|exact Rn.x2 rfl rfl|exact Rn.x5 rfl|exact Rn.x1 rfl rfl))))))):p:=h
theorem Make32(al:List Nat)(st mk:Nat)(T:List Nat)(hs:al.Pairwise (·<·))(Y:∀x∈al,x<5)(s:st<256)(V:mk<256)(hT:T.length=25)(z:∀x∈T,x<256):PSpec Tryz.prog 185 [sliN al,grV st mk T] (aV (mkA al st mk T)):=by
 have B:al.length<=5:=Qbq hs Y;have U:(u8s T).length=25:=by simp[u8s,hT]
 have h:=canon46 (gRaw al st mk T) (Qfc B);refine Zcb 40 ok185 rfl (by(try simp only[noRefs,QaI,Qak,Qam,Qab,Qai,Qaf,Qal,Qao,Qah,noRef,Zad,Zac])<;>rfl) (Qde _) ?_;unfold mkA;by_cases Q:250<=st
 ·have v:(250:Int)<=(st:Int):=by omega
  have H:gRaw al st mk T=⟨al,0,[],[]⟩:=if_pos Q;have hc:canon (gRaw al st mk T)=⟨al,0,[],[]⟩:=by rw[H];rfl
  rw[hc];unfold s185;refine ZcF v ?_;refine cp (empty45 al (by omega)) ?_;refine ZcE ?_;refine⟨.inr trivial,_,rfl,?_⟩;exact Rn.agg (Zcp (Zb9 (Qaa _)) (Zcp (Zb9 rfl) (Zcp Rn.nilK (Zcp Rn.nilK Zco))))
 have v:¬(250:Int)<=(st:Int):=by omega
 have H:gRaw al st mk T=⟨al,1+st%5,SD.part (1+st%5) mk,gPre al (1+st%5) T (1+st%5)⟩:=if_neg Q;rw[H]at h⊢;have N:1+st%5<=5:=by omega
 obtain⟨n,X⟩:∃n,n=1+st%5:=⟨_,rfl⟩;rw[<-X]at H h N⊢;have J:(1:Int)+((st%5:Nat):Int)=(n:Int):=by omega
 unfold s185;refine ZcF v ?_;refine cp (empty45 al (by omega)) ?_;have L:(st:Int).tmod 5=((st%5:Nat):Int):=by rw[Zbg (Zbc _)];norm_cast
 refine ZcF (ZcI L J) ?_;refine Qat 100 (fun i:Nat=>[(0,sliN al),(3,.ptr 50 0 0),(4,.ptr 51 0 0),(5,.ptr 52 0 0),(6,.int .i64 i)]) (fun i=>[(50,.cells 0 (.int .u8 (st:Int)::.int .u8 (mk:Int)::u8s T)),(51,.cells 0 [.nilsl,.int .i64 0,.nilsl,.nilsl]),(52,.cells 0 [sliN al,.int .i64 (n:Int),.sl 77 0 0 (SD.part i mk).length 1,.sl 76 0 0 (gPre al n T i).length 3]),(76,.cells 0 ((gPre al n T i).flatMap edC)),(77,.cells 0 (ints (nz (SD.part i mk))))]) (fun i=>i<=n) (fun i=>n-i) 0 0 160 (fun _:Unit=>[(4,.ptr 51 0 0),(5,.ptr 52 0 0)]) (fun _=>[(51,.cells 0 [.nilsl,.int .i64 0,.nilsl,.nilsl]),(52,.cells 0 [sliN al,.int .i64 (n:Int),sliN (SD.part n mk),egsN (gPre al n T n)])]) (fun _=>True) ?_ (Zaj _) ?_ ?_;·exact⟨[(50,.blk 40 0),(51,.blk 41 0),(52,.blk 47 0),(76,.nil),(77,.nil)],rfl,au0,au11,au12⟩
 ·rintro i hi;by_cases y:i<n
  ·have r:=Qdx (n:=n) (b:=mk) (i:=i);have Z:=@Qdf i mk;have hgl:=QhE (n:=n) (T:=T) B i;have A:gPart al n T i 0=gPre al n T i:=by simp[gPart,gRow]
   have G:=QpF (al:=al) (n:=n) (T:=T) (i:=i);have S:=QbH (gPre al n T i);generalize F:SD.part (i+1) mk=M1 at*;generalize hM:SD.part i mk=M at*;by_cases q:mk.testBit i=true
   ·rw[if_pos q]at r;have I:=QdO.2 q;simp(disch:=first|omega|(simp only[lenW]<;>omega))only[y,QcG (k:=.u8) (show i<=8 by omega),QcH,I,wW,wV,simprocAttr];refine Qat 300 (fun k:Nat=>[(0,sliN al),(3,.ptr 50 0 0),(4,.ptr 51 0 0),(5,.ptr 52 0 0),(6,.int .i64 i),(7,.int .i64 k)]) (fun k=>[(50,.cells 0 (.int .u8 (st:Int)::.int .u8 (mk:Int)::u8s T)),(51,.cells 0 [.nilsl,.int .i64 0,.nilsl,.nilsl]),(52,.cells 0 [sliN al,.int .i64 (n:Int),.sl 77 0 0 M1.length 1,.sl 76 0 0 (gPart al n T i k).length 3]),(76,.cells 0 ((gPart al n T i k).flatMap edC)),(77,.cells 0 (ints (nz M1)))]) (fun k=>k<=al.length) (fun k=>al.length-k) 0 2 400 (fun _:Unit=>[(0,sliN al),(3,.ptr 50 0 0),(4,.ptr 51 0 0),(5,.ptr 52 0 0),(6,.int .i64 i)]) (fun _=>[(50,.cells 0 (.int .u8 (st:Int)::.int .u8 (mk:Int)::u8s T)),(51,.cells 0 [.nilsl,.int .i64 0,.nilsl,.nilsl]),(52,.cells 0 [sliN al,.int .i64 (n:Int),.sl 77 0 0 M1.length 1,.sl 76 0 0 (gPre al n T (i+1)).length 3]),(76,.cells 0 ((gPre al n T (i+1)).flatMap edC)),(77,.cells 0 (ints (nz M1)))]) (fun _=>True) ?_ (Zaj _) ?_ ?_;·rw[A,r,Zaf,QaH,QaA];exact⟨[(50,.blk 50 0),(51,.blk 51 0),(52,.blk 52 0),(76,.blk 76 0),(77,.blk 77 1)],rfl,au0,au11,au12⟩
    ·rintro k hk;by_cases b:k<al.length
     ·obtain⟨ev,f⟩:=Qaq b;have c:al.getD k 0=ev:=by rw[Zak,f];rfl
      obtain⟨x,u⟩:=Qaq (l:=T) (i:=i*5+k) (by omega);have t:T.getD (i*5+k) 0=x:=by rw[Zak,u];rfl
      have P:=z x (Zae u);have d:(k:Int)<5:=by omega
      have o:(i:Int)<5:=by omega
      have g:(AV.int .u8 (st:Int)::AV.int .u8 (mk:Int)::u8s T)[2+i*5+k]?=some (.int .u8 (x:Int)):=by rw[show 2+i*5+k=(i*5+k)+2 by omega];simpa using Qf7 u
      have m:(x:Int).tmod ((n:Int)+2)=((x%(n+2):Nat):Int):=by rw[Zbg (Zbc _)];norm_cast
      have l:¬(n:Int)+2=0:=by omega
      have O:x%(n+2)<=10:=by have:=Nat.mod_lt x (show 0<n+2 by omega);omega
      have s:=Qj4 (al:=al) (n:=n) (T:=T) (i:=i) (k:=k);have K:=@QhD al n T i k;have a:gPart al n T i (k+1)=gPart al n T i k++match gEd al n T i k with|some e=>[e]|none=>[]:=by unfold gPart;rw[s,ZaP]
      have E:(gPart al n T i k).length<=100:=by unfold gPart;rw[Zaf];omega
      have w:=QbH (gPart al n T i k);unfold gEd at a;rw[t,c]at a;generalize gPart al n T i k=R at*;by_cases p:x%(n+2)<n;·rw[if_pos p]at a;refine ZcF (ZcP b d o g l m p (QaF f) w) ?_;refine⟨k+1,by omega,by omega,?_⟩;rw[a,Zaq,Zaf];exact⟨[(50,.blk 50 0),(51,.blk 51 0),(52,.blk 52 0),(76,.blk 76 1),(77,.blk 77 0)],rfl,au0,au11,au12⟩
      rw[if_neg p,Zap]at a;refine ZcF (ZcN b d o g l m p) ?_;refine⟨k+1,by omega,by omega,?_⟩;rw[a];exact⟨[(50,.blk 50 0),(51,.blk 51 0),(52,.blk 52 0),(76,.blk 76 0),(77,.blk 77 0)],rfl,au0,au11,au12⟩
     have e:k=al.length:=by omega
     subst e;refine ZcF b ?_;refine⟨(),?_⟩;rw[G];exact⟨[(50,.blk 50 0),(51,.blk 51 0),(52,.blk 52 0),(76,.blk 76 0),(77,.blk 77 0)],rfl,au0,au11,au12⟩
    rintro _ _;refine ZcE ?_;refine⟨i+1,by omega,by omega,?_⟩;rw[F];exact⟨[(50,.blk 50 0),(51,.blk 51 0),(52,.blk 52 0),(76,.blk 76 0),(77,.blk 77 0)],rfl,au0,au11,au12⟩
   rw[if_neg q,Zap]at r;have I:¬((mk/2^i%2:Nat):Int)=1:=fun e=>q (QdO.1 e);simp(disch:=first|omega|(simp only[lenW]<;>omega))only[y,QcG (k:=.u8) (show i<=8 by omega),QcH,I,wW,wV,simprocAttr];refine Qat 300 (fun k:Nat=>[(0,sliN al),(3,.ptr 50 0 0),(4,.ptr 51 0 0),(5,.ptr 52 0 0),(6,.int .i64 i),(7,.int .i64 k)]) (fun k=>[(50,.cells 0 (.int .u8 (st:Int)::.int .u8 (mk:Int)::u8s T)),(51,.cells 0 [.nilsl,.int .i64 0,.nilsl,.nilsl]),(52,.cells 0 [sliN al,.int .i64 (n:Int),.sl 77 0 0 M1.length 1,.sl 76 0 0 (gPart al n T i k).length 3]),(76,.cells 0 ((gPart al n T i k).flatMap edC)),(77,.cells 0 (ints (nz M1)))]) (fun k=>k<=al.length) (fun k=>al.length-k) 0 2 400 (fun _:Unit=>[(0,sliN al),(3,.ptr 50 0 0),(4,.ptr 51 0 0),(5,.ptr 52 0 0),(6,.int .i64 i)]) (fun _=>[(50,.cells 0 (.int .u8 (st:Int)::.int .u8 (mk:Int)::u8s T)),(51,.cells 0 [.nilsl,.int .i64 0,.nilsl,.nilsl]),(52,.cells 0 [sliN al,.int .i64 (n:Int),.sl 77 0 0 M1.length 1,.sl 76 0 0 (gPre al n T (i+1)).length 3]),(76,.cells 0 ((gPre al n T (i+1)).flatMap edC)),(77,.cells 0 (ints (nz M1)))]) (fun _=>True) ?_ (Zaj _) ?_ ?_;·rw[A,r];exact⟨[(50,.blk 50 0),(51,.blk 51 0),(52,.blk 52 0),(76,.blk 76 0),(77,.blk 77 0)],rfl,au0,au11,au12⟩
   ·rintro k hk;by_cases b:k<al.length
    ·obtain⟨ev,f⟩:=Qaq b;have c:al.getD k 0=ev:=by rw[Zak,f];rfl
     obtain⟨x,u⟩:=Qaq (l:=T) (i:=i*5+k) (by omega);have t:T.getD (i*5+k) 0=x:=by rw[Zak,u];rfl
     have P:=z x (Zae u);have d:(k:Int)<5:=by omega
     have o:(i:Int)<5:=by omega
     have g:(AV.int .u8 (st:Int)::AV.int .u8 (mk:Int)::u8s T)[2+i*5+k]?=some (.int .u8 (x:Int)):=by rw[show 2+i*5+k=(i*5+k)+2 by omega];simpa using Qf7 u
     have m:(x:Int).tmod ((n:Int)+2)=((x%(n+2):Nat):Int):=by rw[Zbg (Zbc _)];norm_cast
     have l:¬(n:Int)+2=0:=by omega
     have O:x%(n+2)<=10:=by have:=Nat.mod_lt x (show 0<n+2 by omega);omega
     have s:=Qj4 (al:=al) (n:=n) (T:=T) (i:=i) (k:=k);have K:=@QhD al n T i k;have a:gPart al n T i (k+1)=gPart al n T i k++match gEd al n T i k with|some e=>[e]|none=>[]:=by unfold gPart;rw[s,ZaP]
     have E:(gPart al n T i k).length<=100:=by unfold gPart;rw[Zaf];omega
     have w:=QbH (gPart al n T i k);unfold gEd at a;rw[t,c]at a;generalize gPart al n T i k=R at*;by_cases p:x%(n+2)<n;·rw[if_pos p]at a;refine ZcF (ZcP b d o g l m p (QaF f) w) ?_;refine⟨k+1,by omega,by omega,?_⟩;rw[a,Zaq,Zaf];exact⟨[(50,.blk 50 0),(51,.blk 51 0),(52,.blk 52 0),(76,.blk 76 1),(77,.blk 77 0)],rfl,au0,au11,au12⟩
     rw[if_neg p,Zap]at a;refine ZcF (ZcN b d o g l m p) ?_;refine⟨k+1,by omega,by omega,?_⟩;rw[a];exact⟨[(50,.blk 50 0),(51,.blk 51 0),(52,.blk 52 0),(76,.blk 76 0),(77,.blk 77 0)],rfl,au0,au11,au12⟩
    have e:k=al.length:=by omega
    subst e;refine ZcF b ?_;refine⟨(),?_⟩;rw[G];exact⟨[(50,.blk 50 0),(51,.blk 51 0),(52,.blk 52 0),(76,.blk 76 0),(77,.blk 77 0)],rfl,au0,au11,au12⟩
   rintro _ _;refine ZcE ?_;refine⟨i+1,by omega,by omega,?_⟩;rw[F];exact⟨[(50,.blk 50 0),(51,.blk 51 0),(52,.blk 52 0),(76,.blk 76 0),(77,.blk 77 0)],rfl,au0,au11,au12⟩
  have e:i=n:=by omega
  subst e;refine ZcF y ?_;refine⟨(),[(51,.blk 51 0),(52,.blk 52 0)],rfl,Zcf,?_,au12⟩;refine Zcj rfl rfl rfl (Zca rfl) (Zcj rfl rfl rfl (Zcp (Zb9 (Qaa _)) (Zcp (Zb9 rfl) (Zcp (Zcq rfl rfl rfl rfl (by simp[ints]) (Zca (Qab _))) (Zcp (Zcq rfl rfl rfl rfl (QbH _) (Zca (Qaf _))) Zco)))) Zci)
 rintro _ _;refine ZcE ?_;refine cp h ?_;generalize canon ⟨al,n,SD.part n mk,gPre al n T n⟩=C at*;refine ZcE ?_;exact⟨.inr trivial,_,rfl,Zb9 (Qde _)⟩
end Go.AM.SE
namespace Go.AM.SO
open Go.Proofs Go.AM.SD Go.AM.SE
def mrg(k:Bool->Bool->Bool):List Nat->List Nat->List Nat|[],[]=>[]|a::A,[]=>(if k true false=true then[a]else[])++mrg k A []|[],b::B=>(if k false true=true then[b]else[])++mrg k [] B|a::A,b::B=>if a<b then(if k true false=true then[a]else[])++mrg k A (b::B)else if b<a then(if k false true=true then[b]else[])++mrg k (a::A) B else(if k true true=true then[a]else[])++mrg k A B termination_by A B=>A.length+B.length
theorem QbL{k:Bool->Bool->Bool}{x:Nat}:∀{A B:List Nat},A.Pairwise (·<·)->B.Pairwise (·<·)->(x∈mrg k A B↔k (decide (x∈A)) (decide (x∈B))=true/\(x∈A\/x∈B))
 |[],[],_,_=>by simp[mrg]|a::A,[],hA,c=>by have d:=QbL (k:=k) (x:=x) (Zav.1 hA).2 c;grind[mrg]|[],b::B,hA,c=>by have d:=QbL (k:=k) (x:=x) hA (Zav.1 c).2;grind[mrg]|a::A,b::B,hA,c=>by
  have h:=(Zav.1 hA).1;have f:=(Zav.1 c).1;rw[mrg];by_cases h1:a<b;·have d:=QbL (k:=k) (x:=x) (Zav.1 hA).2 c;grind
  rw[if_neg h1];by_cases i:b<a;·have d:=QbL (k:=k) (x:=x) hA (Zav.1 c).2;grind
  have g:a=b:=by omega
  subst g;have d:=QbL (k:=k) (x:=x) (Zav.1 hA).2 (Zav.1 c).2;grind termination_by A B=>A.length+B.length
theorem Qcs{k:Bool->Bool->Bool}:∀{A B:List Nat},A.Pairwise (·<·)->B.Pairwise (·<·)->(mrg k A B).Pairwise (·<·)
 |[],[],_,_=>by simp[mrg]|a::A,[],hA,c=>by have h:=Qcs (k:=k) (Zav.1 hA).2 c;grind[Zav,mrg,QbL]|[],b::B,hA,c=>by have h:=Qcs (k:=k) hA (Zav.1 c).2;grind[Zav,mrg,QbL]|a::A,b::B,hA,c=>by
  have l:=(Zav.1 hA).1;have i:=(Zav.1 c).1;rw[mrg];split
  ·rename_i h1;rw[Zba];refine⟨by split<;>simp,Qcs (Zav.1 hA).2 c,fun x d y f=>?_⟩;have d:x=a:=by simp_all
   have:=(QbL (Zav.1 hA).2 c).1 f;grind
  rename_i h1;split
  ·rename_i g;rw[Zba];refine⟨by split<;>simp,Qcs hA (Zav.1 c).2,fun x d y f=>?_⟩;have d:x=b:=by simp_all
   have:=(QbL hA (Zav.1 c).2).1 f;grind
  rename_i g;have m:a=b:=by omega
  subst m;rw[Zba];refine⟨by split<;>simp,Qcs (Zav.1 hA).2 (Zav.1 c).2,fun x d y f=>?_⟩;grind[QbL]termination_by A B=>A.length+B.length
end Go.AM.SO
namespace Go.AM.SO
open Go.Proofs Go.AM.SD Go.AM.SE
theorem iaddr0{a:Nat}{A:List Nat}:aIAddr none 1 (sliN (a::A)) (.int .i64 0)=some (.fptr (ints (nz (a::A)))):=by simp[aIAddr]
theorem head0{a:Nat}{A:List Nat}:(ints (nz (a::A))).head?=some (.int .i64 (a:Int)):=rfl
theorem tk1{b:Nat}{B1:List Nat}:List.take (B1.length+1-1) (List.drop 1 (ints (nz (b::B1))))=ints (nz B1):=by simp only[ints,nz,ZaK,Zbe,Za9];exact ZaS (by simp)
theorem tk2{b:Nat}{B1:List Nat}:List.take B1.length (List.drop 1 (ints (nz (b::B1))))=ints (nz B1):=by simp only[ints,nz,ZaK,Zbe,Za9];exact ZaS (by simp)
theorem union169(a b:Bool):PSpec Tryz.prog 169 [.bool a,.bool b] (.bool (a||b)):=by
 refine Zcc 64 ok169 rfl rfl rfl ?_;cases a;·unfold s169;refine Zcy ?_;exact⟨.inr trivial,_,rfl,by simp[resOf,QaU]⟩
 unfold s169;refine Zcy ?_;exact⟨.inr trivial,_,rfl,by simp[resOf,QaU]⟩
theorem minus242(a b:Bool):PSpec Tryz.prog 242 [.bool a,.bool b] (.bool (a&&!b)):=by
 refine Zcc 64 ok242 rfl rfl rfl ?_;cases a;·unfold s242;refine Zcy ?_;exact⟨.inr trivial,_,rfl,by simp[resOf,QaU]⟩
 unfold s242;refine Zcy ?_;exact⟨.inr trivial,_,rfl,by simp[resOf,QaU]⟩
theorem merge168(K:Nat)(k:Bool->Bool->Bool)(hk:∀a b,PSpec Tryz.prog K [.bool a,.bool b] (.bool (k a b)))(A B:List Nat)(hA:A.length<=1000000)(p:B.length<=1000000):PSpec Tryz.prog 168 [sliN A,sliN B,.fn K [] []] (sliN (mrg k A B)):=by
 refine Zcb 64 ok168 rfl (by(try simp only[noRefs,Qab,Qai,Qaf,Qal,Qah,noRef,Zad,Zac])<;>rfl) (Qaa _) ?_;unfold s168;refine Zcy ?_;refine QaO 120 (fun t:List Nat×List Nat×List Nat=>[(0,sliN t.1),(1,sliN t.2.1),(2,.fn K [] []),(7,.sl 50 0 0 t.2.2.length 1)]) (fun t=>[(50,.cells 0 (ints (nz t.2.2)))]) (fun t=>mrg k A B=t.2.2++mrg k t.1 t.2.1/\t.1.length+t.2.1.length+t.2.2.length<=2000000) (fun t=>t.1.length+t.2.1.length) (A,B,[]) ⟨[(50,.nil)],rfl,au0,au1,au2⟩ ⟨by simp,by simp;omega⟩ ?_;rintro⟨A',B',out⟩⟨hm,g⟩;dsimp only at hm g;rcases A' with _|⟨a,A1⟩<;>rcases B' with _|⟨b,B1⟩;·simp(disch:=first|omega|(simp only[lenW]<;>omega))only[Za1,List.map_nil,wV,simprocAttr];refine⟨.inr trivial,_,rfl,?_⟩;rw[hm,mrg,Zap];exact Rn.fz0 rfl (by simp[ints]) (Zca (Qab _))
 ·have h1:(0:Int)<(B1.length:Int)+1:=by omega
  have f:¬(B1.length:Int)+1=0:=by omega
  simp only[Za1,ZaC]at g;refine Zcz (ZcP @Za1 @ZaC h1 f @iaddr0 @tk1 @tk2 @head0 @ZbD) ?_;refine cp (hk false true) ?_;rw[mrg]at hm;cases c:k false true;·refine Zcy ?_;rw[if_neg (by simp[c]),ZaR]at hm;exact⟨(([]:List Nat),(B1:List Nat),out),by simp<;>omega,⟨hm,by simp;omega⟩,⟨[(50,.blk 50 0)],rfl,au0,au1,au2⟩⟩
  refine Zcy ?_;rw[if_pos c,<-ZaP]at hm;refine⟨(([]:List Nat),(B1:List Nat),out++[b]),by simp<;>omega,⟨hm,by simp;omega⟩,?_⟩;rw[QaH,QaA,Zaf];exact⟨[(50,.blk 50 1)],rfl,au0,au1,au2⟩
 ·have h1:(0:Int)<(A1.length:Int)+1:=by omega
  have f:¬(A1.length:Int)+1=0:=by omega
  simp only[Za1,ZaC]at g;refine Zcz (ZcP @Za1 @ZaC h1 f @iaddr0 @tk1 @tk2 @head0 @ZbD) ?_;refine cp (hk true false) ?_;rw[mrg]at hm;cases c:k true false;·refine Zcy ?_;rw[if_neg (by simp[c]),ZaR]at hm;exact⟨((A1:List Nat),([]:List Nat),out),by simp<;>omega,⟨hm,by simp;omega⟩,⟨[(50,.blk 50 0)],rfl,au0,au1,au2⟩⟩
  refine Zcy ?_;rw[if_pos c,<-ZaP]at hm;refine⟨((A1:List Nat),([]:List Nat),out++[a]),by simp<;>omega,⟨hm,by simp;omega⟩,?_⟩;rw[QaH,QaA,Zaf];exact⟨[(50,.blk 50 1)],rfl,au0,au1,au2⟩
 have h1:(0:Int)<(A1.length:Int)+1:=by omega
 have f:¬(A1.length:Int)+1=0:=by omega
 have n:(0:Int)<(B1.length:Int)+1:=by omega
 have l:¬(B1.length:Int)+1=0:=by omega
 by_cases d:a<b
 ·have i:(a:Int)<=(b:Int):=by omega
  have m:¬(b:Int)<=(a:Int):=by omega
  simp only[Za1,ZaC]at g;refine Zcz (ZcT @Za1 @ZaC h1 f n l i m @iaddr0 @tk1 @tk2 @head0 @ZbD) ?_;refine cp (hk true false) ?_;rw[mrg,if_pos d]at hm;cases c:k true false;·refine Zcy ?_;rw[if_neg (by simp[c]),ZaR]at hm;exact⟨((A1:List Nat),(b::B1:List Nat),out),by simp<;>omega,⟨hm,by simp;omega⟩,⟨[(50,.blk 50 0)],rfl,au0,au1,au2⟩⟩
  refine Zcy ?_;rw[if_pos c,<-ZaP]at hm;refine⟨((A1:List Nat),(b::B1:List Nat),out++[a]),by simp<;>omega,⟨hm,by simp;omega⟩,?_⟩;rw[QaH,QaA,Zaf];exact⟨[(50,.blk 50 1)],rfl,au0,au1,au2⟩
 by_cases h:b<a
 ·have i:¬(a:Int)<=(b:Int):=by omega
  have m:(b:Int)<=(a:Int):=by omega
  simp only[Za1,ZaC]at g;refine Zcz (ZcT @Za1 @ZaC h1 f n l i m @iaddr0 @tk1 @tk2 @head0 @ZbD) ?_;refine cp (hk false true) ?_;rw[mrg,if_neg d,if_pos h]at hm;cases c:k false true;·refine Zcy ?_;rw[if_neg (by simp[c]),ZaR]at hm;exact⟨((a::A1:List Nat),(B1:List Nat),out),by simp<;>omega,⟨hm,by simp;omega⟩,⟨[(50,.blk 50 0)],rfl,au0,au1,au2⟩⟩
  refine Zcy ?_;rw[if_pos c,<-ZaP]at hm;refine⟨((a::A1:List Nat),(B1:List Nat),out++[b]),by simp<;>omega,⟨hm,by simp;omega⟩,?_⟩;rw[QaH,QaA,Zaf];exact⟨[(50,.blk 50 1)],rfl,au0,au1,au2⟩
 have o:a=b:=by omega
 subst o;have i:(a:Int)<=(a:Int):=by omega
 simp only[Za1,ZaC]at g;refine Zcz (ZcS @Za1 @ZaC h1 f n l i @iaddr0 @tk1 @tk2 @head0 @ZbD) ?_;refine cp (hk true true) ?_;rw[mrg,if_neg d,if_neg h]at hm;cases c:k true true;·refine Zcy ?_;rw[if_neg (by simp[c]),ZaR]at hm;exact⟨((A1:List Nat),(B1:List Nat),out),by simp<;>omega,⟨hm,by simp;omega⟩,⟨[(50,.blk 50 0)],rfl,au0,au1,au2⟩⟩
 refine Zcy ?_;rw[if_pos c,<-ZaP]at hm;refine⟨((A1:List Nat),(B1:List Nat),out++[a]),by simp<;>omega,⟨hm,by simp;omega⟩,?_⟩;rw[QaH,QaA,Zaf];exact⟨[(50,.blk 50 1)],rfl,au0,au1,au2⟩
theorem union84(A B:List Nat)(hA:A.length<=1000000)(c:B.length<=1000000):PSpec Tryz.prog 84 [sliN A,sliN B] (sliN (mrg (fun a b=>a||b) A B)):=by refine Zcb 64 ok84 rfl (by(try simp only[noRefs,Qab,Qai,Qaf,Qal,Qah,noRef,Zad,Zac])<;>rfl) (Qaa _) ?_;unfold s84;refine Zcy ?_;refine cp (merge168 169 _ union169 A B hA c) ?_;refine Zcy ?_;exact⟨.inr trivial,_,rfl,Zb9 (Qaa _)⟩
theorem minus219(A B:List Nat)(hA:A.length<=1000000)(c:B.length<=1000000):PSpec Tryz.prog 219 [sliN A,sliN B] (sliN (mrg (fun a b=>a&&!b) A B)):=by refine Zcb 64 ok219 rfl (by(try simp only[noRefs,Qab,Qai,Qaf,Qal,Qah,noRef,Zad,Zac])<;>rfl) (Qaa _) ?_;unfold s219;refine Zcy ?_;refine cp (merge168 242 _ minus242 A B hA c) ?_;refine Zcy ?_;exact⟨.inr trivial,_,rfl,Zb9 (Qaa _)⟩
theorem subset167(A B:List Nat)(hA:A.length<=1000000)(d:B.length<=1000000):PSpec Tryz.prog 167 [sliN A,sliN B] (.bool (decide ((mrg (fun a b=>a&&!b) A B).length=0))):=by
 refine Zcc 64 ok167 rfl (by(try simp only[noRefs,Qab,Qai,Qaf,Qal,Qah,noRef,Zad,Zac])<;>rfl) rfl ?_;unfold s167;refine Zcy ?_;refine cp (minus219 A B hA d) ?_;by_cases h:(mrg (fun a b=>a&&!b) A B).length=0
 ·have c:(((mrg (fun a b=>a&&!b) A B).length:Nat):Int)=0:=by omega
  refine Zcz c ?_;exact⟨.inr trivial,_,rfl,by simp[resOf,QaU,h]⟩
 have c:¬(((mrg (fun a b=>a&&!b) A B).length:Nat):Int)=0:=by omega
 refine Zcz c ?_;exact⟨.inr trivial,_,rfl,by simp[resOf,QaU,h]⟩
end Go.AM.SO
namespace Go.AM.SD
theorem Qim{α:Type}(f:α->Nat):∀{l c:List α},l.Pairwise (fun a b=>f a<f b)->c.Pairwise (fun a b=>f a<f b)->(∀p,p∈l↔p∈c)->l=c
 |[],[],_,_,_=>rfl|[],y::c,_,_,hm=>absurd ((hm y).2 (by simp)) (by simp)|x::l,[],_,_,hm=>absurd ((hm x).1 (by simp)) (by simp)|x::l,y::c,h,g,hm=>by
  rw[Zav]at h g;have d:x=y:=by grind
  subst d;have:l=c:=Qim f h.2 g.2 fun p=>by grind
  rw[this]
theorem uniqE{es:List Ed}(h:es.Pairwise fun x y=>x.1<y.1\/(x.1=y.1/\x.2.1<y.2.1)){e a:Ed}(he:e∈es)(b:a∈es)(h1:e.1=a.1)(f:e.2.1=a.2.1):e=a:=by induction h with|nil=>cases he|cons d _ c=>
 rcases Zaw.1 he with rfl|m1<;>rcases Zaw.1 b with rfl|m2;·rfl
 ·grind
 ·grind
 exact c m1 m2
theorem Qeq{es:List Ed}(h:es.Pairwise fun x y=>x.1<y.1\/(x.1=y.1/\x.2.1<y.2.1)){v ev to:Nat}:stepA es v ev=some to↔((v,ev,to):Ed)∈es:=by
 unfold stepA;constructor;·intro d;cases hf:es.find? fun e=>e.1==v&&e.2.1==ev with|none=>rw[hf]at d;cases d|some e=>rw[hf]at d;cases d;have h1:=List.find?_some hf;simp only[Zab,beq_iff_eq]at h1;have f:=Zbn hf;obtain⟨a,b,c⟩:=e;obtain⟨rfl,rfl⟩:=h1;exact f
 intro hm;cases hf:es.find? fun e=>e.1==v&&e.2.1==ev with|none=>rw[ZbR]at hf;exact absurd (by simp) (hf _ hm)|some e=>have h1:=List.find?_some hf;simp only[Zab,beq_iff_eq]at h1;rw[uniqE h (Zbn hf) hm h1.1 h1.2];rfl
theorem Qnu{a:Aut}(h:WfA a)(v:Nat):sOut a.es (fun _=>true) v=a.al.filterMap fun ev=>(stepA a.es v ev).map fun to=>((v,ev,to):Ed):=by
 refine Qim (fun e:Ed=>e.2.1) ?_ ?_ fun e=>?_;·have h1:(sOut a.es (fun _=>true) v).Pairwise fun x y=>x.1<y.1\/(x.1=y.1/\x.2.1<y.2.1):=h.es.filter _;refine h1.imp_of_mem fun{x y}d g f=>?_;simp_all[QaY]
 ·refine List.Pairwise.filterMap _ (R:=(·<·)) ?_ h.al;simp_all
 rw[QaY,ZbF];constructor;·rintro⟨he,rfl,_⟩;obtain⟨x,y,z⟩:=e;exact⟨y,h.ev _ he,by rw[(Qeq h.es).2 he];rfl⟩
 rintro⟨ev,c,hm⟩;cases b:stepA a.es v ev with|none=>rw[b]at hm;cases hm|some to=>rw[b]at hm;cases hm;exact⟨(Qeq h.es).1 b,rfl,rfl⟩
theorem QqY{a:Aut}(h:WfA a)(i v:Nat)(s:OE):(sRow a.es (fun _=>true) i v s).1=fRow a.al a.es v s.1:=by
 unfold sRow fRow;rw[Qnu h];have key:∀(b:List Nat)(s:OE),((b.filterMap fun ev=>(stepA a.es v ev).map fun to=>((v,ev,to):Ed)).foldl (sEd i) s).1=b.foldl (fEv a.es v) s.1:=by intro b;induction b with|nil=>intro s;rfl|cons ev b c=>intro s;rw[Zbz,ZaH];cases d:stepA a.es v ev with
  |none=>
   have e:fEv a.es v s.1 ev=s.1:=by grind[fEv]
   rw[e];exact c s|some to=>
   have e:fEv a.es v s.1 ev=if s.1.contains to then s.1 else s.1++[to]:=by grind[fEv]
   dsimp only[Option.map_some];rw[ZaH,c,e];congr 1;unfold sEd;split<;>rfl
 simp_all
theorem QpG{a:Aut}(h:WfA a):∀(k i:Nat)(s:OE),(sQ a.es (fun _=>true) k i s).1=fQ a.al a.es k i s.1|0,_,_=>rfl|k+1,i,s=>by unfold sQ fQ;cases s.1[i]? with|none=>rfl|some v=>dsimp only;rw[QpG h k,QqY h]
theorem QqZ{a:Aut}(h:WfA a):(sAll a fun _=>true).1=found a:=by simp_all[sAll,found,QpG]
theorem QmC{a:Aut}(h:WfA a):canon a=restr a (fun _=>true):=by
 have b:=(Qdb (left:=fun _=>true) h).1;have hf:=QqZ h;have he:(sAll a fun _=>true).2=cRows a (found a):=by rw[b.ed,hf];unfold cRows;rw[List.flatMap_def,List.flatMap_def];congr 1;refine ZaY fun i _=>?_;rw[Qnu h];unfold cRow;rw[List.map_filterMap];congr 1;funext ev;rw[Option.map_map];rfl
 simp_all[canon,restr]
end Go.AM.SD
namespace Go.AM.SE
open Go.Proofs Go.AM.SD
theorem shr1{i j:Nat}:aBin .shr (.int .u64 ((i:Int)+(j:Int))) (.int .u64 1)=some (.int .u64 (((i+j)/2:Nat):Int)):=by
 have h:(((i:Int)+(j:Int)).fdiv (2^(min (1:Int).toNat 64)))=(((i+j)/2:Nat):Int):=by rw[show min (1:Int).toNat 64=1 from rfl,Int.fdiv_eq_ediv_of_nonneg _ (by decide)];omega
 show(if(1:Int)<0 then none else some (AV.int .u64 (((i:Int)+(j:Int)).fdiv (2^(min (1:Int).toNat 64)))))=_;rw[if_neg (by decide),h]
def lbN(l:List Nat)(t:Nat):Nat:=l.countP fun x=>decide (x<t)
theorem lb_eq:∀{l:List Nat}{t i:Nat},i<=l.length->(∀j,j<i->l.getD j 0<t)->(∀j,i<=j->j<l.length->¬l.getD j 0<t)->lbN l t=i
 |[],t,i,hi,_,_=>by simp at hi;subst hi;rfl|x::l,t,0,_,_,b=>by unfold lbN;rw[List.countP_eq_zero];intro y g;obtain⟨q,c,a⟩:=QcS g;have:=b q (Zaj _) a;rw[Zak,c]at this;simpa using this|x::l,t,i+1,hi,h1,b=>by
  have h:x<t:=by have:=h1 0 (by omega);simpa using this
  have:=lb_eq (l:=l) (t:=t) (i:=i) (by simpa using hi) (fun j d=>by have:=h1 (j+1) (by omega);simpa using this) (fun j d f=>by have:=b (j+1) (by omega) (by simpa using f);simpa using this);unfold lbN at this⊢;rw[ZbB,this,if_pos (by simpa using h)]
theorem lb_le{l:List Nat}{t:Nat}:lbN l t<=l.length:=List.countP_le_length
theorem Qdh{l:List Nat}(h:l.Pairwise (·<=·)){p q:Nat}(a:p<=q)(b:q<l.length):l.getD p 0<=l.getD q 0:=by
 rw[Zak,Zak,Zal (by omega),Zal b];rcases Nat.lt_or_eq_of_le a with h1|h1;·exact Za7.1 h p q (by omega) b h1
 subst h1;exact ZaJ _
theorem QlO{l:List Nat}(h:l.Pairwise (·<=·)){t i:Nat}(h1:∀j,j<i->l.getD j 0<t)(g:∀j,i<=j->j<l.length->¬l.getD j 0<t):l.contains t=decide (i<l.length/\l.getD i 0=t):=by
 rw[Zb0,decide_eq_true_iff,List.contains_iff_mem];constructor
 ·intro hm;obtain⟨q,c,a⟩:=QcS hm;have f:l.getD q 0=t:=by rw[Zak,c];rfl
  have b:i<=q:=by refine Nat.le_of_not_lt fun d=>?_;have:=h1 q d;omega
  have k:=Qdh h b a;have m:=g i (ZaJ _) (by omega);exact⟨by omega,by omega⟩
 rintro⟨hi,e⟩;rw[<-e,Zak,Zal hi];exact List.getElem_mem hi
theorem nan81(x:Int):PSpec Tryz.prog 227 [.int .i64 x] (.bool false):=by refine Zcc 64 ok227 rfl (by(try simp only[noRefs,QaI,Qak,Qam,Qab,Qai,Qaf,Qal,Qao,Qah,noRef,Zad,Zac])<;>rfl) rfl ?_;unfold s227;refine ZcE ?_;exact⟨.inr trivial,_,rfl,rfl⟩
theorem nan66(x:Int):PSpec Tryz.prog 198 [.int .i64 x] (.bool false):=by refine Zcc 64 ok198 rfl (by(try simp only[noRefs,QaI,Qak,Qam,Qab,Qai,Qaf,Qal,Qao,Qah,noRef,Zad,Zac])<;>rfl) rfl ?_;unfold s198;refine ZcE ?_;exact⟨.inr trivial,_,rfl,rfl⟩
theorem less65(x y:Int):PSpec Tryz.prog 197 [.int .i64 x,.int .i64 y] (.bool (decide (x<y))):=by refine Zcc 64 ok197 rfl (by(try simp only[noRefs,QaI,Qak,Qam,Qab,Qai,Qaf,Qal,Qao,Qah,noRef,Zad,Zac])<;>rfl) rfl ?_;unfold s197;refine ZcE ?_;refine cp (nan81 x) ?_;refine ZcE ?_;exact⟨.inr trivial,_,rfl,rfl⟩
theorem find57(l:List Nat)(t:Nat)(g:l.Pairwise (·<=·))(w:l.length<=1000000):PSpec Tryz.prog 144 [sliN l,.int .i64 (t:Int)] (.tup [.int .i64 (lbN l t:Int),.bool (l.contains t)]):=by
 refine Zcc 64 ok144 rfl (by(try simp only[noRefs,QaI,Qak,Qam,Qab,Qai,Qaf,Qal,Qao,Qah,noRef,Zad,Zac])<;>rfl) rfl ?_;unfold s144;refine ZcE ?_;refine Qat 100 (fun p:Nat×Nat=>[(0,sliN l),(1,.int .i64 (t:Int)),(6,.int .i64 l.length),(7,.int .i64 p.1),(8,.int .i64 p.2)]) (fun _=>[]) (fun p=>p.1<=p.2/\p.2<=l.length/\(∀q,q<p.1->l.getD q 0<t)/\∀q,p.2<=q->q<l.length->¬l.getD q 0<t) (fun p=>p.2-p.1) (0,l.length) 0 140 (fun i:Nat=>[(0,sliN l),(1,.int .i64 (t:Int)),(6,.int .i64 l.length),(7,.int .i64 i)]) (fun _=>[]) (fun i=>i<=l.length/\(∀q,q<i->l.getD q 0<t)/\∀q,i<=q->q<l.length->¬l.getD q 0<t) ?_ ⟨Zaj _,ZaJ _,fun q d=>absurd d (ZaF _),fun q h1 c=>by omega⟩ ?_ ?_;·exact⟨[],rfl,au0,au11,au12⟩
 ·rintro⟨i,j⟩⟨f,r,h1,c⟩;dsimp only at f r h1 c⊢;by_cases a:i<j
  ·obtain⟨k,hk,n,v⟩:∃k:Nat,aBin .shr (.int .u64 ((i:Int)+(j:Int))) (.int .u64 1)=some (.int .u64 (k:Int))/\i<=k/\k<j:=⟨(i+j)/2,shr1,by omega,by omega⟩;have b:k<l.length:=by omega
   have u:l[k]?=some (l.getD k 0):=by rw[Zal b];simp[b]
   refine ZcF (ZcK a hk b (QaF u)) ?_;refine cp (less65 _ _) ?_;by_cases hc:l.getD k 0<t;·rw[decide_eq_true (by omega)];refine ZcE ?_;refine⟨(k+1,j),by dsimp only;omega,⟨by dsimp only;omega,r,fun q d=>?_,c⟩,⟨[],rfl,au0,au11,au12⟩⟩;have:=Qdh g (p:=q) (q:=k) (by dsimp only at d;omega) b;omega
   rw[decide_eq_false (by omega)];refine ZcE ?_;refine⟨(i,k),by dsimp only;omega,⟨n,by dsimp only;omega,h1,fun q d o=>?_⟩,⟨[],rfl,au0,au11,au12⟩⟩;have:=Qdh g (p:=k) (q:=q) d o;omega
  have e:i=j:=by omega
  subst e;refine ZcF a ?_;exact⟨i,⟨r,h1,c⟩,⟨[],rfl,au0,au11,au12⟩⟩
 rintro i⟨hi,h1,c⟩;rw[lb_eq hi h1 c,QlO g h1 c];by_cases a:i<l.length
 ·have s:l[i]?=some (l.getD i 0):=by rw[Zal a];simp[a]
  by_cases he:l.getD i 0=t;·rw[decide_eq_true ⟨a,he⟩];rw[he]at s;refine ZcF (ZcI a (QaF s)) ?_;exact⟨.inr trivial,_,rfl,rfl⟩
  rw[decide_eq_false fun h=>he h.2];generalize l.getD i 0=y at*;have m:¬(y:Int)=(t:Int):=by omega
  refine ZcF (ZcJ a (QaF s) m) ?_;refine cp (nan66 _) ?_;refine ZcE ?_;exact⟨.inr trivial,_,rfl,rfl⟩
 rw[decide_eq_false fun h=>a h.1];refine ZcF a ?_;exact⟨.inr trivial,_,rfl,rfl⟩
end Go.AM.SE
namespace Go.AM.SE
open Go.Proofs Go.AM.SD
abbrev edV(e:Ed):AV:=.agg [.int .i64 (e.1:Int),.int .i64 (e.2.1:Int),.int .i64 (e.2.2:Int)]
theorem QpH(x y:Ed):aEq (.flat true [.i,.i,.i]) true (edV x) (edV y)=some (.bool (!decide (x=y))):=by have:∀n m:Nat,decide ((n:Int)=(m:Int))=decide (n=m):=fun n m=>decide_eq_decide.2 (by omega);obtain⟨a,b,c⟩:=x;obtain⟨g,d,f⟩:=y;simp only[aEq,eqCells,eqCell,if_true];simp only[Zag,Bool.decide_and,this];cases decide (a=g)<;>cases decide (b=d)<;>cases decide (c=f)<;>rfl
theorem eq41(a b:List Int)(o:b.length<=1000000):PSpec Tryz.prog 31 [sli a,sli b] (.bool (decide (a=b))):=by
 refine Zcc 64 ok31 rfl (by(try simp only[noRefs,QaI,Qak,Qam,Qab,Qai,Qaf,Qal,Qao,Qah,noRef,Zad,Zac])<;>rfl) rfl ?_;by_cases f:a.length=b.length
 ·unfold s31;refine ZcF f ?_;refine QaO 100 (fun i:Nat=>[(0,sli a),(1,sli b),(12,.int .i64 b.length),(13,.int .i64 i)]) (fun _=>[]) (fun i=>i<=b.length/\∀j,j<i->a[j]?=b[j]?) (fun i=>b.length-i) 0 ⟨[],rfl,au0,au11,au12⟩ ⟨Zaj _,fun j l=>absurd l (ZaF _)⟩ ?_;rintro i⟨hi,n⟩;by_cases d:i<b.length
  ·obtain⟨x,k⟩:=Qaq (l:=a) (i:=i) (by omega);obtain⟨y,g⟩:=Qaq (l:=b) (i:=i) (by omega);have c:i<a.length:=by omega
   by_cases h:x=y
   ·have m:True:=by trivial
    refine ZcF (ZcM d c (QaZ k) (QaZ g) h m) ?_;refine⟨i+1,by omega,⟨by omega,fun j l=>?_⟩,⟨[],rfl,au0,au11,au12⟩⟩;by_cases e:j=i;·subst e;rw[k,g,h]
    exact n j (by omega)
   have m:True:=by trivial
   refine ZcF (ZcM d c (QaZ k) (QaZ g) h m) ?_;refine⟨.inr trivial,_,rfl,?_⟩;have:a≠b:=fun e=>by subst e;rw[k]at g;cases g;exact h rfl
   simp[resOf,QaU,this]
  have :a=b:=Zbo fun j=>by
   by_cases l:j<i;·exact n j l
   rw[ZaA (by omega),ZaA (by omega)]
  refine ZcF d ?_;exact⟨.inr trivial,_,rfl,by simp[resOf,QaU,this]⟩
 unfold s31;refine ZcF f ?_;have:a≠b:=fun e=>f (by rw[e]);exact⟨.inr trivial,_,rfl,by simp[resOf,QaU,this]⟩
theorem eq55(a b:List Ed)(o:b.length<=10000000):PSpec Tryz.prog 106 [egsN a,egsN b] (.bool (decide (a=b))):=by
 refine Zcc 64 ok106 rfl (by(try simp only[noRefs,QaI,Qak,Qam,Qab,Qai,Qaf,Qal,Qao,Qah,noRef,Zad,Zac])<;>rfl) rfl ?_;by_cases d:a.length=b.length
 ·unfold s106;refine ZcF d ?_;refine QaO 100 (fun i:Nat=>[(0,egsN a),(1,egsN b),(12,.int .i64 b.length),(13,.int .i64 i)]) (fun _=>[]) (fun i=>i<=b.length/\∀j,j<i->a[j]?=b[j]?) (fun i=>b.length-i) 0 ⟨[],rfl,au0,au11,au12⟩ ⟨Zaj _,fun j k=>absurd k (ZaF _)⟩ ?_;rintro i⟨hi,n⟩;by_cases f:i<b.length
  ·obtain⟨x,l⟩:=Qaq (l:=a) (i:=i) (by omega);obtain⟨y,g⟩:=Qaq (l:=b) (i:=i) (by omega);have c:i<a.length:=by omega
   by_cases h:x=y
   ·have m:aEq (.flat true [.i,.i,.i]) true (edV y) (edV y)=some (.bool false):=by rw[QpH];simp
    refine ZcF (ZcM f c (QaJ l) (QaJ g) h m) ?_;refine⟨i+1,by omega,⟨by omega,fun j k=>?_⟩,⟨[],rfl,au0,au11,au12⟩⟩;by_cases e:j=i;·subst e;rw[l,g,h]
    exact n j (by omega)
   have m:aEq (.flat true [.i,.i,.i]) true (edV x) (edV y)=some (.bool true):=by rw[QpH];simp[h]
   refine ZcF (ZcM f c (QaJ l) (QaJ g) h m) ?_;refine⟨.inr trivial,_,rfl,?_⟩;have:a≠b:=fun e=>by subst e;rw[l]at g;cases g;exact h rfl
   simp[resOf,QaU,this]
  have :a=b:=Zbo fun j=>by
   by_cases k:j<i;·exact n j k
   rw[ZaA (by omega),ZaA (by omega)]
  refine ZcF f ?_;exact⟨.inr trivial,_,rfl,by simp[resOf,QaU,this]⟩
 unfold s106;refine ZcF d ?_;have:a≠b:=fun e=>d (by rw[e]);exact⟨.inr trivial,_,rfl,by simp[resOf,QaU,this]⟩
theorem QsZ{a b:List Nat}:decide (nz a=nz b)=decide (a=b):=by
 refine decide_eq_decide.2 ⟨fun h=>?_,fun h=>by rw[h]⟩;have:∀a b:List Nat,nz a=nz b->a=b:=by intro a;induction a with
  |nil=>intro b h;cases b with|nil=>rfl|cons=>simp at h
  |cons x a c=>intro b h;cases b with|nil=>simp at h|cons y b=>simp only[nz,ZaK,List.cons.injEq]at h;rw[c b h.2,show x=y by omega]
 exact this a b h
theorem eq41N(a b:List Nat)(c:b.length<=1000000):PSpec Tryz.prog 31 [sliN a,sliN b] (.bool (decide (a=b))):=by have:=eq41 (nz a) (nz b) (by simpa using c);rw[QbF,QbF,QsZ]at this;exact this
def autB(x y:Aut):Bool:=decide (x.n=y.n)&&(decide (x.al=y.al)&&(decide (x.ms=y.ms)&&decide (x.es=y.es)))
structure AOk(r:Aut):Prop where
 al:r.al.length<=1000000
 ms:r.ms.length<=1000000
 es:r.es.length<=10000000
theorem eq43(x y:Aut)(f:AOk x)(a:AOk y):PSpec Tryz.prog 33 [aV x,aV y] (.bool (autB x y)):=by
 refine Zcc 64 ok33 rfl (by(try simp only[noRefs,QaI,Qak,Qam,Qab,Qai,Qaf,Qal,Qao,Qah,noRef,Zad,Zac])<;>rfl) rfl ?_;have c1:=eq41N x.al y.al a.al;have c2:=eq41N x.ms y.ms a.ms;have c:=eq55 x.es y.es a.es;unfold autB;by_cases h1:x.n=y.n;·rw[decide_eq_true h1,Zah];generalize decide (x.al=y.al)=b at*;generalize decide (x.ms=y.ms)=b2 at*;generalize decide (x.es=y.es)=d at*;unfold s33;refine ZcF h1 ?_;refine cp c1 ?_;cases b with|false=>refine ZcE ?_;exact⟨.inr trivial,_,rfl,rfl⟩|true=>refine ZcE ?_;refine cp c2 ?_;cases b2 with|false=>refine ZcE ?_;exact⟨.inr trivial,_,rfl,rfl⟩|true=>refine ZcE ?_;refine cp c ?_;refine ZcE ?_;exact⟨.inr trivial,_,rfl,rfl⟩
 rw[decide_eq_false h1,Bool.false_and];unfold s33;refine ZcF h1 ?_;exact⟨.inr trivial,_,rfl,rfl⟩
theorem Qj5(x:Aut):autB x x=true:=by simp[autB]
end Go.AM.SE
namespace Go.AM.SE
open Go.Proofs Go.AM.SD
abbrev froms(es:List Ed):List Nat:=es.map (·.1)
theorem Qj6:∀(l:List Ed)(i:Nat),(l.flatMap edC).drop (i*3)=(l.drop i).flatMap edC|l,0=>by simp|[],i+1=>by simp|e::l,i+1=>by rw[Zax,Zbb,Zbe];show List.drop (i*3+3) (_::_::_::l.flatMap edC)=_;rw[Zbe,Zbe,Zbe];exact Qj6 l i
theorem Qj7:∀(l:List Ed)(i:Nat),(l.flatMap edC).take (i*3)=(l.take i).flatMap edC|l,0=>by simp|[],i+1=>by simp|e::l,i+1=>by rw[Zax,Zbb,ZaX,Zax];show List.take (i*3+3) (_::_::_::l.flatMap edC)=_;rw[ZaX,ZaX,ZaX,Qj7 l i];rfl
theorem Qnv{x t:Nat}{l:List Nat}:lbN (x::l) t=lbN l t+if x<t then 1 else 0:=by unfold lbN;rw[ZbB];simp
theorem QiN{l:List Nat}{t:Nat}(h:∀x∈l,t<=x):lbN l t=0:=by unfold lbN;rw[List.countP_eq_zero];intro x a;have:=h x a;simp;omega
theorem QpI:∀{es:List Ed},es.Pairwise (fun a b=>a.1<=b.1)->∀v:Nat,(es.drop (lbN (froms es) v)).take (lbN (froms es) (v+1)-lbN (froms es) v)=sOut es (fun _=>true) v
 |[],_,_=>by simp[sOut]|e::es,h,v=>by
  rw[Zav]at h;have c:=QpI h.2 v;have k:froms (e::es)=e.1::froms es:=rfl;have l:sOut (e::es) (fun _=>true) v=if e.1=v then e::sOut es (fun _=>true) v else sOut es (fun _=>true) v:=by unfold sOut;rw[ZbC];simp
  rw[k,Qnv,Qnv,l];rcases Nat.lt_trichotomy e.1 v with h1|h1|h1;·rw[if_pos h1,if_pos (by omega),if_neg (by omega),Zbe,Nat.add_sub_add_right,c]
  ·have g:lbN (froms es) v=0:=QiN fun x d=>by obtain⟨y,f,rfl⟩:=Zao.1 d;have:=h.1 y f;omega
   rw[g]at c⊢;have m:¬e.1<v:=by omega
   have i2:e.1<v+1:=by omega
   simp only[if_neg m,if_pos i2,if_pos h1,Nat.add_zero,Za9,Nat.sub_zero,ZaX];rw[Za9,Nat.sub_zero]at c;rw[c]
  have g:lbN (froms es) v=0:=QiN fun x d=>by obtain⟨y,f,rfl⟩:=Zao.1 d;have:=h.1 y f;omega
  have i:lbN (froms es) (v+1)=0:=QiN fun x d=>by obtain⟨y,f,rfl⟩:=Zao.1 d;have:=h.1 y f;omega
  rw[g,i]at c⊢;rw[if_neg (by omega),if_neg (by omega),if_neg (by omega)];simpa using c
theorem sub229(e:Ed)(t:Nat)(he:e.1<=1000000)(a:t<=1000000):PSpec Tryz.prog 229 [edV e,.int .i64 (t:Int)] (.int .i64 ((e.1:Int)-(t:Int))):=by refine Zcc 64 ok229 rfl (by(try simp only[noRefs,QaI,Qak,Qam,Qab,Qai,Qaf,Qal,Qao,Qah,noRef,Zad,Zac])<;>rfl) rfl ?_;unfold s229;refine ZcE ?_;exact⟨.inr trivial,_,rfl,rfl⟩
theorem sub230(e:Ed)(t:Nat)(he:e.1<=1000000)(a:t<=1000000):PSpec Tryz.prog 230 [edV e,.int .i64 (t:Int)] (.int .i64 ((e.1:Int)-(t:Int))):=by refine Zcc 64 ok230 rfl (by(try simp only[noRefs,QaI,Qak,Qam,Qab,Qai,Qaf,Qal,Qao,Qah,noRef,Zad,Zac])<;>rfl) rfl ?_;unfold s230;refine ZcE ?_;exact⟨.inr trivial,_,rfl,rfl⟩
theorem find67(es:List Ed)(t:Nat)(u:(froms es).Pairwise (·<=·))(w:∀e∈es,e.1<=1000000)(s:t<=1000000)(A:es.length<=1000000):PSpec Tryz.prog 228 [egsN es,.int .i64 (t:Int),.fn 229 [] []] (.tup [.int .i64 (lbN (froms es) t:Int),.bool ((froms es).contains t)]):=by
 refine Zcc 64 ok228 rfl (by(try simp only[noRefs,QaI,Qak,Qam,Qab,Qai,Qaf,Qal,Qao,Qah,noRef,Zad,Zac])<;>rfl) rfl ?_;have x:(froms es).length=es.length:=by simp
 unfold s228;refine ZcE ?_;refine Qat 100 (fun p:Nat×Nat=>[(0,egsN es),(1,.int .i64 (t:Int)),(2,.fn 229 [] []),(8,.int .i64 es.length),(9,.int .i64 p.1),(10,.int .i64 p.2)]) (fun _=>[]) (fun p=>p.1<=p.2/\p.2<=es.length/\(∀q,q<p.1->(froms es).getD q 0<t)/\∀q,p.2<=q->q<es.length->¬(froms es).getD q 0<t) (fun p=>p.2-p.1) (0,es.length) 0 140 (fun i:Nat=>[(0,egsN es),(1,.int .i64 (t:Int)),(2,.fn 229 [] []),(8,.int .i64 es.length),(9,.int .i64 i)]) (fun _=>[]) (fun i=>i<=es.length/\(∀q,q<i->(froms es).getD q 0<t)/\∀q,i<=q->q<es.length->¬(froms es).getD q 0<t) ?_ ⟨Zaj _,ZaJ _,fun q l=>absurd l (ZaF _),fun q h1 g=>by omega⟩ ?_ ?_;·exact⟨[],rfl,au0,au11,au12⟩
 ·rintro⟨i,j⟩⟨o,r,h1,g⟩;dsimp only at o r h1 g⊢;by_cases c:i<j
  ·obtain⟨k,hk,v,z⟩:∃k:Nat,aBin .shr (.int .u64 ((i:Int)+(j:Int))) (.int .u64 1)=some (.int .u64 (k:Int))/\i<=k/\k<j:=⟨(i+j)/2,shr1,by omega,by omega⟩;have m:k<es.length:=by omega
   obtain⟨e,he⟩:=Qaq m;have n:(froms es).getD k 0=e.1:=by rw[Zak,ZaG,he];rfl
   have f:=w e (Zae he);refine ZcF (ZcK c hk m (QaJ he)) ?_;refine cp (sub229 e t f s) ?_;by_cases hc:e.1<t
   ·have d:(e.1:Int)-(t:Int)<0:=by omega
    refine ZcF d ?_;refine⟨(k+1,j),by dsimp only;omega,⟨by dsimp only;omega,r,fun q l=>?_,g⟩,⟨[],rfl,au0,au11,au12⟩⟩;have:=Qdh u (p:=q) (q:=k) (by dsimp only at l;omega) (by omega);omega
   have d:¬(e.1:Int)-(t:Int)<0:=by omega
   refine ZcF d ?_;refine⟨(i,k),by dsimp only;omega,⟨v,by dsimp only;omega,h1,fun q l y=>?_⟩,⟨[],rfl,au0,au11,au12⟩⟩;have:=Qdh u (p:=k) (q:=q) l (by omega);omega
  have e:i=j:=by omega
  subst e;refine ZcF c ?_;exact⟨i,⟨r,h1,g⟩,⟨[],rfl,au0,au11,au12⟩⟩
 rintro i⟨hi,h1,g⟩;rw[lb_eq (by omega) h1 fun q a b=>g q a (by omega),QlO u h1 fun q a b=>g q a (by omega)];by_cases c:i<es.length
 ·obtain⟨e,he⟩:=Qaq c;have n:(froms es).getD i 0=e.1:=by rw[Zak,ZaG,he];rfl
  have f:=w e (Zae he);rw[n];by_cases hc:e.1=t
  ·rw[decide_eq_true ⟨by omega,hc⟩];have d:(e.1:Int)-(t:Int)=0:=by omega
   refine ZcF (ZcI c (QaJ he)) ?_;refine cp (sub229 e t f s) ?_;refine ZcF d ?_;exact⟨.inr trivial,_,rfl,rfl⟩
  rw[decide_eq_false fun h=>hc h.2];have d:¬(e.1:Int)-(t:Int)=0:=by omega
  refine ZcF (ZcI c (QaJ he)) ?_;refine cp (sub229 e t f s) ?_;refine ZcF d ?_;exact⟨.inr trivial,_,rfl,rfl⟩
 rw[decide_eq_false fun h=>c (by omega)];refine ZcF c ?_;exact⟨.inr trivial,_,rfl,rfl⟩
theorem find67b(es:List Ed)(t:Nat)(u:(froms es).Pairwise (·<=·))(w:∀e∈es,e.1<=1000000)(s:t<=1000000)(A:es.length<=1000000):PSpec Tryz.prog 228 [egsN es,.int .i64 (t:Int),.fn 230 [] []] (.tup [.int .i64 (lbN (froms es) t:Int),.bool ((froms es).contains t)]):=by
 refine Zcc 64 ok228 rfl (by(try simp only[noRefs,QaI,Qak,Qam,Qab,Qai,Qaf,Qal,Qao,Qah,noRef,Zad,Zac])<;>rfl) rfl ?_;have x:(froms es).length=es.length:=by simp
 unfold s228;refine ZcE ?_;refine Qat 100 (fun p:Nat×Nat=>[(0,egsN es),(1,.int .i64 (t:Int)),(2,.fn 230 [] []),(8,.int .i64 es.length),(9,.int .i64 p.1),(10,.int .i64 p.2)]) (fun _=>[]) (fun p=>p.1<=p.2/\p.2<=es.length/\(∀q,q<p.1->(froms es).getD q 0<t)/\∀q,p.2<=q->q<es.length->¬(froms es).getD q 0<t) (fun p=>p.2-p.1) (0,es.length) 0 140 (fun i:Nat=>[(0,egsN es),(1,.int .i64 (t:Int)),(2,.fn 230 [] []),(8,.int .i64 es.length),(9,.int .i64 i)]) (fun _=>[]) (fun i=>i<=es.length/\(∀q,q<i->(froms es).getD q 0<t)/\∀q,i<=q->q<es.length->¬(froms es).getD q 0<t) ?_ ⟨Zaj _,ZaJ _,fun q l=>absurd l (ZaF _),fun q h1 g=>by omega⟩ ?_ ?_;·exact⟨[],rfl,au0,au11,au12⟩
 ·rintro⟨i,j⟩⟨o,r,h1,g⟩;dsimp only at o r h1 g⊢;by_cases c:i<j
  ·obtain⟨k,hk,v,z⟩:∃k:Nat,aBin .shr (.int .u64 ((i:Int)+(j:Int))) (.int .u64 1)=some (.int .u64 (k:Int))/\i<=k/\k<j:=⟨(i+j)/2,shr1,by omega,by omega⟩;have m:k<es.length:=by omega
   obtain⟨e,he⟩:=Qaq m;have n:(froms es).getD k 0=e.1:=by rw[Zak,ZaG,he];rfl
   have f:=w e (Zae he);refine ZcF (ZcK c hk m (QaJ he)) ?_;refine cp (sub230 e t f s) ?_;by_cases hc:e.1<t
   ·have d:(e.1:Int)-(t:Int)<0:=by omega
    refine ZcF d ?_;refine⟨(k+1,j),by dsimp only;omega,⟨by dsimp only;omega,r,fun q l=>?_,g⟩,⟨[],rfl,au0,au11,au12⟩⟩;have:=Qdh u (p:=q) (q:=k) (by dsimp only at l;omega) (by omega);omega
   have d:¬(e.1:Int)-(t:Int)<0:=by omega
   refine ZcF d ?_;refine⟨(i,k),by dsimp only;omega,⟨v,by dsimp only;omega,h1,fun q l y=>?_⟩,⟨[],rfl,au0,au11,au12⟩⟩;have:=Qdh u (p:=k) (q:=q) l (by omega);omega
  have e:i=j:=by omega
  subst e;refine ZcF c ?_;exact⟨i,⟨r,h1,g⟩,⟨[],rfl,au0,au11,au12⟩⟩
 rintro i⟨hi,h1,g⟩;rw[lb_eq (by omega) h1 fun q a b=>g q a (by omega),QlO u h1 fun q a b=>g q a (by omega)];by_cases c:i<es.length
 ·obtain⟨e,he⟩:=Qaq c;have n:(froms es).getD i 0=e.1:=by rw[Zak,ZaG,he];rfl
  have f:=w e (Zae he);rw[n];by_cases hc:e.1=t
  ·rw[decide_eq_true ⟨by omega,hc⟩];have d:(e.1:Int)-(t:Int)=0:=by omega
   refine ZcF (ZcI c (QaJ he)) ?_;refine cp (sub230 e t f s) ?_;refine ZcF d ?_;exact⟨.inr trivial,_,rfl,rfl⟩
  rw[decide_eq_false fun h=>hc h.2];have d:¬(e.1:Int)-(t:Int)=0:=by omega
  refine ZcF (ZcI c (QaJ he)) ?_;refine cp (sub230 e t f s) ?_;refine ZcF d ?_;exact⟨.inr trivial,_,rfl,rfl⟩
 rw[decide_eq_false fun h=>c (by omega)];refine ZcF c ?_;exact⟨.inr trivial,_,rfl,rfl⟩
theorem out58(a:Aut)(v:Nat)(h:WfA a)(b:a.es.length<=1000000)(m:v<=100000):PSpec Tryz.prog 199 [aV a,.int .i64 (v:Int)] (egsN (sOut a.es (fun _=>true) v)):=by
 have f:(froms a.es).Pairwise (·<=·):=by rw[Zbx];exact h.srt
 have g:∀e∈a.es,e.1<=1000000:=fun e he=>by have:=(h.esn e he).1;have:=h.n5;omega
 have f1:=find67 a.es v f g (by omega) b;have f2:=find67b a.es (v+1) f g (by omega) b;have k:((v+1:Nat):Int)=(v:Int)+1:=by omega
 rw[k]at f2;have ho:=QpI h.srt v;have i:=lb_le (l:=froms a.es) (t:=v+1);rw[Zaz]at i;have hm:lbN (froms a.es) v<=lbN (froms a.es) (v+1):=List.countP_mono_left fun x _ l=>by simp at l⊢;omega
 generalize(froms a.es).contains v=n at*;generalize(froms a.es).contains (v+1)=b2 at*;generalize lbN (froms a.es) v=p at*;generalize lbN (froms a.es) (v+1)=q at*;have hlen:q-p=(sOut a.es (fun _=>true) v).length:=by rw[<-ho,Zas,Za4];omega
 have d:(p:Int)<=(q:Int):=by omega
 have c:(q:Int)<=(a.es.length:Int):=by omega
 refine Zcb 64 ok199 rfl (by(try simp only[noRefs,QaI,Qak,Qam,Qab,Qai,Qaf,Qal,Qao,Qah,noRef,Zad,Zac])<;>rfl) (Qaj _) ?_;unfold s199;refine ZcE ?_;refine cp f1 ?_;refine ZcE ?_;refine cp f2 ?_;refine ZcF (ZcI d c) ?_;refine⟨.inr trivial,_,rfl,?_⟩;rw[Qj6,Qj7,ho,hlen];exact Zb9 (Qaj _)
end Go.AM.SE
namespace Go.AM.SE
open Go.Proofs Go.AM.SD
abbrev rsA(a:Aut):List AV:=[sliN a.al,.int .i64 (a.n:Int),sliN a.ms,egsN a.es]
abbrev rsN:List AV:=[.nilsl,.int .i64 0,.nilsl,.nilsl]
end Go.AM.SE
namespace Go.AM.SE
open Go.Proofs Go.AM.SD
def pl(n:Nat)(o:List Nat):List Int:=(List.range n).map fun x=>if o.contains x then((SD.idx o x:Nat):Int)else-1
theorem Qin{n:Nat}{o:List Nat}:(pl n o).length=n:=by simp[pl]
theorem Qio{n:Nat}{o:List Nat}{x:Nat}(a:x<n):(pl n o).getD x 0=if o.contains x then((SD.idx o x:Nat):Int)else-1:=by unfold pl;rw[Zak,ZaG,Zbq a];rfl
theorem QpJ{n:Nat}{o:List Nat}{x:Nat}(b:x∉o):(pl n o).set x (o.length:Int)=pl n (o++[x]):=by
 refine List.ext_getElem (by simp[pl]) fun j h1 a=>?_;have d:j<n:=by simpa[pl]using a
 rw[List.getElem_set];simp only[pl,List.getElem_map,List.getElem_range];by_cases e:x=j;·subst e;rw[if_pos rfl,if_pos (by simp),SD.QdN b]
 rw[if_neg e];by_cases hm:j∈o;·rw[if_pos (by simpa using hm),if_pos (by simp[hm]),SD.Qc9 hm]
 have c:¬j=x:=fun h=>e h.symm;rw[if_neg (by simpa using hm),if_neg (by simp[hm,c])]
theorem Qq0{n:Nat}(c:0<n):(List.replicate n (-1:Int)).set 0 0=pl n [0]:=by
 refine List.ext_getElem (by simp[pl]) fun j h1 a=>?_;have d:j<n:=by simpa[pl]using a
 rw[List.getElem_set];simp only[pl,List.getElem_map,List.getElem_range,List.getElem_replicate];by_cases e:0=j;·subst e;rw[if_pos rfl,if_pos (by simp)];rfl
 have b:¬j=0:=fun h=>e h.symm;rw[if_neg e,if_neg (by simp[b])]
abbrev cnB(a:Aut)(m e:Nat):List AV:=[.sl 83 0 0 a.al.length 1,.int .i64 0,.sl 77 0 0 m 1,.sl 76 0 0 e 3]
abbrev tru:Nat->Bool:=fun _=>true
theorem canonical44(a:Aut)(h:WfA a)(X:a.es.length<=1000000):PSpec Tryz.prog 150 [aV a] (aV (restr a tru)):=by
 have hn5:=h.n5;have hal:a.al.length<=32:=QaT 32 a.al (by rw[ZaL];exact h.al.imp fun h=>by omega) h.al5;have hml:a.ms.length<=a.n:=QaT a.n a.ms h.nd h.msn;have N:a.ms.Pairwise (·<=·):=h.ms.imp fun h=>by omega
 have T:(a.n:Int)<=140737488355328:=by omega
 have R:(8:Int)*(a.n:Int)<=140737488355328:=by omega
 refine Zcb 40 ok150 rfl (by(try simp only[noRefs,QaI,Qak,Qam,Qab,Qai,Qaf,Qal,Qao,Qah,noRef,Zad,Zac])<;>rfl) (Qde _) ?_;unfold s150;refine ZcE ?_;refine ch (HSpec.of_O (b:=83) (by(try simp only[noRefs,QaI,Qak,Qam,Qab,Qai,Qaf,Qal,Qao,Qah,noRef,Zad,Zac])<;>rfl) (clone56 a.al (by omega)) (by repeat(first|exact Fresh.e|exact Fresh.le (by assumption) (by omega)|refine Fresh.set ?_ (by omega) (by omega))) rfl) ?_;by_cases h0:a.n=0
 ·have K:(a.n:Int)=0:=by omega
  have e:sAll a tru=([],[]):=by unfold sAll;rw[h0];rfl
  have hr:restr a tru=⟨a.al,0,[],[]⟩:=by unfold restr;rw[e];rfl
  refine ZcF K ?_;refine⟨.inr trivial,_,rfl,?_⟩;rw[hr];exact Rn.agg (Zcp (Rn.fz0 (g:=0) rfl (by simp[ints]) (Zca (Qab _))) (Zcp (Zb9 rfl) (Zcp Rn.nilK (Zcp Rn.nilK Zco))))
 have K:¬(a.n:Int)=0:=by omega
 have J:0<a.n:=by omega
 have h0n:(0:Int)<(a.n:Int):=by omega
 refine ZcF (ZcK K T R @Qhz) ?_;refine Qat 100 (fun i:Nat=>[(1,.ptr 50 0 0),(2,.ptr 60 0 0),(3,.ptr 69 0 0),(4,.sl 78 0 0 a.n 1),(24,.int .i64 a.n),(25,.int .i64 i)]) (fun i=>[(50,.cells 0 (rsA a)),(60,.cells 0 rsN),(69,.cells 0 [.sl 83 0 0 a.al.length 1,.int .i64 0,.nilsl,.nilsl]),(83,.cells 0 (ints (nz a.al))),(78,.cells 0 (ints (List.replicate i (-1)++List.replicate (a.n-i) 0)))]) (fun i=>i<=a.n) (fun i=>a.n-i) 0 0 120 (fun _:Unit=>[(1,.ptr 50 0 0),(2,.ptr 60 0 0),(3,.ptr 69 0 0),(4,.sl 78 0 0 a.n 1)]) (fun _=>[(50,.cells 0 (rsA a)),(60,.cells 0 rsN),(69,.cells 0 [.sl 83 0 0 a.al.length 1,.int .i64 0,.nilsl,.nilsl]),(83,.cells 0 (ints (nz a.al))),(78,.cells 0 (ints (List.replicate a.n (-1))))]) (fun _=>True) ?_ (Zaj _) ?_ ?_;·exact⟨[(50,.blk 40 0),(60,.blk 41 0),(69,.blk 46 0),(83,.blk 83 0),(78,.blk 53 0)],rfl,au0,au11,au12⟩
 ·rintro i hi;by_cases k:i<a.n
  ·have h1:i+1<=i+(a.n-i):=by omega
   refine ZcF (ZcK k h1 @Qbo (QjU k)) ?_;exact⟨i+1,by omega,by omega,⟨[(50,.blk 50 0),(60,.blk 60 0),(69,.blk 69 0),(83,.blk 83 0),(78,.blk 78 0)],rfl,au0,au11,au12⟩⟩
  have e:i=a.n:=by omega
  subst e;have e2:List.replicate a.n (-1:Int)++List.replicate (a.n-a.n) 0=List.replicate a.n (-1):=by simp
  refine ZcF k ?_;refine⟨(),?_⟩;rw[e2];exact⟨[(50,.blk 50 0),(60,.blk 60 0),(69,.blk 69 0),(83,.blk 83 0),(78,.blk 78 0)],rfl,au0,au11,au12⟩
 rintro _ _;have r:1<=a.n:=J;have m:=Qq0 J;refine ZcF (ZcK h0n r @Qbo m) ?_;have d:SI a.n a.es tru 0 (([0],[]):OE):=⟨⟨by simp,fun x hx=>by simp at hx;omega⟩,fun _ _=>rfl,Zaj _,fun j v hj=>by omega,by simp⟩;have hq0:sQ a.es tru (a.n+1) 0 ([0],[])=sAll a tru:=by unfold sAll;rw[if_pos (by simp[J])]
 refine Qat 180 (fun t:Nat×OE=>[(1,.ptr 50 0 0),(2,.ptr 60 0 0),(3,.ptr 69 0 0),(4,.sl 78 0 0 a.n 1),(6,.sl 75 0 0 t.2.1.length 1),(7,.int .i64 t.1)]) (fun t=>[(50,.cells 0 (rsA a)),(60,.cells 0 rsN),(69,.cells 0 (cnB a (mks a t.1 t.2.1).length t.2.2.length)),(83,.cells 0 (ints (nz a.al))),(78,.cells 0 (ints (pl a.n t.2.1))),(75,.cells 0 (ints (nz t.2.1))),(76,.cells 0 (t.2.2.flatMap edC)),(77,.cells 0 (ints (nz (mks a t.1 t.2.1))))]) (fun t=>t.1<=a.n/\SI a.n a.es tru t.1 t.2/\t.2.2.length<=t.1*1000000/\sQ a.es tru (a.n+1-t.1) t.1 t.2=sAll a tru) (fun t=>a.n+1-t.1) (0,([0],[])) 2 260 (fun _:Unit=>[(2,.ptr 60 0 0),(3,.ptr 69 0 0),(6,.sl 75 0 0 (sAll a tru).1.length 1)]) (fun _=>[(60,.cells 0 rsN),(69,.cells 0 (cnB a (restr a tru).ms.length (restr a tru).es.length)),(83,.cells 0 (ints (nz a.al))),(75,.cells 0 (ints (nz (sAll a tru).1))),(76,.cells 0 ((restr a tru).es.flatMap edC)),(77,.cells 0 (ints (nz (restr a tru).ms)))]) (fun _=>True) ?_ ⟨Zaj _,d,Zaj _,hq0⟩ ?_ ?_;·dsimp only;have O:mks a 0 [0]=[]:=rfl;rw[O];exact⟨[(50,.blk 50 0),(60,.blk 60 0),(69,.blk 69 0),(83,.blk 83 0),(78,.blk 78 0),(75,.blk 123 0),(76,.nil),(77,.nil)],rfl,au0,au11,au12⟩
 ·rintro⟨i,s⟩⟨hi,d,S,U⟩;dsimp only at hi d S U⊢;have hfl:=d.fi.len;have hile:=d.le;by_cases k:i<s.1.length
  ·obtain⟨v,z⟩:=Qaq k;have hvn:=d.fi.lt v (Zae z);have C:i<a.n:=by omega
   have E:=d.step h.esn z;have L:sQ a.es tru (a.n+1-(i+1)) (i+1) (sRow a.es tru i v s)=sAll a tru:=by rw[<-U,show a.n+1-i=(a.n+1-(i+1))+1 by omega];simp only[sQ,z]
   have B:=fun j=>Qda (n:=a.n) (left:=tru) i ((sOut a.es tru v).take j) s (fun e he=>⟨(h.esn e (QaY.1 (ZaU he)).1).2,rfl⟩) d.fi d.lft;have hol:=Qed a.es tru v;have A:=QhA (a:=a) z;have hmsl:=@QiM a i s.1;have w:mks a (i+1) (sRow a.es tru i v s).1=mks a (i+1) s.1:=by obtain⟨_,_,⟨t,ht⟩,_⟩:=Qda (n:=a.n) (left:=tru) i (sOut a.es tru v) s (fun e he=>⟨(h.esn e (QaY.1 he).1).2,rfl⟩) d.fi d.lft;have ht:(sRow a.es tru i v s).1=s.1++t:=ht;rw[ht,Qns (by omega)]
   have hc:=find57 a.ms v N (by omega);have ho:=out58 a v h X (by omega);generalize hM0:mks a i s.1=M0 at*;generalize hM:mks a (i+1) s.1=M at*;refine ZcF (ZcI k (QbG (nz_at z))) ?_;refine cp hc ?_;by_cases o:a.ms.contains v=true
   ·rw[if_pos o]at A;rw[o];refine ZcF (ZcI k (QbG (nz_at z))) ?_;refine cp ho ?_;refine ZcE ?_;refine Qat 300 (fun j:Nat=>[(1,.ptr 50 0 0),(2,.ptr 60 0 0),(3,.ptr 69 0 0),(4,.sl 78 0 0 a.n 1),(6,.sl 75 0 0 (((sOut a.es tru v).take j).foldl (sEd i) s).1.length 1),(7,.int .i64 i),(63,egsN (sOut a.es tru v)),(64,.int .i64 (sOut a.es tru v).length),(65,.int .i64 j)]) (fun j=>[(50,.cells 0 (rsA a)),(60,.cells 0 rsN),(69,.cells 0 (cnB a M.length (((sOut a.es tru v).take j).foldl (sEd i) s).2.length)),(83,.cells 0 (ints (nz a.al))),(78,.cells 0 (ints (pl a.n (((sOut a.es tru v).take j).foldl (sEd i) s).1))),(75,.cells 0 (ints (nz (((sOut a.es tru v).take j).foldl (sEd i) s).1))),(76,.cells 0 ((((sOut a.es tru v).take j).foldl (sEd i) s).2.flatMap edC)),(77,.cells 0 (ints (nz M)))]) (fun j=>j<=(sOut a.es tru v).length) (fun j=>(sOut a.es tru v).length-j) 0 4 400 (fun _:Unit=>[(1,.ptr 50 0 0),(2,.ptr 60 0 0),(3,.ptr 69 0 0),(4,.sl 78 0 0 a.n 1),(6,.sl 75 0 0 (sRow a.es tru i v s).1.length 1),(7,.int .i64 i)]) (fun _=>[(50,.cells 0 (rsA a)),(60,.cells 0 rsN),(69,.cells 0 (cnB a M.length (sRow a.es tru i v s).2.length)),(83,.cells 0 (ints (nz a.al))),(78,.cells 0 (ints (pl a.n (sRow a.es tru i v s).1))),(75,.cells 0 (ints (nz (sRow a.es tru i v s).1))),(76,.cells 0 ((sRow a.es tru i v s).2.flatMap edC)),(77,.cells 0 (ints (nz M)))]) (fun _=>True) ?_ (Zaj _) ?_ ?_;·rw[A,Zaf,QaH,QaA];exact⟨[(50,.blk 50 0),(60,.blk 60 0),(69,.blk 69 0),(83,.blk 83 0),(78,.blk 78 0),(75,.blk 75 0),(76,.blk 76 0),(77,.blk 77 1)],rfl,au0,au11,au12⟩
    ·rintro j hj;by_cases f:j<(sOut a.es tru v).length
     ·obtain⟨e,he⟩:=Qaq f;have F:=QaY.1 (Zae he);have c:=(h.esn e F.1).2;obtain⟨V,_,_,_,_⟩:=B j;have Y:=V.len;have b:=Qf5 (i:=i) (s:=s) he;have n:=Qcz (i:=i) ((sOut a.es tru v).take j) s;rw[Zas]at n;generalize(((sOut a.es tru v).take j).foldl (sEd i) s)=t at*;have l:=QbH t.2;have hpl:=Qin (n:=a.n) (o:=t.1);have g:=Qio (o:=t.1) c;have y:e.2.2<(pl a.n t.1).length:=by omega
      have r:e.2.2+1<=(pl a.n t.1).length:=by omega
      by_cases hc:e.2.2∈t.1
      ·have H:sEd i t e=(t.1,t.2++[(i,e.2.1,SD.idx t.1 e.2.2)]):=if_pos (by simpa using hc);rw[H]at b;rw[if_pos (by simpa using hc)]at g;have I:¬((SD.idx t.1 e.2.2:Nat):Int)<0:=by omega
       generalize SD.idx t.1 e.2.2=q at*;refine ZcF (ZcN f (QaJ he) c (QaW y) g I l) ?_;refine⟨j+1,by omega,by omega,?_⟩;rw[b,Zaq,Zaf];exact⟨[(50,.blk 50 0),(60,.blk 60 0),(69,.blk 69 0),(83,.blk 83 0),(78,.blk 78 0),(75,.blk 75 0),(76,.blk 76 1),(77,.blk 77 0)],rfl,au0,au11,au12⟩
      have H:sEd i t e=(t.1++[e.2.2],t.2++[(i,e.2.1,t.1.length)]):=if_neg (by simpa using hc);rw[H]at b;rw[if_neg (by simpa using hc)]at g;have m:=QpJ (n:=a.n) hc;have I:(-1:Int)<0:=by decide
      have p:e.2.2<(pl a.n (t.1++[e.2.2])).length:=by rw[Qin];exact c
      have u:(pl a.n (t.1++[e.2.2])).getD e.2.2 0=(t.1.length:Int):=by rw[Qio c,if_pos (by simp),SD.QdN hc]
      refine ZcF (ZcS f (QaJ he) c (QaW y) g I l r @Qbo m (QaW p) u) ?_;refine⟨j+1,by omega,by omega,?_⟩;rw[b,Zaq,Zaf];dsimp only;rw[Zaf,QaH,QaA];exact⟨[(50,.blk 50 0),(60,.blk 60 0),(69,.blk 69 0),(83,.blk 83 0),(78,.blk 78 0),(75,.blk 75 1),(76,.blk 76 1),(77,.blk 77 0)],rfl,au0,au11,au12⟩
     have e:j=(sOut a.es tru v).length:=by omega
     subst e;refine ZcF f ?_;refine⟨(),?_⟩;exact⟨[(50,.blk 50 0),(60,.blk 60 0),(69,.blk 69 0),(83,.blk 83 0),(78,.blk 78 0),(75,.blk 75 0),(76,.blk 76 0),(77,.blk 77 0)],rfl,au0,au11,au12⟩
    rintro _ _;have Q:(sRow a.es tru i v s).2.length=s.2.length+(sOut a.es tru v).length:=Qcz _ _;have P:=Qed a.es tru v;refine ZcE ?_;refine⟨(i+1,sRow a.es tru i v s),by dsimp only;omega,⟨C,E,by dsimp only;omega,L⟩,?_⟩;dsimp only;rw[w];exact⟨[(50,.blk 50 0),(60,.blk 60 0),(69,.blk 69 0),(83,.blk 83 0),(78,.blk 78 0),(75,.blk 75 0),(76,.blk 76 0),(77,.blk 77 0)],rfl,au0,au11,au12⟩
   rw[if_neg o,Zap]at A;rw[Zai]at o;rw[o];refine ZcF (ZcI k (QbG (nz_at z))) ?_;refine cp ho ?_;refine ZcE ?_;refine Qat 300 (fun j:Nat=>[(1,.ptr 50 0 0),(2,.ptr 60 0 0),(3,.ptr 69 0 0),(4,.sl 78 0 0 a.n 1),(6,.sl 75 0 0 (((sOut a.es tru v).take j).foldl (sEd i) s).1.length 1),(7,.int .i64 i),(63,egsN (sOut a.es tru v)),(64,.int .i64 (sOut a.es tru v).length),(65,.int .i64 j)]) (fun j=>[(50,.cells 0 (rsA a)),(60,.cells 0 rsN),(69,.cells 0 (cnB a M.length (((sOut a.es tru v).take j).foldl (sEd i) s).2.length)),(83,.cells 0 (ints (nz a.al))),(78,.cells 0 (ints (pl a.n (((sOut a.es tru v).take j).foldl (sEd i) s).1))),(75,.cells 0 (ints (nz (((sOut a.es tru v).take j).foldl (sEd i) s).1))),(76,.cells 0 ((((sOut a.es tru v).take j).foldl (sEd i) s).2.flatMap edC)),(77,.cells 0 (ints (nz M)))]) (fun j=>j<=(sOut a.es tru v).length) (fun j=>(sOut a.es tru v).length-j) 0 4 400 (fun _:Unit=>[(1,.ptr 50 0 0),(2,.ptr 60 0 0),(3,.ptr 69 0 0),(4,.sl 78 0 0 a.n 1),(6,.sl 75 0 0 (sRow a.es tru i v s).1.length 1),(7,.int .i64 i)]) (fun _=>[(50,.cells 0 (rsA a)),(60,.cells 0 rsN),(69,.cells 0 (cnB a M.length (sRow a.es tru i v s).2.length)),(83,.cells 0 (ints (nz a.al))),(78,.cells 0 (ints (pl a.n (sRow a.es tru i v s).1))),(75,.cells 0 (ints (nz (sRow a.es tru i v s).1))),(76,.cells 0 ((sRow a.es tru i v s).2.flatMap edC)),(77,.cells 0 (ints (nz M)))]) (fun _=>True) ?_ (Zaj _) ?_ ?_;·rw[A];exact⟨[(50,.blk 50 0),(60,.blk 60 0),(69,.blk 69 0),(83,.blk 83 0),(78,.blk 78 0),(75,.blk 75 0),(76,.blk 76 0),(77,.blk 77 0)],rfl,au0,au11,au12⟩
   ·rintro j hj;by_cases f:j<(sOut a.es tru v).length
    ·obtain⟨e,he⟩:=Qaq f;have F:=QaY.1 (Zae he);have c:=(h.esn e F.1).2;obtain⟨V,_,_,_,_⟩:=B j;have Y:=V.len;have b:=Qf5 (i:=i) (s:=s) he;have n:=Qcz (i:=i) ((sOut a.es tru v).take j) s;rw[Zas]at n;generalize(((sOut a.es tru v).take j).foldl (sEd i) s)=t at*;have l:=QbH t.2;have hpl:=Qin (n:=a.n) (o:=t.1);have g:=Qio (o:=t.1) c;have y:e.2.2<(pl a.n t.1).length:=by omega
     have r:e.2.2+1<=(pl a.n t.1).length:=by omega
     by_cases hc:e.2.2∈t.1
     ·have H:sEd i t e=(t.1,t.2++[(i,e.2.1,SD.idx t.1 e.2.2)]):=if_pos (by simpa using hc);rw[H]at b;rw[if_pos (by simpa using hc)]at g;have I:¬((SD.idx t.1 e.2.2:Nat):Int)<0:=by omega
      generalize SD.idx t.1 e.2.2=q at*;refine ZcF (ZcN f (QaJ he) c (QaW y) g I l) ?_;refine⟨j+1,by omega,by omega,?_⟩;rw[b,Zaq,Zaf];exact⟨[(50,.blk 50 0),(60,.blk 60 0),(69,.blk 69 0),(83,.blk 83 0),(78,.blk 78 0),(75,.blk 75 0),(76,.blk 76 1),(77,.blk 77 0)],rfl,au0,au11,au12⟩
     have H:sEd i t e=(t.1++[e.2.2],t.2++[(i,e.2.1,t.1.length)]):=if_neg (by simpa using hc);rw[H]at b;rw[if_neg (by simpa using hc)]at g;have m:=QpJ (n:=a.n) hc;have I:(-1:Int)<0:=by decide
     have p:e.2.2<(pl a.n (t.1++[e.2.2])).length:=by rw[Qin];exact c
     have u:(pl a.n (t.1++[e.2.2])).getD e.2.2 0=(t.1.length:Int):=by rw[Qio c,if_pos (by simp),SD.QdN hc]
     refine ZcF (ZcS f (QaJ he) c (QaW y) g I l r @Qbo m (QaW p) u) ?_;refine⟨j+1,by omega,by omega,?_⟩;rw[b,Zaq,Zaf];dsimp only;rw[Zaf,QaH,QaA];exact⟨[(50,.blk 50 0),(60,.blk 60 0),(69,.blk 69 0),(83,.blk 83 0),(78,.blk 78 0),(75,.blk 75 1),(76,.blk 76 1),(77,.blk 77 0)],rfl,au0,au11,au12⟩
    have e:j=(sOut a.es tru v).length:=by omega
    subst e;refine ZcF f ?_;refine⟨(),?_⟩;exact⟨[(50,.blk 50 0),(60,.blk 60 0),(69,.blk 69 0),(83,.blk 83 0),(78,.blk 78 0),(75,.blk 75 0),(76,.blk 76 0),(77,.blk 77 0)],rfl,au0,au11,au12⟩
   rintro _ _;have Q:(sRow a.es tru i v s).2.length=s.2.length+(sOut a.es tru v).length:=Qcz _ _;have P:=Qed a.es tru v;refine ZcE ?_;refine⟨(i+1,sRow a.es tru i v s),by dsimp only;omega,⟨C,E,by dsimp only;omega,L⟩,?_⟩;dsimp only;rw[w];exact⟨[(50,.blk 50 0),(60,.blk 60 0),(69,.blk 69 0),(83,.blk 83 0),(78,.blk 78 0),(75,.blk 75 0),(76,.blk 76 0),(77,.blk 77 0)],rfl,au0,au11,au12⟩
  have z:s.1[i]?=none:=ZaA (by omega);have G:s=sAll a tru:=by rw[<-U,show a.n+1-i=(a.n-i)+1 by omega];simp only[sQ,z]
  have Z:i=s.1.length:=by omega
  have hmf:mks a i s.1=(restr a tru).ms:=by rw[Z,G];rfl
  have hef:s.2=(restr a tru).es:=by rw[G];rfl
  refine ZcF k ?_;refine⟨(),?_⟩;rw[hmf,hef,<-G];exact⟨[(60,.blk 60 0),(69,.blk 69 0),(83,.blk 83 0),(75,.blk 75 0),(76,.blk 76 0),(77,.blk 77 0)],rfl,au0,au11,au12⟩
 rintro _ _;have hra:(restr a tru).al=a.al:=rfl;have hrn2:(restr a tru).n=(sAll a tru).1.length:=rfl;refine ZcE ?_;refine⟨.inr trivial,_,rfl,?_⟩;exact Rn.agg (Zcp (Rn.fz0 (g:=0) rfl (by simp[ints,hra]) (Zca (Qab _))) (Zcp (Zb9 rfl) (Zcp (Rn.fz0 (g:=0) rfl (by simp[ints]) (Zca (Qab _))) (Zcp (Rn.fz0 (g:=0) rfl (QbH _) (Zca (Qaf _))) Zco))))
end Go.AM.SE
namespace Go.AM.SO
open Go.Proofs Go.AM.SD Go.AM.SE
theorem check112(a:Aut)(h:WfA a)(b:a.es.length<=1000000):PSpec Tryz.prog 112 [aV a] (.int .i64 0):=by have:=check37 (au a) (WfA.auOk h b);rwa[QsR]at this
theorem isCanon60(a:Aut)(h:WfA a)(b:a.es.length<=1000000)(hc:restr a (fun _=>true)=a):PSpec Tryz.prog 60 [aV a] (.bool true):=by have h1:=canonical44 a h b;have c:restr a tru=a:=hc;rw[c]at h1;have f:=h.n5;have g:a.al.length<=32:=QaT 32 a.al (by rw[ZaL];exact h.al.imp fun h=>by omega) h.al5;have i:a.ms.length<=a.n:=QaT a.n a.ms h.nd h.msn;have ho:AOk a:=⟨by omega,by omega,by omega⟩;have d:=eq43 a a ho ho;rw[Qj5]at d;refine Zcc 64 ok60 rfl (by(try simp only[noRefs,Qab,Qai,Qaf,Qal,Qah,noRef,Zad,Zac])<;>rfl) rfl ?_;unfold s60;refine Zcy ?_;refine cp (check112 a h b) ?_;refine Zcy ?_;refine cp h1 ?_;refine Zcy ?_;refine cp d ?_;refine Zcy ?_;exact⟨.inr trivial,_,rfl,rfl⟩
end Go.AM.SO
namespace Go.AM.SP
open Go.Proofs
noncomputable section
def isTrue:AV->Bool|.bool true=>true|_=>false
theorem QpK:∀u,isTrue u=true->u=.bool true:=by
 intro u h;unfold isTrue at h;split at h;·rfl
 cases h
def nameB(s:List UInt8):Bool:=callR ansB noOrc SK.ft.get (exR ansB noOrc SK.ft.get 1000) (.c .pure) 135 [.str s] .e 64 (fun u _ _=>isTrue u)
theorem Qcb{s:List UInt8}(h:nameB s=true):PSpec Tryz.prog 135 [.str s] (.bool true):=QbJ (t:=SK.ft) SK.ft_ok Qc7 (d:=1000) isTrue QpK h
theorem Qs0:PSpec Tryz.prog 135 [.str [97]] (.bool true):=Qcb (by kernel_rfl)
theorem Qs1:PSpec Tryz.prog 135 [.str [98]] (.bool true):=Qcb (by kernel_rfl)
theorem QlP:PSpec Tryz.prog 135 [.str [99]] (.bool true):=Qcb (by kernel_rfl)
theorem Qs2:PSpec Tryz.prog 135 [.str [100]] (.bool true):=Qcb (by kernel_rfl)
theorem Qs3:PSpec Tryz.prog 135 [.str [101]] (.bool true):=Qcb (by kernel_rfl)
theorem QrV:PSpec Tryz.prog 135 [.str [99,48]] (.bool true):=Qcb (by kernel_rfl)
theorem QrW:PSpec Tryz.prog 135 [.str [99,49]] (.bool true):=Qcb (by kernel_rfl)
theorem QrX:PSpec Tryz.prog 135 [.str [99,50]] (.bool true):=Qcb (by kernel_rfl)
theorem QrY:PSpec Tryz.prog 135 [.str [114,48]] (.bool true):=Qcb (by kernel_rfl)
theorem QrZ:PSpec Tryz.prog 135 [.str [114,49]] (.bool true):=Qcb (by kernel_rfl)
end
end Go.AM.SP
namespace Go.AM.SO
open Go.Proofs Go.AM.SD Go.AM.SE
structure Evt where
 c:Bool
 o:Bool
 f:Bool
 flt:Nat
def Evt.Ok(e:Evt):Prop:=e.flt<=4/\(e.flt≠0->e.c=false/\e.o=false)
def evC(i:Nat)(e:Evt):List AV:=[.str [UInt8.ofNat (97+i)],.bool e.c,.bool e.o,.bool e.f,.int .i64 (e.flt:Int)]
abbrev evsC(e:Nat->Evt):List AV:=evC 0 (e 0)++evC 1 (e 1)++evC 2 (e 2)++evC 3 (e 3)++evC 4 (e 4)
abbrev evsV(e:Nat->Evt):AV:=.fsl (evsC e) 5 5
theorem Qs4(e:Nat->Evt){i:Nat}(hi:i<5):((evsC e).drop (i*5)).take 5=evC i (e i):=by
 have:i=0\/i=1\/i=2\/i=3\/i=4:=by omega
 rcases this with rfl|rfl|rfl|rfl|rfl<;>rfl
theorem Qgs(e:Nat->Evt):(evsC e).length=25:=rfl
theorem Qr0{i:Nat}(hi:i<5):PSpec Tryz.prog 135 [.str [UInt8.ofNat (97+i)]] (.bool true):=by
 have:i=0\/i=1\/i=2\/i=3\/i=4:=by omega
 rcases this with rfl|rfl|rfl|rfl|rfl;·exact SP.Qs0
 ·exact SP.Qs1
 ·exact SP.QlP
 ·exact SP.Qs2
 exact SP.Qs3
end Go.AM.SO
namespace Go.AM
variable{P:Program}
def mapS(f:List UInt8->AV)(l:List (List UInt8)):List (AV×AV):=l.map fun x=>(.str x,f x)
def updS(f:List UInt8->AV)(x:List UInt8)(v:AV):List UInt8->AV:=fun y=>if y=x then v else f y
theorem Qf8{x y:List UInt8}:keyEq false [.s] (.str x) (.str y)=some (decide (x=y)):=by simp_all[keyEq,eqCells,eqCell]
theorem Qfd{f:List UInt8->AV}{x:List UInt8}:∀(l:List (List UInt8))(i:Nat),x∉l->aFind false [.s] (.str x) (mapS f l) i=some none|[],_,_=>rfl|y::l,i,a=>by simp only[Zaw,not_or]at a;show(match keyEq false [.s] (.str x) (.str y)with|some true=>_|some false=>_|none=>_)=_;rw[Qf8,decide_eq_false a.1];exact Qfd l (i+1) a.2
theorem Qq1{f:List UInt8->AV}{x:List UInt8}{v:AV}{l:List (List UInt8)}(a:x∉l):mapS f l++[(.str x,v)]=mapS (updS f x v) (l++[x]):=by grind[mapS,updS,ZaY]
theorem Qj8{x:List UInt8}:keyOK false [.s] (.str x)=true:=by unfold keyOK;rw[Qf8]
section
variable{N:NM}{d:Option Nat}{r:List SOper}{dead:List Nat}{fs:List Fr}{n:Nat}{T:Tmps}{h:Heap}{Q:QC}
theorem Qf9{f:List UInt8->AV}{x:List UInt8}{l:List (List UInt8)}{b g:Nat}{z:AV}{ok:Bool}(a:h.get b=some (.map g (mapS f l)))(c:x∉l)(hk:wR P N r dead fs (n+1) (putD T d (if ok then .tup [z,.bool false]else z)) h Q):wM P N (aLookup false [.s] z ok (.map b g) (.str x)) d r dead fs n T h Q:=by refine⟨_,h,?_,hk⟩;simp_all[aLookup,Qj8,HM.entries,HM.run,Qfd]
theorem Qee{f:List UInt8->AV}{x:List UInt8}{l:List (List UInt8)}{b g:Nat}{v:AV}(k:h.get b=some (.map g (mapS f l)))(c:x∉l)(i:b<1099511627775)(hk:wR P N r dead fs (n+1) (putD T d .any) (h.set b (.map g (mapS (updS f x v) (l++[x])))) Q):wM P N (aMapUpd false [.s] (.map b g) (.str x) v) d r dead fs n T h Q:=by
 refine⟨_,_,?_,hk⟩;have m:Nat.beq g g=true:=by simp
 have a:Nat.blt b lim=true:=by simp[Nat.blt];exact i
 unfold aMapUpd;rw[if_pos Qj8];simp only[HM.entries,HM.run,k,m,cond_true,Qfd l 0 c,a,Qq1 c]
end
theorem RnM.mapS{m:Nat}{π:Nat->Option Src}{h:Heap}{f g:List UInt8->AV}:∀{l:List (List UInt8)},(∀x∈l,Rn m π h (f x) (g x))->RnM m π h (mapS f l) (mapS g l)|[],_=>trivial|x::l,hf=>⟨⟨Zb9 rfl,hf x (by simp)⟩,RnM.mapS (l:=l) fun y a=>hf y (by simp[a])⟩
end Go.AM
namespace Go.AM.SO
open Go.Proofs Go.AM.SD Go.AM.SE
def nmL(i:Nat):List (List UInt8):=(List.range i).map fun j=>[UInt8.ofNat (97+j)]
theorem Qq2{i:Nat}:nmL (i+1)=nmL i++[[UInt8.ofNat (97+i)]]:=by unfold nmL;rw[ZaI,ZaN];rfl
theorem Qr1{i:Nat}(hi:i<5):[UInt8.ofNat (97+i)]∉nmL i:=by
 have:i=0\/i=1\/i=2\/i=3\/i=4:=by omega
 rcases this with rfl|rfl|rfl|rfl|rfl<;>decide
abbrev yes:List UInt8->AV:=fun _=>.bool true
theorem QhF{x:List UInt8}:updS yes x (.bool true)=yes:=by funext y;simp[updS]
theorem QpL(e:Nat->Evt):noRefs [evsV e]=true:=rfl
theorem check82(e:Nat->Evt)(he:∀i,i<5->(e i).Ok):PSpec Tryz.prog 82 [evsV e] (.int .i64 0):=by
 refine Zcc 64 ok82 rfl (QpL e) rfl ?_;unfold s82;refine ZcE ?_;refine QaO 100 (fun i:Nat=>[(10,evsV e),(11,.int .i64 5),(12,.int .i64 i),(3,.map 68 0)]) (fun i=>[(68,.map 0 (mapS yes (nmL i)))]) (fun i=>i<=5) (fun i=>5-i) 0 ⟨[(68,.blk 68 0)],rfl,au0,?_,au8⟩ (Zaj _) ?_;·exact Zcl rfl rfl rfl trivial Zci
 rintro i hi;by_cases d:i<5
 ·have a:(i:Int)<5:=by omega
  have g:=Qs4 e d;have m:5<=(List.drop (i*5) (evsC e)).length:=by rw[Za4,Qgs];omega
  have f:evC i (e i)=[.str [UInt8.ofNat (97+i)],.bool (e i).c,.bool (e i).o,.bool (e i).f,.int .i64 ((e i).flt:Int)]:=rfl;obtain⟨o,hc⟩:=he i d;generalize e i=r at g f o hc;obtain⟨u,t,s,b⟩:=r;dsimp only at g f o hc;have c:=Qr1 d;have k:=@Qq2 i;have h:=Qr0 d;generalize UInt8.ofNat (97+i)=ch at f c k h;refine ZcF (ZcK a g m f) ?_;refine cp h ?_;refine ZcE ?_;refine Qf9 rfl c ?_;have n:¬(b:Int)<0:=by omega
  have p:¬4<(b:Int):=by omega
  by_cases q:b=0
  ·have l:(b:Int)=0:=by omega
   refine ZcF (ZcJ n p l) ?_;refine Qee gg c (by omega) ?_;refine ZcF @QhF ?_;refine⟨i+1,by omega,by omega,?_⟩;rw[k];refine⟨[(68,.blk 68 0)],rfl,au0,?_,au8⟩;exact Zcl rfl rfl gg (RnM.mapS fun _ _=>Zb9 rfl) Zci
  have l:¬(b:Int)=0:=by omega
  obtain⟨rfl,rfl⟩:=hc q;refine ZcF (ZcJ n p l) ?_;refine Qee gg c (by omega) ?_;refine ZcF @QhF ?_;refine⟨i+1,by omega,by omega,?_⟩;rw[k];refine⟨[(68,.blk 68 0)],rfl,au0,?_,au8⟩;exact Zcl rfl rfl gg (RnM.mapS fun _ _=>Zb9 rfl) Zci
 have a:¬(i:Int)<5:=by omega
 refine ZcF a ?_;exact⟨.inr trivial,_,rfl,rfl⟩
end Go.AM.SO
namespace Go.AM.SO
open Go.Proofs Go.AM.SD Go.AM.SE
def evOf(b:Nat):Evt:=if 48<=b/\b<52 then⟨false,false,false,b-47⟩else⟨decide (b&&&1=1),decide (b&&&2=2),decide (b&&&4=4),0⟩
theorem Qr2(b:Nat):(evOf b).Ok:=by
 unfold evOf;split;·exact⟨by grind,fun _=>⟨rfl,rfl⟩⟩
 exact⟨by simp_all,fun h=>absurd rfl h⟩
theorem andN(b m:Nat)(a:b<256)(hm:m<256):(BitVec.ofInt 8 (b:Int)&&&BitVec.ofInt 8 (m:Int)).toNat=b&&&m:=by grind
theorem QlQ(b m:Nat)(hm:m<256):b&&&m<256:=Nat.lt_of_le_of_lt Nat.and_le_right hm
theorem QpM{b:Nat}(a:b<256):aBin .and (.int .u8 (b:Int)) (.int .u8 1)=some (.int .u8 ((b&&&1:Nat):Int)):=by have:=andN b 1 a (by omega);have c:=QlQ b 1 (by omega);simp only[aBin,if_true];rw[show IntKind.u8.bits=8 from rfl,show(1:Int)=((1:Nat):Int)from rfl,this,wr_u8 (by omega) (by omega)]
theorem QpN{b:Nat}(a:b<256):aBin .and (.int .u8 (b:Int)) (.int .u8 2)=some (.int .u8 ((b&&&2:Nat):Int)):=by have:=andN b 2 a (by omega);have c:=QlQ b 2 (by omega);simp only[aBin,if_true];rw[show IntKind.u8.bits=8 from rfl,show(2:Int)=((2:Nat):Int)from rfl,this,wr_u8 (by omega) (by omega)]
theorem QpO{b:Nat}(a:b<256):aBin .and (.int .u8 (b:Int)) (.int .u8 4)=some (.int .u8 ((b&&&4:Nat):Int)):=by have:=andN b 4 a (by omega);have c:=QlQ b 4 (by omega);simp only[aBin,if_true];rw[show IntKind.u8.bits=8 from rfl,show(4:Int)=((4:Nat):Int)from rfl,this,wr_u8 (by omega) (by omega)]
def evP(F:List Nat)(i:Nat):List AV:=(List.range i).flatMap fun j=>evC j (evOf (F.getD j 0))
theorem QlR{F:List Nat}{i:Nat}:evP F (i+1)=evP F i++evC i (evOf (F.getD i 0)):=by simp_all[evP,ZaI]
theorem QiO{F:List Nat}:∀{i:Nat},(evP F i).length=i*5|0=>rfl|i+1=>by rw[QlR,Zaf,QiO];simp[evC];omega
end Go.AM.SO
