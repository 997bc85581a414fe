/- Lemmas on the way to ExplainEventsCardSaid. Conditions: none of ours. -/
import Derived.Shelf.SlSortCmp.NoneTotal
import Derived.Test.YtgfnbkngfedlkaaGreatDoorProg
import Derived.KernelRfl
import Derived.Test.YtgfnbkngfedlkaaGreatDoorAmW12
set_option linter.unusedSectionVars false
set_option maxHeartbeats 32000000
set_option maxRecDepth 100000
set_option linter.unusedVariables false
set_option linter.unusedSimpArgs false
set_option linter.unusedSectionVars false
namespace Go.AM
open Go.Proofs Go.Shelf Go.Sort
variable{P:Program}{ρ:Ren}{α:Type}[Inhabited α]
abbrev encI(ci:α->List Int)(x:α):List Value:=(ci x).map (Value.int .i64)
abbrev avI(ci:α->List Int)(x:α):List AV:=(ci x).map (AV.int .i64)
theorem QgS{ok:Okc}{c:Ctx ok}{w:World}:∀{a:List Int}{vs:List Value},VPre c w (a.map (AV.int .i64)) vs->∃r,vs=a.map (Value.int .i64)++r|[],vs,_=>⟨vs,rfl⟩|n::a,vs,h=>by simp only[ZaJ,VPre]at h;obtain⟨v,f,rfl,b,d⟩:=h;obtain⟨r,rfl⟩:=QgS d;simp only[VRel]at b;simp_all
theorem Qe7{ok:Okc}{c:Ctx ok}{w:World}:∀{a:List Int}{r:List Value},VPre c w (a.map (AV.int .i64)) (a.map (Value.int .i64)++r)|[],r=>by simp[VPre]|n::a,r=>by simp only[ZaJ,VPre,Za0];exact⟨_,_,rfl,by simp[VRel],Qe7⟩
theorem QoI(ci:α->List Int)(l:List α):l.flatMap (avI ci)=(l.flatMap ci).map (AV.int .i64):=by rw[List.map_flatMap]
theorem QmO(ci:α->List Int)(l:List α):l.flatMap (encI ci)=(l.flatMap ci).map (Value.int .i64):=by rw[List.map_flatMap]
theorem QhZ{β γ:Type}{f:β->List γ}{k:Nat}(hk:∀x,(f x).length=k)(a:0<k):∀{l:List β}{t:Nat},(l.flatMap f)[t]?=(l[t/k]?).bind fun x=>(f x)[t%k]?
 |[],t=>by simp|x::l,t=>by
  rw[Zay];by_cases h:t<k;·simp_all[ZaT,Nat.div_eq_of_lt,Nat.mod_eq_of_lt]
  rw[ZbP (by rw[hk];omega),hk,QhZ hk a (l:=l)];simp_all[Nat.div_eq_sub_div,Nat.mod_eq_sub_mod]
theorem Qjf{enc:α->List Value}{k:Nat}(hk:∀x,(enc x).length=k)(c:0<k)(l:List α):Go.Sort.flatK enc k l.toArray=(l.flatMap enc).toArray:=by
 refine ext_get! ?_ fun t a=>?_;·simp_all[List.map_const']
 have b:t<l.length*k:=by simpa using a
 have d:t/k<l.length:=by simp_all[Nat.div_lt_iff_lt_mul]
 grind[get_flatK,QhZ]
theorem QlC{F:List Value}{C:Array Value}{o:Nat}(h:o+F.length<=C.size):(putCells id o F.toArray C).toList.drop o=F++C.toList.drop (o+F.length):=by apply ZbA;grind[putCells]
theorem HSpec.sortK{f g b γ:Nat}(L:SlLaysF0.n6 P ρ)(hf:ρ.f 6=f)(B:Callable P f)(k:Nat)(h0:0<k)(aE:∀w,(isAgg (ρ.t 24)).run P w=.ok true w)(zE:∀w,(Go.sizeOf (ρ.t 24)).run P w=.ok k w)(ci:α->List Int)(hk:∀x,(ci x).length=k)(cf:α->α->Int)(hO:SWO (ltOf cf))(eg:∀args w,(callFunc g args).run P w=.ok (.enter g args) w)(X:∀x y w,Calls P g #[.agg (encI ci x).toArray,.agg (encI ci y).toArray] w fun e w'=>e=.returned (.int .i64 (cf x y))/\∃q os',w'=grow (w.drewN q) os')(l:List α)(hl:l.length<4611686018427387904){h:Heap}(hb:h.get b=some (.cells γ (l.flatMap (avI ci))))(hlim:b<1099511627775):∃l':List α,l'.Perm l/\l'.Pairwise (fun x y=>ltOf cf y x=false)/\HSpec P f [.sl b γ 0 l.length k,.fn g [] []] h (.tup []) (h.set b (.cells γ (l'.flatMap (avI ci)))):=by
 obtain⟨a,hd'⟩:∃a,a=pdq (ltOf cf) l.toArray 0 l.length (Lib.bitLen l.length) true true:=⟨_,rfl⟩;have hs:=pdq_sorts (ltOf cf) hO l.toArray 0 l.length (Lib.bitLen l.length) true true (Zah _) (by simp) (Or.inl rfl);rw[<-hd']at hs;obtain⟨⟨hsz,_,s⟩,J⟩:=hs;have V:a.size=l.length:=by simpa using hsz
 have Y:(a.extract 0 l.length).toList=a.toList:=by rw[<-V];simp
 have I:(l.toArray.extract 0 l.length).toList=l:=by simp
 rw[Y,I]at s;have z:∀x,(encI ci x).length=k:=fun x=>by simp[hk]
 have S:∀x,∀v∈encI ci x,v.oneCell'=true:=fun x v hv=>by obtain⟨n,_,rfl⟩:=Zan.1 hv;rfl
 refine⟨a.toList,s,?_,B,?_⟩;·rw[Zbe];intro i j hi hj hij;have:=J i j (Zah _) hij (by simp_all);grind
 intro c w u H ha;have hget:∀x j,(h.set b x).get j=if j=b then some x else h.get j:=fun x j=>Zck h (by simp_all[lim]) j x;obtain⟨v1,v2,hca,R,hv2⟩:∃v1 v2,u.toList=[v1,v2]/\VRel c w (.sl b γ 0 l.length k) v1/\v2=.func (.func g) #[] #[]:=by simp_all[VRels,VRel]
 have Z:u=#[v1,v2]:=Array.toList_inj.1 (by rw[hca]);subst Z hv2;have none:l=[]->∀p cap,v1=.slice p 0 cap->Calls P f #[v1,.func (.func g) #[] #[]] w fun e w'=>∃cv c',e=.returned cv/\Evo c w c' w'/\HRel c' (h.set b (.cells γ (a.toList.flatMap (avI ci)))) w'/\VRel c' w' (.tup []) cv:=by rintro e p cap rfl;have hn:=AnyF.slices_SortFunc_none {L with} p cap (.func (.func g) #[] #[]) w;rw[hf]at hn;refine hn.mono ?_;rintro e1 w'⟨rfl,rfl⟩;refine⟨_,c,rfl,Evo.refl c _,QbS (fun j=>?_) H,by simp[VRel,VRels]⟩;simp_all
 simp only[VRel]at R;rcases R with⟨_,h1,_,rfl⟩|⟨t,base,o,cap,C,e,fr,hp,rfl,hlc,U,T⟩;·simp_all
 by_cases hl0:l.length=0;·simp_all
 obtain⟨ho,hbd⟩:=T.resolve_left (by omega);have ho':base=o:=ho.symm;subst ho';obtain⟨C',e',fr',hcO,K,hfr,hbs,A⟩:=H.here hb hp;rw[U]at K;cases K;have hlen:(l.flatMap ci).length=l.length*k:=by simp[List.length_flatMap,hk,List.map_const',List.sum_replicate_nat]
 have hlen':(a.toList.flatMap ci).length=l.length*k:=by grind
 have hlk:l.length*k<=cap*k:=Zba k hlc;rw[QoI]at A;obtain⟨r,hr⟩:=QgS A;have hfl:Go.Sort.flatK (encI ci) k l.toArray=((l.flatMap ci).map (Value.int .i64)).toArray:=by rw[Qjf z h0,QmO]
 have M:Go.Sort.flatK (encI ci) k a=((a.toList.flatMap ci).map (Value.int .i64)).toArray:=by have:=Qjf z h0 a.toList;rw[QmO]at this;exact this
 have hblk:=QaY U;have hH:HoldsK (encI ci) k w t base l.toArray:=by
  unfold HoldsK;rw[hfl];intro j hj;have hj':j<l.length*k:=by grind
  have hjC:base+j<C.size:=by omega
  refine⟨?_,?_⟩
  ·simp only[World.cell?,U];have h2:C.toList[base+j]?=some (((l.flatMap ci).map (Value.int .i64))[j]'(by omega)):=by rw[<-ZbH,hr,ZaT (by omega),Zal]
   grind
  simp only[World.frozen?,U];have:=hfr (base+j) hjC;grind
 have d:=AnyQ.slices_SortFunc_eq L k aE zE (encI ci) z S cf hO g #[] t base cap l.toArray w eg (fun m os dk _ x y=>X x y _) hH hblk (by simpa using hl);rw[hf]at d;have e0:(base+0:Nat)=base:=rfl;have esz:(l.toArray).size=l.length:=by simp
 rw[esz,<-hd']at d;refine d.mono ?_;rintro e1 w'⟨rfl,n,os,rfl⟩;have G:∀j,j<w.heap.size->(sortWorldK (encI ci) k w t base n a os).heap[j]?=if j=t then some (.cells (putCells id base ((a.toList.flatMap ci).map (Value.int .i64)).toArray C) e fr)else w.heap[j]?:=fun j hj=>by
  unfold sortWorldK putRowK;rw[heap_grow_old _ _ (by grind[putRow,mapBlock,Sort.ahead]),M];show(w.heap.modify t _)[j]?=_;rw[Array.getElem?_modify];by_cases e2:t=j;·subst e2;rw[if_pos rfl,if_pos rfl,U];rfl
  grind
 have N:w.heap.size<=(sortWorldK (encI ci) k w t base n a os).heap.size:=by grind
 have Q:=G t hblk;rw[if_pos rfl]at Q;obtain⟨E,H2⟩:=H.put (w':=sortWorldK (encI ci) k w t base n a os) (b:=b) (cb:=t) (base:=base) (x:=.cells γ (a.toList.flatMap (avI ci))) (by grind[lim]) (fun y hy=>H.later b _ hb y hy) (.inr hp) (.inr ⟨γ,base,⟨_,hb,rfl,fun k=>by simp⟩,hp⟩) rfl rfl rfl N (by omega) (fun j hj hne=>by grind) (fun C2 e2 fr2 h2=>by grind[putCells]) (fun E=>.inr ⟨t,base,_,_,_,by show(if b=b/\γ=γ then _ else _)=_;grind,.inr rfl,Q,by grind[putCells],by grind[putCells],by grind[QlC,QoI,Qe7]⟩);exact⟨_,_,rfl,E,H2,by simp[VRel,VRels]⟩
end Go.AM
namespace Go.Proofs
open Go.Shelf Go.RowKit Go.Lib Go.Sort
def Tryz.QpA:Go.Shelf.Ren:=⟨fun|6=>229|15=>96|14=>272|28=>174|29=>175|20=>297|21=>298|22=>299|23=>300|24=>301|25=>302|26=>303|27=>304|46=>316|47=>234|48=>235|49=>317|50=>318|57=>321|n=>n,fun|22=>94|24=>53|25=>354|3=>3|39=>210|0=>0|53=>298|55=>300|4=>4|46=>292|45=>291|50=>201|5=>5|9=>9|66=>356|70=>360|76=>389|77=>287|n=>n,fun|n=>n⟩
theorem Tryz.sortRm:Go.Proofs.SlLaysF0.n6 Tryz.prog Tryz.QpA:={
 mixed:=by kernel_rfl
 f6:=⟨Tryz.f229.name,by decide,Tryz.func229.trans (congrArg some (by kernel_rfl))⟩
 f14:=⟨Tryz.f272.name,by decide,Tryz.func272.trans (congrArg some (by kernel_rfl))⟩
 f15:=Tryz.func96.trans (congrArg some (by kernel_rfl))
 f20:=⟨Tryz.f297.name,by decide,Tryz.func297.trans (congrArg some (by kernel_rfl))⟩
 f21:=⟨Tryz.f298.name,by decide,Tryz.func298.trans (congrArg some (by kernel_rfl))⟩
 f22:=⟨Tryz.f299.name,by decide,Tryz.func299.trans (congrArg some (by kernel_rfl))⟩
 f23:=⟨Tryz.f300.name,by decide,Tryz.func300.trans (congrArg some (by kernel_rfl))⟩
 f24:=⟨Tryz.f301.name,by decide,Tryz.func301.trans (congrArg some (by kernel_rfl))⟩
 f25:=⟨Tryz.f302.name,by decide,Tryz.func302.trans (congrArg some (by kernel_rfl))⟩
 f26:=⟨Tryz.f303.name,by decide,Tryz.func303.trans (congrArg some (by kernel_rfl))⟩
 f27:=⟨Tryz.f304.name,by decide,Tryz.func304.trans (congrArg some (by kernel_rfl))⟩
 f28:=Tryz.func174.trans (congrArg some (by kernel_rfl))
 f29:=Tryz.func175.trans (congrArg some (by kernel_rfl))
 f46:=⟨Tryz.f316.name,by decide,Tryz.func316.trans (congrArg some (by kernel_rfl))⟩
 f47:=Tryz.func234.trans (congrArg some (by kernel_rfl))
 f48:=Tryz.func235.trans (congrArg some (by kernel_rfl))
 f49:=⟨Tryz.f317.name,by decide,Tryz.func317.trans (congrArg some (by kernel_rfl))⟩
 f50:=⟨Tryz.f318.name,by decide,Tryz.func318.trans (congrArg some (by kernel_rfl))⟩
 f57:=⟨Tryz.f321.name,by decide,Tryz.func321.trans (congrArg some (by kernel_rfl))⟩
 t0:=Tryz.underlying0
 a0:=Tryz.isAgg0
 z0:=Tryz.sizeOf0
 v0:=Tryz.zeroValue0
 t3:=Tryz.underlying3
 a3:=Tryz.isAgg3
 z3:=Tryz.sizeOf3
 v3:=Tryz.zeroValue3
 t4:=Tryz.underlying4
 a4:=Tryz.isAgg4
 z4:=Tryz.sizeOf4
 v4:=Tryz.zeroValue4
 t5:=Tryz.underlying5
 a5:=Tryz.isAgg5
 z5:=Tryz.sizeOf5
 v5:=Tryz.zeroValue5
 t9:=Tryz.underlying9
 a9:=Tryz.isAgg9
 z9:=Tryz.sizeOf9
 v9:=Tryz.zeroValue9
 t22:=Tryz.underlying94
 a22:=Tryz.isAgg94
 z22:=Tryz.sizeOf94
 v22:=Tryz.zeroValue94
 t25:=Tryz.underlying354
 a25:=Tryz.isAgg354
 z25:=Tryz.sizeOf354
 v25:=Tryz.zeroValue354
 t39:=Tryz.underlying210
 a39:=Tryz.isAgg210
 z39:=Tryz.sizeOf210
 v39:=Tryz.zeroValue210
 t45:=Tryz.underlying291
 a45:=Tryz.isAgg291
 z45:=Tryz.sizeOf291
 v45:=Tryz.zeroValue291
 t46:=Tryz.underlying292
 a46:=Tryz.isAgg292
 z46:=Tryz.sizeOf292
 v46:=Tryz.zeroValue292
 t50:=Tryz.underlying201
 a50:=Tryz.isAgg201
 z50:=Tryz.sizeOf201
 v50:=Tryz.zeroValue201
 t53:=Tryz.underlying298
 a53:=Tryz.isAgg298
 z53:=Tryz.sizeOf298
 v53:=Tryz.zeroValue298
 t55:=Tryz.underlying300
 a55:=Tryz.isAgg300
 z55:=Tryz.sizeOf300
 v55:=Tryz.zeroValue300
 t66:=Tryz.underlying356
 a66:=Tryz.isAgg356
 z66:=Tryz.sizeOf356
 v66:=Tryz.zeroValue356
 t70:=Tryz.underlying360
 a70:=Tryz.isAgg360
 z70:=Tryz.sizeOf360
 v70:=Tryz.zeroValue360
 t76:=Tryz.underlying389
 a76:=Tryz.isAgg389
 z76:=Tryz.sizeOf389
 v76:=Tryz.zeroValue389
 t77:=Tryz.underlying287
 a77:=Tryz.isAgg287
 z77:=Tryz.sizeOf287
 v77:=Tryz.zeroValue287}
abbrev Rm4:=Fin 1048576×Int×Int×Int
def ciR(x:Rm4):List Int:=[(x.1.val:Int),x.2.1,x.2.2.1,x.2.2.2]
def cfR(x y:Rm4):Int:=(x.1.val:Int)-(y.1.val:Int)
theorem Tryz.cmp180(x y:Rm4)(W:World):Calls Tryz.prog 230 #[.agg #[.int .i64 (x.1.val:Int),.int .i64 x.2.1,.int .i64 x.2.2.1,.int .i64 x.2.2.2],.agg #[.int .i64 (y.1.val:Int),.int .i64 y.2.1,.int .i64 y.2.2.1,.int .i64 y.2.2.2]] W fun e w'=>e=.returned (.int .i64 (cfR x y))/\∃q f,w'=grow (W.drewN q) f:=by obtain⟨⟨a,h⟩,b,c,d⟩:=x;obtain⟨⟨m,g⟩,k,i,l⟩:=y;unfold cfR;go_enter Tryz.func230,Tryz.ntmps230;go_wp2;go_ret;exact⟨rfl,0,_,by rw[alloc_eq_grow,alloc_eq_grow,grow_grow];rfl⟩
theorem QgT(x y:Rm4):ltOf cfR x y=decide (x.1.val<y.1.val):=by unfold ltOf cfR;grind
theorem Qtm:SWO (ltOf cfR)where
 irrefl x:=by rw[QgT];simp
 trans x y z h1 a:=by rw[QgT,decide_eq_true_eq]at*;omega
 ntrans x y z h1 a:=by grind[QgT]
end Go.Proofs
namespace Go.AM.SE
open Go.Proofs Go.AM.SD Go.Sort Go.Shelf
def toR(r:Rm):Rm4:=(⟨r.st%1048576,Zch _ (by decide)⟩,r.rank,(r.reason:Int),r.ev)
theorem Quv{r:Rm}(h:r.st<=4096):avI ciR (toR r)=rmC r:=by simp[avI,ciR,toR,rmC,Nat.mod_eq_of_lt (show r.st<1048576 by omega)]
theorem Qit:∀{l:List Rm},(∀r∈l,r.st<=4096)->(l.map toR).flatMap (avI ciR)=l.flatMap rmC|[],_=>rfl|e::l,h=>by rw[ZaJ,Zay,Zay,Quv (h e (by simp)),Qit fun x a=>h x (by simp[a])]
theorem call179:Callable Tryz.prog 229:=⟨_,Tryz.func229,by kernel_rfl,by kernel_rfl⟩
theorem sortH{l:List Rm}{h:Heap}(b:∀r∈l,r.st<=4096)(A:l.length<1000000000)(u:(l.map (·.st)).Nodup)(v:h.get 74=some (.cells 0 (l.flatMap rmC))):HSpec Tryz.prog 229 [.sl 74 0 0 l.length 4,.fn 230 [] []] h (.tup []) (h.set 74 (.cells 0 ((srtR l).flatMap rmC))):=by
 have m:=QgQ l;have f:∀r∈srtR l,r.st<=4096:=fun r q=>b r (m.mem_iff.1 q);obtain⟨t,hp,d,z⟩:=HSpec.sortK (f:=229) (g:=230) (γ:=0) (h:=h) (b:=74) Tryz.sortRm rfl call179 4 (by decide) Tryz.isAgg53 Tryz.sizeOf53 ciR (fun _=>rfl) cfR Qtm (enters_of Tryz.func230 (by kernel_rfl) rfl) (fun x y w=>Tryz.cmp180 x y w) (l.map toR) (by rw[Zaz];omega) (by rw[v,Qit b]) (by decide);have e:t=(srtR l).map toR:=by
  refine List.Perm.eq_of_pairwise (le:=fun x y=>ltOf cfR y x=false) ?_ d ?_ (hp.trans (m.map toR).symm)
  ·intro x y g k h1 o;obtain⟨m1,c,rfl⟩:=Zan.1 (hp.mem_iff.1 g);obtain⟨m2,a,rfl⟩:=Zan.1 k;have a:=m.mem_iff.1 a;have p:=b m1 c;have b2:=b m2 a;rw[QgT,decide_eq_false_iff_not]at h1 o;simp only[toR]at h1 o;have e:m1.st=m2.st:=by omega
   obtain⟨i,hi,rfl⟩:=Zbg c;obtain⟨j,s,rfl⟩:=Zbg a;have:i=j:=(List.getElem_inj u (h₀:=by simpa using hi) (h₁:=by simpa using s)).1 (by simpa using e);subst this;rfl
  rw[ZbB];refine(QqM l).imp_of_mem fun{x y}g k h=>?_;have p:=f x g;have b2:=f y k;rw[QgT,decide_eq_false_iff_not];simp only[toR];omega
 simp_all[Qit]
end Go.AM.SE
namespace Go.AM.SE
open Go.Proofs Go.AM.SD
theorem Agr0{n:Nat}{f:List Nat}(hf:∀x∈f,x<n)(d:f.Nodup):Agr n (left0 n f) (f.map rm0) ((List.range n).map rm0):=by
 refine⟨by simp,fun i r h=>?_,?_,fun r=>?_⟩
 ·rw[ZaB]at h;by_cases hi:i<n;·rw[ZbG hi]at h;cases h;rfl
  rw[ZaD (by simpa using hi)]at h;cases h
 ·rw[List.map_map];have:(fun x:Rm=>x.st)∘rm0=id:=rfl;rw[this,List.map_id];exact d
 constructor
 ·intro h;obtain⟨x,g,rfl⟩:=Zan.1 h;have a:=hf x g;refine⟨a,?_,?_⟩;·rw[ZaA];intro b;exact(QeG.1 b).2 g
  show((List.range n).map rm0)[x]?=_;rw[ZaB,ZbG a];rfl
 rintro⟨h1,b,c⟩;rw[ZaB,ZbG h1]at c;have c:rm0 r.st=r:=by simpa using c
 refine Zan.2 ⟨r.st,?_,c⟩;refine Classical.byContradiction fun k=>?_;have:=QeG.2 ⟨h1,k⟩;rw[this]at b;cases b
theorem QmP{n:Nat}{l:LB}{rs rr:List Rm}(h:Agr n l rs rr):rs.length<=n:=by
 have:=QaQ n (rs.map (·.st)) h.nd fun x b=>by obtain⟨r,a,rfl⟩:=Zan.1 b;exact((h.mem r).1 a).1
 simpa using this
theorem QqR{l:LB}{xs:List Nat}{i x:Nat}(h:xs[i]?=some x):offs l (xs.take (i+1))=(offs l (xs.take i)).set x false:=by unfold offs;rw[ZaZ,h,Option.toList,Za4];rfl
def dists(n:Nat)(l:LB)(d:List Int):List Int:=(kept n l).map fun i=>d.getD i 0
theorem QkY{i:Nat}{l:LB}:kept (i+1) l=kept i l++if lf l i=true then[i]else[]:=by unfold kept;rw[ZaO,Zbi];congr 1;rw[Zbv];rfl
theorem Qsh{i:Nat}{l:LB}:(kept i l).length<=i:=by unfold kept;exact Zaw (ZaI _ _) (by simp)
structure Res where
 kept:List Nat
 dist:List Int
 rem:List Rm
 rounds:Nat
 sup:Aut
 orig:List Nat
abbrev rsV(r:Res):AV:=.agg [sliN r.kept,sli r.dist,rms r.rem,.int .i64 (r.rounds:Int),sliN r.sup.al,.int .i64 (r.sup.n:Int),sliN r.sup.ms,egsN r.sup.es,sliN r.orig]
theorem QdV(r:Res):noRef (rsV r)=true:=by simp only[noRef,noRefs,Qad,Qak,Qaf];rfl
def pRes(a:Aut)(f u:List Nat)(all:Bool):Res:=let F:=fin a.n a.es a.ms f u all
 ⟨kept a.n F.1,dists a.n F.1 (pDist a.n a.es a.ms (lf F.1)),srtR F.2.1,F.2.2,restr a (lf F.1),(sAll a (lf F.1)).1⟩
abbrev nine:List AV:=[.nilsl,.nilsl,.nilsl,.int .i64 0,.nilsl,.int .i64 0,.nilsl,.nilsl,.nilsl]
def rnd0(i:Nat):Nat:=if i=0 then 0 else 1
theorem Quw(l:List Rm):(l.flatMap rmC).all AV.one=true:=by induction l with|nil=>rfl|cons x l a=>rw[Zay,Zb8,a];rfl
theorem QpB{i:Nat}{l:LB}{d:List Int}:dists (i+1) l d=dists i l d++if lf l i=true then[d.getD i 0]else[]:=by unfold dists;rw[QkY,ZaK];congr 1;split<;>rfl
theorem QkZ{i:Nat}{l:LB}{d:List Int}:(dists i l d).length=(kept i l).length:=by unfold dists;simp
abbrev St4:=Nat×LB×List Rm×Nat
abbrev rkH(a:Aut)(u:List Nat)(t:St4):HL:=[(41,.cells 0 nine),(61,.cells 0 [.nilsl,.nilsl,.sl 74 0 0 t.2.2.1.length 4,.int .i64 (t.2.2.2:Int),.nilsl,.int .i64 0,.nilsl,.nilsl,.nilsl]),(70,.cells 0 (pblk a u)),(71,.map 0 (mapF .i64 (backF a.es) (keysR a.es))),(72,.cells 0 (bls t.2.1)),(74,.cells 0 (t.2.2.1.flatMap rmC))]
theorem result39(a:Aut)(f u:List Nat)(all:Bool)(h:WfA a)(A:QOk a f u)(q:a.es.length<=1000000):Pq 160 [aV a,sliN f,sliN u,.bool all] (rsV (pRes a f u all)):=by
 have hn5:=h.n5;have hfl:=Qby A.fS A.fn;have hul:=Qby A.uS A.un;have hml:a.ms.length<=a.n:=QaQ a.n a.ms h.nd h.msn;refine Zct 40 ok160 rfl (by(try simp only[noRefs,Qal,Qam,Qad,Qaj,Qaf,Qak,Qao,Qah,noRef,Zad,Zac])<;>rfl) (QdV _) ?_;unfold s160;refine ZcZ ?_;refine ch (HSpec.of_O (b:=70) (by(try simp only[noRefs,Qal,Qam,Qad,Qaj,Qaf,Qak,Qao,Qah,noRef,Zad,Zac])<;>rfl) (start34 a f u h.esn A.fn (by omega) q (by omega)) (by repeat(first|exact Fresh.e|exact Fresh.le (by assumption) (by omega)|refine Fresh.set ?_ (by omega) (by omega))) rfl) ?_;refine ZcZ ?_;refine Qaq 100 (fun i:Nat=>[(3,.bool all),(8,.ptr 41 0 0),(9,.ptr 70 0 0),(10,.ptr 61 0 0),(23,sliN f),(24,.int .i64 f.length),(25,.int .i64 i)]) (fun i=>rkH a u (2,left0 a.n f,(f.take i).map rm0,rnd0 i)) (fun i=>i<=f.length) (fun i=>f.length-i) 0 0 160 (fun _:Unit=>[(3,.bool all),(8,.ptr 41 0 0),(9,.ptr 70 0 0),(10,.ptr 61 0 0)]) (fun _=>rkH a u (2,left0 a.n f,f.map rm0,rnd0 f.length)) (fun _=>True) ?_ (Zah _) ?_ ?_
 ·refine⟨[(41,.blk 41 0),(61,.blk 47 0),(70,.blk 70 0),(71,.blk 71 0),(72,.blk 72 0),(74,.nil)],rfl,Zcx,?_,au7⟩;repeat'(first|exact ZcA|(refine Zcr ?_;first|rfl|(simp only[noRef,noRefs,Qag,Zad,Zac,Zai,Qad,Qaj,Qaf,Qak,Qao,Qax,Qah,Qan,Qae,Qar,Qai,Qal,Qam,Qat];done))|exact ZcM rfl|exact ZcG|exact(True.intro:RnM _ _ _ [] [])|refine ZcH ?_ ?_|(refine Zcq ?_;first|rfl|(simp only[noRef,noRefs,Qag,Zad,Zac,Zai,Qad,Qaj,Qaf,Qak,Qao,Qax,Qah,Qan,Qae,Qar,Qai,Qal,Qam,Qat];done))|exact Rn.x1 rfl rfl|exact Rn.x2 rfl rfl|exact Rn.x3 rfl rfl|exact Rn.x4 rfl rfl|exact Rn.x5 rfl|exact Rn.x6 rfl|exact Rn.x7 rfl|refine ZcC rfl rfl ?_|refine ZcB rfl rfl rfl ?_ ?_|refine ZcD rfl rfl rfl ?_ ?_|refine ZcE rfl rfl ?_ ?_|refine ZcF rfl rfl ?_ ?_)
  exact ZcP fun x _=>Zcq (Qae _)
 ·rintro i hi;by_cases g:i<f.length
  ·obtain⟨x,hx⟩:=Qap g;have X:=QgP ((f.take i).map rm0);rw[Zaz,Zav,Nat.min_eq_left (by omega)]at X;have htk:((f.take (i+1)).map rm0)=(f.take i).map rm0++[rm0 x]:=by rw[ZaZ,hx,Option.toList,ZaK];rfl
   have P:((f.take i).map rm0).length=i:=by rw[Zaz,Zav];omega
   generalize hF:(f.take i).map rm0=G at*;refine Zc0 (Zc3 g (Qaz hx) X P) ?_;refine⟨i+1,by omega,by omega,?_⟩;rw[htk];dsimp only[rkH];rw[Zaq,Zaf,P];refine⟨[(41,.blk 41 0),(61,.blk 61 0),(70,.blk 70 0),(71,.blk 71 0),(72,.blk 72 0),(74,.blk 74 1)],rfl,au0,?_,au7⟩;repeat'(first|exact ZcA|(refine Zcr ?_;first|rfl|(simp only[noRef,noRefs,Qag,Zad,Zac,Zai,Qad,Qaj,Qaf,Qak,Qao,Qax,Qah,Qan,Qae,Qar,Qai,Qal,Qam,Qat];done))|exact ZcM rfl|exact ZcG|exact(True.intro:RnM _ _ _ [] [])|refine ZcH ?_ ?_|(refine Zcq ?_;first|rfl|(simp only[noRef,noRefs,Qag,Zad,Zac,Zai,Qad,Qaj,Qaf,Qak,Qao,Qax,Qah,Qan,Qae,Qar,Qai,Qal,Qam,Qat];done))|exact Rn.x1 rfl rfl|exact Rn.x2 rfl rfl|exact Rn.x3 rfl rfl|exact Rn.x4 rfl rfl|exact Rn.x5 rfl|exact Rn.x6 rfl|exact Rn.x7 rfl|refine ZcC rfl rfl ?_|refine ZcB rfl rfl rfl ?_ ?_|refine ZcD rfl rfl rfl ?_ ?_|refine ZcE rfl rfl ?_ ?_|refine ZcF rfl rfl ?_ ?_)
   exact ZcP fun x _=>Zcq (Qae _)
  have e:i=f.length:=by omega
  subst e;dsimp only[rkH];refine Zc0 g ?_;refine⟨(),?_⟩;refine⟨[(41,.blk 41 0),(61,.blk 61 0),(70,.blk 70 0),(71,.blk 71 0),(72,.blk 72 0),(74,.blk 74 0)],rfl,au0,?_,au7⟩;repeat'(first|exact ZcA|(refine Zcr ?_;first|rfl|(simp only[noRef,noRefs,Qag,Zad,Zac,Zai,Qad,Qaj,Qaf,Qak,Qao,Qax,Qah,Qan,Qae,Qar,Qai,Qal,Qam,Qat];done))|exact ZcM rfl|exact ZcG|exact(True.intro:RnM _ _ _ [] [])|refine ZcH ?_ ?_|(refine Zcq ?_;first|rfl|(simp only[noRef,noRefs,Qag,Zad,Zac,Zai,Qad,Qaj,Qaf,Qak,Qao,Qax,Qah,Qan,Qae,Qar,Qai,Qal,Qam,Qat];done))|exact Rn.x1 rfl rfl|exact Rn.x2 rfl rfl|exact Rn.x3 rfl rfl|exact Rn.x4 rfl rfl|exact Rn.x5 rfl|exact Rn.x6 rfl|exact Rn.x7 rfl|refine ZcC rfl rfl ?_|refine ZcB rfl rfl rfl ?_ ?_|refine ZcD rfl rfl rfl ?_ ?_|refine ZcE rfl rfl ?_ ?_|refine ZcF rfl rfl ?_ ?_)
  exact ZcP fun x _=>Zcq (Qae _)
 rintro _ _;have hrn0:rnd0 f.length=if f.length=0 then 0 else 1:=rfl;have Z:cntL a.n (left0 a.n f)<a.n+1:=by
  have:cntL a.n (left0 a.n f)<=a.n:=by unfold cntL;exact Zaw List.countP_le_length (by simp)
  omega
 have hA0:=Agr0 (n:=a.n) A.fn (by rw[ZaN];exact A.fS.imp fun h=>by omega);dsimp only[rkH];refine ZcZ ?_;refine Qaq 170 (fun t:St4=>[(3,.bool all),(8,.ptr 41 0 0),(9,.ptr 70 0 0),(10,.ptr 61 0 0),(13,.int .i64 t.1)]) (rkH a u) (fun t=>t.2.1.length=a.n/\(∃rr,Agr a.n t.2.1 t.2.2.1 rr)/\t.1+cntL a.n t.2.1<=a.n+2/\∃B,cntL a.n t.2.1<B/\pRounds a.n a.es a.ms u all B t.1 t.2.1 t.2.2.1 t.2.2.2=fin a.n a.es a.ms f u all) (fun t=>cntL a.n t.2.1) (2,left0 a.n f,f.map rm0,rnd0 f.length) 2 260 (fun t:St4=>[(8,.ptr 41 0 0),(9,.ptr 70 0 0),(10,.ptr 61 0 0)]) (rkH a u) (fun t=>t.2=fin a.n a.es a.ms f u all/\t.2.1.length=a.n/\∃rr,Agr a.n t.2.1 t.2.2.1 rr) ?_ ⟨QkR,⟨_,hA0⟩,by dsimp only;omega,a.n+1,Z,rfl⟩ ?_ ?_
 ·dsimp only[rkH];rw[Zaz];refine⟨[(41,.blk 41 0),(61,.blk 61 0),(70,.blk 70 0),(71,.blk 71 0),(72,.blk 72 0),(74,.blk 74 0)],rfl,au0,?_,au7⟩;repeat'(first|exact ZcA|(refine Zcr ?_;first|rfl|(simp only[noRef,noRefs,Qag,Zad,Zac,Zai,Qad,Qaj,Qaf,Qak,Qao,Qax,Qah,Qan,Qae,Qar,Qai,Qal,Qam,Qat];done))|exact ZcM rfl|exact ZcG|exact(True.intro:RnM _ _ _ [] [])|refine ZcH ?_ ?_|(refine Zcq ?_;first|rfl|(simp only[noRef,noRefs,Qag,Zad,Zac,Zai,Qad,Qaj,Qaf,Qak,Qao,Qax,Qah,Qan,Qae,Qar,Qai,Qal,Qam,Qat];done))|exact Rn.x1 rfl rfl|exact Rn.x2 rfl rfl|exact Rn.x3 rfl rfl|exact Rn.x4 rfl rfl|exact Rn.x5 rfl|exact Rn.x6 rfl|exact Rn.x7 rfl|refine ZcC rfl rfl ?_|refine ZcB rfl rfl rfl ?_ ?_|refine ZcD rfl rfl rfl ?_ ?_|refine ZcE rfl rfl ?_ ?_|refine ZcF rfl rfl ?_ ?_)
  exact ZcP fun x _=>Zcq (Qae _)
 ·rintro⟨b,l,rs,k⟩⟨p,⟨rr,hA⟩,hrk,B,hfu,o⟩;dsimp only at p hA hrk hfu o⊢;dsimp only[rkH];have hN:=next35 a u l b all h.inN h.nd p (by omega) q (by omega) (by omega);have v:=Qip (left:=lf l) (unc:=u) (rank:=b) (all:=all) h.inN h.nd h.srt;obtain⟨B,rfl⟩:∃m,B=m+1:=⟨B-1,by omega⟩;have M:∀r∈pNext a.n a.es a.ms (lf l) u b all,cntL a.n (offs l ((pNext a.n a.es a.ms (lf l) u b all).map (·.st)))<cntL a.n l:=fun r y=>by
   obtain⟨h1,h2⟩:=v.2 r y;refine Qoq (fun i _ hi=>?_) h1 h2 ?_;·rw[Qcn]at hi;simp only[Zaa]at hi;exact hi.1
   rw[Qcn,Qc9 (Zan.2 ⟨r,y,rfl⟩)];simp
  unfold pRounds at o;have hrl:=QmP hA;have U:=hA.step p v.1 v.2;generalize pNext a.n a.es a.ms (lf l) u b all=c at*;refine ZcZ ?_;refine ch (HSpec.of_F (ZcO (frzP (a:=a) (u:=u) (l:=l) gg gg gg p) (ZcO (Zcv _) (ZcO (Zcv _) ZcN))) (FSpec.Qb0 hN (by(try simp only[noRefs,Qal,Qam,Qad,Qaj,Qaf,Qak,Qao,Qah,noRef,Zad,Zac])<;>rfl) (Qtj _) (QgP _) rfl)) ?_;by_cases Y:c.length=0
  ·rw[if_pos Y]at o;refine Zc0 Y ?_;refine⟨(b,l,rs,k),⟨o,p,rr,hA⟩,?_⟩;refine⟨[(41,.blk 41 0),(61,.blk 61 0),(70,.blk 70 0),(71,.blk 71 0),(72,.blk 72 0),(74,.blk 74 0)],rfl,au0,?_,au7⟩;repeat'(first|exact ZcA|(refine Zcr ?_;first|rfl|(simp only[noRef,noRefs,Qag,Zad,Zac,Zai,Qad,Qaj,Qaf,Qak,Qao,Qax,Qah,Qan,Qae,Qar,Qai,Qal,Qam,Qat];done))|exact ZcM rfl|exact ZcG|exact(True.intro:RnM _ _ _ [] [])|refine ZcH ?_ ?_|(refine Zcq ?_;first|rfl|(simp only[noRef,noRefs,Qag,Zad,Zac,Zai,Qad,Qaj,Qaf,Qak,Qao,Qax,Qah,Qan,Qae,Qar,Qai,Qal,Qam,Qat];done))|exact Rn.x1 rfl rfl|exact Rn.x2 rfl rfl|exact Rn.x3 rfl rfl|exact Rn.x4 rfl rfl|exact Rn.x5 rfl|exact Rn.x6 rfl|exact Rn.x7 rfl|refine ZcC rfl rfl ?_|refine ZcB rfl rfl rfl ?_ ?_|refine ZcD rfl rfl rfl ?_ ?_|refine ZcE rfl rfl ?_ ?_|refine ZcF rfl rfl ?_ ?_)
   exact ZcP fun x _=>Zcq (Qae _)
  rw[if_neg Y]at o;have hnl:=QmP U;rw[Zaf]at hnl;obtain⟨r0,hr0⟩:∃r,r∈c:=by cases c with|nil=>exact absurd rfl Y|cons r _=>exact⟨r,by simp⟩
  have hd0:=M r0 hr0;have h0':¬(c.length:Int)=0:=by omega
  refine Zc0 h0' ?_;refine Qaq 300 (fun j:Nat=>[(49,rms c),(50,.int .i64 c.length),(51,.int .i64 j),(3,.bool all),(8,.ptr 41 0 0),(9,.ptr 70 0 0),(10,.ptr 61 0 0),(13,.int .i64 b),(14,rms c)]) (fun j=>rkH a u (b,offs l ((c.map (·.st)).take j),rs,k)) (fun j=>j<=c.length) (fun j=>c.length-j) 0 4 400 (fun _:Unit=>[(3,.bool all),(8,.ptr 41 0 0),(9,.ptr 70 0 0),(10,.ptr 61 0 0),(13,.int .i64 b),(14,rms c)]) (fun _=>rkH a u (b,offs l (c.map (·.st)),rs,k)) (fun _=>True) ?_ (Zah _) ?_ ?_
  ·refine⟨[(41,.blk 41 0),(61,.blk 61 0),(70,.blk 70 0),(71,.blk 71 0),(72,.blk 72 0),(74,.blk 74 0)],rfl,au0,?_,au7⟩;repeat'(first|exact ZcA|(refine Zcr ?_;first|rfl|(simp only[noRef,noRefs,Qag,Zad,Zac,Zai,Qad,Qaj,Qaf,Qak,Qao,Qax,Qah,Qan,Qae,Qar,Qai,Qal,Qam,Qat];done))|exact ZcM rfl|exact ZcG|exact(True.intro:RnM _ _ _ [] [])|refine ZcH ?_ ?_|(refine Zcq ?_;first|rfl|(simp only[noRef,noRefs,Qag,Zad,Zac,Zai,Qad,Qaj,Qaf,Qak,Qao,Qax,Qah,Qan,Qae,Qar,Qai,Qal,Qam,Qat];done))|exact Rn.x1 rfl rfl|exact Rn.x2 rfl rfl|exact Rn.x3 rfl rfl|exact Rn.x4 rfl rfl|exact Rn.x5 rfl|exact Rn.x6 rfl|exact Rn.x7 rfl|refine ZcC rfl rfl ?_|refine ZcB rfl rfl rfl ?_ ?_|refine ZcD rfl rfl rfl ?_ ?_|refine ZcE rfl rfl ?_ ?_|refine ZcF rfl rfl ?_ ?_)
   exact ZcP fun x _=>Zcq (Qae _)
  ·rintro j hj;dsimp only[rkH];by_cases C:j<c.length
   ·obtain⟨r,y⟩:=Qap C;have hrn:=(v.2 r (Zae y)).1;have R:=QqR (l:=l) (xs:=c.map (·.st)) (i:=j) (x:=r.st) (by rw[ZaB,y];rfl);have hol:(offs l ((c.map (·.st)).take j)).length=a.n:=by rw[Qio];exact p
    generalize offs l ((c.map (·.st)).take j)=L at*;have h1:r.st+1<=L.length:=by omega
    refine Zc0 (Zc4 C (Qsb y) hrn h1 @QjN) ?_;refine⟨j+1,by omega,by omega,?_⟩;rw[R];refine⟨[(41,.blk 41 0),(61,.blk 61 0),(70,.blk 70 0),(71,.blk 71 0),(72,.blk 72 0),(74,.blk 74 0)],rfl,au0,?_,au7⟩;repeat'(first|exact ZcA|(refine Zcr ?_;first|rfl|(simp only[noRef,noRefs,Qag,Zad,Zac,Zai,Qad,Qaj,Qaf,Qak,Qao,Qax,Qah,Qan,Qae,Qar,Qai,Qal,Qam,Qat];done))|exact ZcM rfl|exact ZcG|exact(True.intro:RnM _ _ _ [] [])|refine ZcH ?_ ?_|(refine Zcq ?_;first|rfl|(simp only[noRef,noRefs,Qag,Zad,Zac,Zai,Qad,Qaj,Qaf,Qak,Qao,Qax,Qah,Qan,Qae,Qar,Qai,Qal,Qam,Qat];done))|exact Rn.x1 rfl rfl|exact Rn.x2 rfl rfl|exact Rn.x3 rfl rfl|exact Rn.x4 rfl rfl|exact Rn.x5 rfl|exact Rn.x6 rfl|exact Rn.x7 rfl|refine ZcC rfl rfl ?_|refine ZcB rfl rfl rfl ?_ ?_|refine ZcD rfl rfl rfl ?_ ?_|refine ZcE rfl rfl ?_ ?_|refine ZcF rfl rfl ?_ ?_)
    exact ZcP fun x _=>Zcq (Qae _)
   have e:j=c.length:=by omega
   have e2:(c.map (·.st)).take j=c.map (·.st):=by rw[Za1];simp;omega
   rw[e2];refine Zc0 C ?_;refine⟨(),?_⟩;refine⟨[(41,.blk 41 0),(61,.blk 61 0),(70,.blk 70 0),(71,.blk 71 0),(72,.blk 72 0),(74,.blk 74 0)],rfl,au0,?_,au7⟩;repeat'(first|exact ZcA|(refine Zcr ?_;first|rfl|(simp only[noRef,noRefs,Qag,Zad,Zac,Zai,Qad,Qaj,Qaf,Qak,Qao,Qax,Qah,Qan,Qae,Qar,Qai,Qal,Qam,Qat];done))|exact ZcM rfl|exact ZcG|exact(True.intro:RnM _ _ _ [] [])|refine ZcH ?_ ?_|(refine Zcq ?_;first|rfl|(simp only[noRef,noRefs,Qag,Zad,Zac,Zai,Qad,Qaj,Qaf,Qak,Qao,Qax,Qah,Qan,Qae,Qar,Qai,Qal,Qam,Qat];done))|exact Rn.x1 rfl rfl|exact Rn.x2 rfl rfl|exact Rn.x3 rfl rfl|exact Rn.x4 rfl rfl|exact Rn.x5 rfl|exact Rn.x6 rfl|exact Rn.x7 rfl|refine ZcC rfl rfl ?_|refine ZcB rfl rfl rfl ?_ ?_|refine ZcD rfl rfl rfl ?_ ?_|refine ZcE rfl rfl ?_ ?_|refine ZcF rfl rfl ?_ ?_)
   exact ZcP fun x _=>Zcq (Qae _)
  rintro _ _;have H:=QgP rs;have hon:=Quw c;dsimp only[rkH];refine Zc0 (Zc1 H hon) ?_;refine⟨(b+1,offs l (c.map (·.st)),rs++c,b),by dsimp only;exact hd0,⟨by dsimp only;rw[Qio];exact p,⟨_,U⟩,by dsimp only;omega,B,by dsimp only;omega,o⟩,?_⟩;dsimp only[rkH];rw[Zaq,Zaf];refine⟨[(41,.blk 41 0),(61,.blk 61 0),(70,.blk 70 0),(71,.blk 71 0),(72,.blk 72 0),(74,.blk 74 1)],rfl,au0,?_,au7⟩;repeat'(first|exact ZcA|(refine Zcr ?_;first|rfl|(simp only[noRef,noRefs,Qag,Zad,Zac,Zai,Qad,Qaj,Qaf,Qak,Qao,Qax,Qah,Qan,Qae,Qar,Qai,Qal,Qam,Qat];done))|exact ZcM rfl|exact ZcG|exact(True.intro:RnM _ _ _ [] [])|refine ZcH ?_ ?_|(refine Zcq ?_;first|rfl|(simp only[noRef,noRefs,Qag,Zad,Zac,Zai,Qad,Qaj,Qaf,Qak,Qao,Qax,Qah,Qan,Qae,Qar,Qai,Qal,Qam,Qat];done))|exact Rn.x1 rfl rfl|exact Rn.x2 rfl rfl|exact Rn.x3 rfl rfl|exact Rn.x4 rfl rfl|exact Rn.x5 rfl|exact Rn.x6 rfl|exact Rn.x7 rfl|refine ZcC rfl rfl ?_|refine ZcB rfl rfl rfl ?_ ?_|refine ZcD rfl rfl rfl ?_ ?_|refine ZcE rfl rfl ?_ ?_|refine ZcF rfl rfl ?_ ?_)
  exact ZcP fun x _=>Zcq (Qae _)
 rintro⟨b,l,rs,k⟩⟨z,p,rr,hA⟩;dsimp only at z p hA⊢;have hrl:=QmP hA;have hpd:=QkU (left:=lf l) h.inN h.nd;have Q:=super54 a u l h p q (by omega);have hdi:=dist53 a u l h.inN h.nd p (by omega) q (by omega);have I:pRes a f u all=⟨kept a.n l,dists a.n l (pDist a.n a.es a.ms (lf l)),srtR rs,k,restr a (lf l),(sAll a (lf l)).1⟩:=by unfold pRes;rw[<-z]
 rw[I];have N:=Qsf rs;have hsrl:=QgP (srtR rs);generalize pDist a.n a.es a.ms (lf l)=d at*;dsimp only[rkH];refine ZcZ ?_;refine ch (sortH (l:=rs) (fun r y=>by have:=((hA.mem r).1 y).1;omega) (by omega) hA.nd gg) ?_;refine ZcZ ?_;refine ch (HSpec.of_F (ZcO (frzP (a:=a) (u:=u) (l:=l) gg gg gg p) ZcN) (FSpec.Qb0 hdi (by(try simp only[noRefs,Qal,Qam,Qad,Qaj,Qaf,Qak,Qao,Qah,noRef,Zad,Zac])<;>rfl) (Qcy _) (by rw[QcO,hpd,Zcj]) rfl)) ?_;refine ZcZ ?_;refine Qaq 500 (fun i:Nat=>[(8,.ptr 41 0 0),(9,.ptr 70 0 0),(10,.ptr 61 0 0),(77,.fsl (ints d) a.n 1),(78,.int .i64 a.n),(79,.int .i64 i)]) (fun i=>[(41,.cells 0 nine),(61,.cells 0 [.sl 76 0 0 (kept i l).length 1,.sl 77 0 0 (kept i l).length 1,.sl 74 0 0 rs.length 4,.int .i64 (k:Int),.nilsl,.int .i64 0,.nilsl,.nilsl,.nilsl]),(70,.cells 0 (pblk a u)),(71,.map 0 (mapF .i64 (backF a.es) (keysR a.es))),(72,.cells 0 (bls l)),(74,.cells 0 ((srtR rs).flatMap rmC)),(76,.cells 0 (ints (nz (kept i l)))),(77,.cells 0 (ints (dists i l d)))]) (fun i=>i<=a.n) (fun i=>a.n-i) 0 6 600 (fun _:Unit=>[(8,.ptr 41 0 0),(9,.ptr 70 0 0),(10,.ptr 61 0 0)]) (fun _=>[(41,.cells 0 nine),(61,.cells 0 [.sl 76 0 0 (kept a.n l).length 1,.sl 77 0 0 (kept a.n l).length 1,.sl 74 0 0 rs.length 4,.int .i64 (k:Int),.nilsl,.int .i64 0,.nilsl,.nilsl,.nilsl]),(70,.cells 0 (pblk a u)),(71,.map 0 (mapF .i64 (backF a.es) (keysR a.es))),(72,.cells 0 (bls l)),(74,.cells 0 ((srtR rs).flatMap rmC)),(76,.cells 0 (ints (nz (kept a.n l)))),(77,.cells 0 (ints (dists a.n l d)))]) (fun _=>True) ?_ (Zah _) ?_ ?_
 ·refine⟨[(41,.blk 41 0),(61,.blk 61 0),(70,.blk 70 0),(71,.blk 71 0),(72,.blk 72 0),(74,.blk 74 0),(76,.nil),(77,.nil)],rfl,au0,?_,au7⟩;repeat'(first|exact ZcA|(refine Zcr ?_;first|rfl|(simp only[noRef,noRefs,Qag,Zad,Zac,Zai,Qad,Qaj,Qaf,Qak,Qao,Qax,Qah,Qan,Qae,Qar,Qai,Qal,Qam,Qat];done))|exact ZcM rfl|exact ZcG|exact(True.intro:RnM _ _ _ [] [])|refine ZcH ?_ ?_|(refine Zcq ?_;first|rfl|(simp only[noRef,noRefs,Qag,Zad,Zac,Zai,Qad,Qaj,Qaf,Qak,Qao,Qax,Qah,Qan,Qae,Qar,Qai,Qal,Qam,Qat];done))|exact Rn.x1 rfl rfl|exact Rn.x2 rfl rfl|exact Rn.x3 rfl rfl|exact Rn.x4 rfl rfl|exact Rn.x5 rfl|exact Rn.x6 rfl|exact Rn.x7 rfl|refine ZcC rfl rfl ?_|refine ZcB rfl rfl rfl ?_ ?_|refine ZcD rfl rfl rfl ?_ ?_|refine ZcE rfl rfl ?_ ?_|refine ZcF rfl rfl ?_ ?_)
  exact ZcP fun x _=>Zcq (Qae _)
 ·rintro i hi;by_cases g:i<a.n
  ·have s:=QkY (i:=i) (l:=l);have w:=QpB (i:=i) (l:=l) (d:=d);have hkl:=@Qsh i l;have E:=@QkZ i l d;generalize kept i l=K at*;generalize dists i l d=D at*;have T:i<l.length:=by omega
   have V:i<d.length:=by omega
   have J:d[i]?=some (d.getD i 0):=by rw[Zal V];simp[V]
   by_cases h1:lf l i=true
   ·rw[if_pos h1]at s w;refine Zc0 (Zc4 g (QoD T) (QaV J) h1 E) ?_;refine⟨i+1,by omega,by omega,?_⟩;rw[s,w,Zaf,QaF,Qay,Qay];refine⟨[(41,.blk 41 0),(61,.blk 61 0),(70,.blk 70 0),(71,.blk 71 0),(72,.blk 72 0),(74,.blk 74 0),(76,.blk 76 1),(77,.blk 77 1)],rfl,au0,?_,au7⟩;repeat'(first|exact ZcA|(refine Zcr ?_;first|rfl|(simp only[noRef,noRefs,Qag,Zad,Zac,Zai,Qad,Qaj,Qaf,Qak,Qao,Qax,Qah,Qan,Qae,Qar,Qai,Qal,Qam,Qat];done))|exact ZcM rfl|exact ZcG|exact(True.intro:RnM _ _ _ [] [])|refine ZcH ?_ ?_|(refine Zcq ?_;first|rfl|(simp only[noRef,noRefs,Qag,Zad,Zac,Zai,Qad,Qaj,Qaf,Qak,Qao,Qax,Qah,Qan,Qae,Qar,Qai,Qal,Qam,Qat];done))|exact Rn.x1 rfl rfl|exact Rn.x2 rfl rfl|exact Rn.x3 rfl rfl|exact Rn.x4 rfl rfl|exact Rn.x5 rfl|exact Rn.x6 rfl|exact Rn.x7 rfl|refine ZcC rfl rfl ?_|refine ZcB rfl rfl rfl ?_ ?_|refine ZcD rfl rfl rfl ?_ ?_|refine ZcE rfl rfl ?_ ?_|refine ZcF rfl rfl ?_ ?_)
    exact ZcP fun x _=>Zcq (Qae _)
   rw[if_neg h1,Zap]at s w;rw[Zam]at h1;refine Zc0 (Zc3 g (QoD T) (QaV J) h1) ?_;refine⟨i+1,by omega,by omega,?_⟩;rw[s,w];refine⟨[(41,.blk 41 0),(61,.blk 61 0),(70,.blk 70 0),(71,.blk 71 0),(72,.blk 72 0),(74,.blk 74 0),(76,.blk 76 0),(77,.blk 77 0)],rfl,au0,?_,au7⟩;repeat'(first|exact ZcA|(refine Zcr ?_;first|rfl|(simp only[noRef,noRefs,Qag,Zad,Zac,Zai,Qad,Qaj,Qaf,Qak,Qao,Qax,Qah,Qan,Qae,Qar,Qai,Qal,Qam,Qat];done))|exact ZcM rfl|exact ZcG|exact(True.intro:RnM _ _ _ [] [])|refine ZcH ?_ ?_|(refine Zcq ?_;first|rfl|(simp only[noRef,noRefs,Qag,Zad,Zac,Zai,Qad,Qaj,Qaf,Qak,Qao,Qax,Qah,Qan,Qae,Qar,Qai,Qal,Qam,Qat];done))|exact Rn.x1 rfl rfl|exact Rn.x2 rfl rfl|exact Rn.x3 rfl rfl|exact Rn.x4 rfl rfl|exact Rn.x5 rfl|exact Rn.x6 rfl|exact Rn.x7 rfl|refine ZcC rfl rfl ?_|refine ZcB rfl rfl rfl ?_ ?_|refine ZcD rfl rfl rfl ?_ ?_|refine ZcE rfl rfl ?_ ?_|refine ZcF rfl rfl ?_ ?_)
   exact ZcP fun x _=>Zcq (Qae _)
  have e:i=a.n:=by omega
  subst e;refine Zc0 g ?_;refine⟨(),?_⟩;refine⟨[(41,.blk 41 0),(61,.blk 61 0),(70,.blk 70 0),(71,.blk 71 0),(72,.blk 72 0),(74,.blk 74 0),(76,.blk 76 0),(77,.blk 77 0)],rfl,au0,?_,au7⟩;repeat'(first|exact ZcA|(refine Zcr ?_;first|rfl|(simp only[noRef,noRefs,Qag,Zad,Zac,Zai,Qad,Qaj,Qaf,Qak,Qao,Qax,Qah,Qan,Qae,Qar,Qai,Qal,Qam,Qat];done))|exact ZcM rfl|exact ZcG|exact(True.intro:RnM _ _ _ [] [])|refine ZcH ?_ ?_|(refine Zcq ?_;first|rfl|(simp only[noRef,noRefs,Qag,Zad,Zac,Zai,Qad,Qaj,Qaf,Qak,Qao,Qax,Qah,Qan,Qae,Qar,Qai,Qal,Qam,Qat];done))|exact Rn.x1 rfl rfl|exact Rn.x2 rfl rfl|exact Rn.x3 rfl rfl|exact Rn.x4 rfl rfl|exact Rn.x5 rfl|exact Rn.x6 rfl|exact Rn.x7 rfl|refine ZcC rfl rfl ?_|refine ZcB rfl rfl rfl ?_ ?_|refine ZcD rfl rfl rfl ?_ ?_|refine ZcE rfl rfl ?_ ?_|refine ZcF rfl rfl ?_ ?_)
  exact ZcP fun x _=>Zcq (Qae _)
 rintro _ _;have E:=@QkZ a.n l d;generalize restr a (lf l)=S at*;generalize(sAll a (lf l)).1=O at*;refine ZcZ ?_;refine ch (HSpec.of_F (ZcO (frzP (a:=a) (u:=u) (l:=l) gg gg gg p) ZcN) Q) ?_;refine ZcZ ?_;refine⟨.inr trivial,_,rfl,?_⟩;refine Rn.agg (ZcH (Rn.fz0 (g:=0) rfl (by simp[ints]) (Zcr (Qad _))) (ZcH ?_ (ZcH ?_ (ZcH (Zcq rfl) (ZcH (Zcq (Qae _)) (ZcH (Zcq rfl) (ZcH (Zcq (Qae _)) (ZcH (Zcq (Qai _)) (ZcH (Zcq (Qae _)) ZcG)))))))));·have :(dists a.n l d).length=(kept a.n l).length:=E;show Rn 0 π0 _ (.fsl (ints (dists a.n l d)) (dists a.n l d).length 1) _;rw[this];exact Rn.fz0 (g:=0) rfl (by rw[QcO,this,Zcj]) (Zcr (Qad _))
 show Rn 0 π0 _ (.fsl ((srtR rs).flatMap rmC) (srtR rs).length 4) _;rw[N];exact Rn.fz0 (g:=0) rfl (by rw[QgP,N]) (Zcr (Qak _))
end Go.AM.SE
namespace Go.AM.SE
open Go.AM.SD
structure RInv(n:Nat)(es:List Ed)(mk unc:List Nat)(l:LB)(rs:List Rm)(rank:Int):Prop where
 st:∀x∈rs,x.st<n/\lf l x.st=false/\x.rank<rank
 all:∀s,s<n->lf l s=false->∃x∈rs,x.st=s
 nd:rs.Pairwise fun x y=>x.st≠y.st
 re:∀x∈rs,x.reason=1\/x.reason=2\/x.reason=3
 un:∀x∈rs,x.reason=2->∃e∈es,e.1=x.st/\e.2.1∈unc/\∃z∈rs,z.st=e.2.2/\z.rank<x.rank
 bl:∀x∈rs,x.reason=3->x.st∉mk/\∀e∈es,e.1=x.st->∃z∈rs,z.st=e.2.2/\(z.rank<x.rank\/(z.rank=x.rank/\z.reason=3))
theorem Qk0{n:Nat}{es:List Ed}{mk:List Nat}{left:Nat->Bool}{unc:List Nat}{rank:Int}{all:Bool}(d:InN n es mk)(f:es.Pairwise fun a b=>a.1<=b.1){x:Rm}(c:x∈pNext n es mk left unc rank all):x.rank=rank/\(x.reason=2\/x.reason=3)/\(x.reason=2->∃e∈es,e.1=x.st/\e.2.1∈unc/\left e.2.2=false):=by
 unfold pNext at c;split at c;·obtain⟨p,hp,rfl⟩:=Zan.1 c;refine⟨rfl,.inl rfl,fun _=>?_⟩;obtain⟨e,he,k,_,l,g⟩:=Qqt f (fun e he=>(d.1 e he).1) hp;exact⟨e,he,k,g,l⟩
 unfold blkF at c;obtain⟨i,_,hi⟩:=Zbu.1 c;split at hi;·cases hi;exact⟨rfl,.inr rfl,fun h=>by simp at h⟩
 cases hi
theorem QqS{n:Nat}{es:List Ed}{mk:List Nat}{left:Nat->Bool}{unc:List Nat}{rank:Int}{all:Bool}(a:InN n es mk)(b:mk.Nodup){x:Rm}(f:x∈pNext n es mk left unc rank all)(r:x.reason=3):x.st∉mk/\∀e∈es,e.1=x.st->left e.2.2=true->∃z∈pNext n es mk left unc rank all,z.st=e.2.2/\z.reason=3:=by
 unfold pNext at f⊢;split at f;·obtain⟨p,hp,rfl⟩:=Zan.1 f;simp at r
 rename_i hc;rw[if_neg hc];unfold blkF at f⊢;obtain⟨i,hi,c⟩:=Zbu.1 f;have k:(pDist n es mk left).length=n:=(QgF a (n+1) 0 _ (Qef (left:=left) a b) (by omega)).1;rw[Zat,k]at hi;split at c
 ·rename_i g;cases c;simp only[Zaa,decide_eq_true_eq]at g;dsimp only;refine⟨fun hm=>?_,fun e he h1 q=>?_⟩;·have:=(QeR (left:=left) a b hi).2 ⟨0,g.1,hm⟩;omega
  have h:=(a.1 e he).2;have l:¬0<=(pDist n es mk left).getD e.2.2 0:=fun m=>by obtain⟨d,o⟩:=(QeR (left:=left) a b h).1 m;have:=(QeR (left:=left) a b hi).2 ⟨d+1,.inr ⟨g.1,e,he,h1,o⟩⟩;omega
  refine⟨⟨e.2.2,rank,3,-1⟩,Zbu.2 ⟨e.2.2,Zat.2 (by omega),?_⟩,rfl,rfl⟩;rw[if_pos (by rw[q,Zai,decide_eq_true_eq];omega)]
 cases c
theorem RInv.round{n:Nat}{es:List Ed}{mk:List Nat}{unc:List Nat}{l:LB}{rs:List Rm}{rank:Nat}{all:Bool}(f:InN n es mk)(m:mk.Nodup)(p:es.Pairwise fun a b=>a.1<=b.1)(h:RInv n es mk unc l rs rank):RInv n es mk unc (offs l ((pNext n es mk (lf l) unc rank all).map (·.st))) (rs++pNext n es mk (lf l) unc rank all) ((rank+1:Nat):Int):=by
 obtain⟨E,u⟩:=Qip (left:=lf l) (unc:=unc) (rank:=(rank:Int)) (all:=all) f m p;have k:=fun x(c:x∈pNext n es mk (lf l) unc rank all)=>Qk0 f p c;have B:=fun x(c:x∈pNext n es mk (lf l) unc rank all)=>QqS f m c;generalize pNext n es mk (lf l) unc rank all=v at*;refine⟨fun x c=>?_,fun s p i=>?_,?_,fun x c=>?_,fun x c o=>?_,fun x c o=>?_⟩
 ·rcases ZaE.1 c with c|c;·obtain⟨w,a2,a3⟩:=h.st x c;exact⟨w,by rw[Qcn,a2];rfl,by omega⟩
  refine⟨(u x c).1,?_,by rw[(k x c).1];omega⟩;rw[Qcn,Qc9 (Zan.2 ⟨x,c,rfl⟩)];simp
 ·rw[Qcn]at i;by_cases hc:s∈v.map (·.st);·obtain⟨x,c,rfl⟩:=Zan.1 hc;exact⟨x,List.mem_append_right _ c,rfl⟩
  have hc:(v.map (·.st)).contains s=false:=by simpa using hc
  rw[hc]at i;simp only[Bool.not_false,Zac]at i;obtain⟨x,c,e⟩:=h.all s p i;exact⟨x,Zbz _ c,e⟩
 ·rw[Zbh];refine⟨h.nd,E.imp fun h=>by omega,fun x c y A e=>?_⟩;have:=(h.st x c).2.1;rw[e,(u y A).2]at this;cases this
 ·rcases ZaE.1 c with c|c;·exact h.re x c
  exact .inr (k x c).2.1
 ·rcases ZaE.1 c with c|c;·obtain⟨e,he,t,r,z,d,g,z2⟩:=h.un x c o;exact⟨e,he,t,r,z,Zbz _ d,g,z2⟩
  obtain⟨q1,_,C⟩:=k x c;obtain⟨e,he,t,r,G⟩:=C o;obtain⟨z,d,g⟩:=h.all e.2.2 (f.1 e he).2 G;exact⟨e,he,t,r,z,Zbz _ d,g,by rw[q1];exact(h.st z d).2.2⟩
 rcases ZaE.1 c with c|c;·obtain⟨q,b2⟩:=h.bl x c o;refine⟨q,fun e he h1=>?_⟩;obtain⟨z,d,g⟩:=b2 e he h1;exact⟨z,Zbz _ d,g⟩
 obtain⟨q,b2⟩:=B x c o;refine⟨q,fun e he h1=>?_⟩;cases i:lf l e.2.2 with|true=>obtain⟨z,d,g,z2⟩:=b2 e he h1 i;exact⟨z,List.mem_append_right _ d,g,.inr ⟨by rw[(k z d).1,(k x c).1],z2⟩⟩|false=>obtain⟨z,d,g⟩:=h.all e.2.2 (f.1 e he).2 i;exact⟨z,Zbz _ d,g,.inl (by rw[(k x c).1];exact(h.st z d).2.2)⟩
theorem RInv.rounds{n:Nat}{es:List Ed}{mk:List Nat}{unc:List Nat}{all:Bool}(d:InN n es mk)(g:mk.Nodup)(m:es.Pairwise fun a b=>a.1<=b.1):∀(f rank:Nat)(l:LB)(rs:List Rm)(k:Nat),RInv n es mk unc l rs rank->∃c:Nat,RInv n es mk unc (pRounds n es mk unc all f rank l rs k).1 (pRounds n es mk unc all f rank l rs k).2.1 c:=by intro f;induction f with|zero=>intro rank l rs k h;exact⟨rank,h⟩|succ f i=>
 intro rank l rs k h;unfold pRounds;split;·exact⟨rank,h⟩
 exact i _ _ _ _ (h.round d g m)
structure RemOk(a:Aut)(u:List Nat)(left:Nat->Bool)(R:List Rm):Prop where
 st:∀x∈R,x.st<a.n/\left x.st=false
 all:∀s,s<a.n->left s=false->∃x∈R,x.st=s
 nd:R.Pairwise fun x y=>x.st≠y.st
 re:∀x∈R,x.reason=1\/x.reason=2\/x.reason=3
 un:∀x∈R,x.reason=2->∃e∈a.es,e.1=x.st/\e.2.1∈u/\∃z∈R,z.st=e.2.2/\z.rank<x.rank
 bl:∀x∈R,x.reason=3->x.st∉a.ms/\∀e∈a.es,e.1=x.st->∃z∈R,z.st=e.2.2/\(z.rank<x.rank\/(z.rank=x.rank/\z.reason=3))
theorem QqT{a:Aut}{f u:List Nat}{all:Bool}(h:WfA a)(hf:f.Pairwise (·<·))(r:∀x∈f,x<a.n):RemOk a u (lf (fin a.n a.es a.ms f u all).1) (pRes a f u all).rem:=by
 have t:RInv a.n a.es a.ms u (left0 a.n f) (f.map rm0) ((2:Nat):Int):=by
  refine⟨fun x b=>?_,fun s m g=>?_,?_,fun x b=>?_,fun x b c=>?_,fun x b c=>?_⟩;·obtain⟨i,hi,rfl⟩:=Zan.1 b;refine⟨r i hi,?_,by simp[rm0]⟩;rw[ZaA];intro e;exact(QeG.1 e).2 hi
  ·by_cases hm:s∈f;·exact⟨rm0 s,Zan.2 ⟨s,hm,rfl⟩,rfl⟩
   rw[QeG.2 ⟨m,hm⟩]at g;cases g
  ·rw[ZbB];exact hf.imp fun{x y}h=>by simp only[rm0];omega
  ·obtain⟨i,hi,rfl⟩:=Zan.1 b;exact .inl rfl
  ·obtain⟨i,hi,rfl⟩:=Zan.1 b;simp[rm0]at c
  obtain⟨i,hi,rfl⟩:=Zan.1 b;simp[rm0]at c
 obtain⟨d,c⟩:=RInv.rounds (mk:=a.ms) (all:=all) h.inN h.nd h.srt (a.n+1) 2 (left0 a.n f) (f.map rm0) (if f.length=0 then 0 else 1) t;have hp:=QgQ (fin a.n a.es a.ms f u all).2.1;replace c:RInv a.n a.es a.ms u (fin a.n a.es a.ms f u all).1 (fin a.n a.es a.ms f u all).2.1 d:=c;show RemOk a u _ (srtR (fin a.n a.es a.ms f u all).2.1);refine⟨fun x b=>?_,fun s m g=>?_,?_,fun x b=>c.re x (hp.mem_iff.1 b),fun x b l=>?_,fun x b l=>?_⟩;·obtain⟨p,a2,_⟩:=c.st x (hp.mem_iff.1 b);exact⟨p,a2⟩
 ·obtain⟨x,b,e⟩:=c.all s m g;exact⟨x,hp.mem_iff.2 b,e⟩
 ·exact(hp.pairwise_iff fun{x y}h=>fun e=>h e.symm).2 c.nd
 ·obtain⟨e,he,w,q,z,o,k,z2⟩:=c.un x (hp.mem_iff.1 b) l;exact⟨e,he,w,q,z,hp.mem_iff.2 o,k,z2⟩
 obtain⟨v,b2⟩:=c.bl x (hp.mem_iff.1 b) l;refine⟨v,fun e he h1=>?_⟩;obtain⟨z,o,k⟩:=b2 e he h1;exact⟨z,hp.mem_iff.2 o,k⟩
def remAt(R:List Rm)(s:Nat):Option Rm:=R.find? fun x=>x.st==s
theorem QcA{R:List Rm}{s:Nat}{x:Rm}(h:remAt R s=some x):x∈R/\x.st=s:=by refine⟨Za2 h,?_⟩;have:=ZbM h;simpa using this
theorem Qiu{R:List Rm}(a:R.Pairwise fun x y=>x.st≠y.st){x:Rm}(h:x∈R):remAt R x.st=some x:=by unfold remAt;induction R with|nil=>cases h|cons y R b=>
 rw[Zax]at a;rw[List.find?_cons];rcases Zau.1 h with rfl|h;·simp
 have :(y.st==x.st)=false:=by simpa using a.1 x h
 rw[this];exact b a.2 h
inductive Leads(a:Aut)(u:List Nat):Nat->Nat->Prop|here(s:Nat):Leads a u s s|step{s t:Nat}{e:Ed}(he:e∈a.es)(h1:e.1=s)(hu:e.2.1∈u)(h:Leads a u e.2.2 t):Leads a u s t
theorem QqU{a:Aut}{u:List Nat}{left:Nat->Bool}{R:List Rm}(h:RemOk a u left R):∀(k:Nat)(x:Rm),x∈R->∀b:Int,(∀y∈R,b<=y.rank)->x.rank-b<k->∃z∈R,z.reason≠2/\Leads a u x.st z.st:=by intro k;induction k with|zero=>intro x c b d hk;have:=d x c;omega|succ k p=>
 intro x c b d hk;by_cases f:x.reason=2;·obtain⟨e,he,g,o,z,l,m,z2⟩:=h.un x c f;obtain⟨y,i,q,r⟩:=p z l b d (by omega);exact⟨y,i,q,.step he g o (m▸r)⟩
 exact⟨x,c,f,.here _⟩
theorem QqV{a:Aut}{u:List Nat}{left:Nat->Bool}{R:List Rm}(h:RemOk a u left R){x:Rm}(d:x∈R):∃z∈R,z.reason≠2/\Leads a u x.st z.st:=by
 obtain⟨b,f⟩:∃b:Int,∀y∈R,b<=y.rank:=by clear d h;induction R with|nil=>exact⟨0,fun y k=>by cases k⟩|cons y R g=>
  obtain⟨r,i⟩:=g;refine⟨min r y.rank,fun z c=>?_⟩;rcases Zau.1 c with rfl|c;·omega
  have:=i z c;omega
 exact QqU h (x.rank-b+1).toNat x d b f (by have:=f x d;omega)
end Go.AM.SE
namespace Go.AM.TQ
open Go.Proofs
set_option maxHeartbeats 4000000
noncomputable section
def cf:YA.Cf:={most:=.pure,always:=[263,251,200].map fun k=>(k,.heap),value:=.pure}
def s17:SFn:=by
 refine(?f:YA.Yt Tryz.prog cf 17 [[0],[19,20,18,21,22],[23],[1,4,5,24,25,26],[5,24,27,28,29,30,31],[32,33,34],[],[38,39,40,41],[8,43,44,45,42,46,47],[48,49,50,51,52,53,54],[55,56,57,58,59,60,61,62,63,64,65,66,67,68,69,70,71,72,73,74],[9,76,77,78,79,80,81,75,82,83,84,85,15],[14],[7,10,11,12,13,86,87,88,89,90,91,92,93,94,95],[10,11,12,13,86,96,97,98],[99,100],[101],[102,103,104,105,106,107],[7,16,17,108,109,110,111,112,113,114,115,116,117],[7,99,118],[1,4,6,35,36,37,119]] [(10,[(4,7),(5,7),(4,13),(5,13),(10,13),(11,13),(3,15),(5,15),(9,15),(11,15)])]) ?s ?h;case h=>exact YA.rr
 exact fun s _=>s
def s263:SFn:=by
 refine(?f:YA.Yt Tryz.prog cf 263 [[4],[6],[],[9,10],[11,12,13,14,15],[0,1,7,8,5,16,17],[4,5,16,18],[0,1,7,8]]) ?s ?h;case h=>exact YA.rr
 exact fun s _=>s
def s61:SFn:=by
 refine(?f:YA.Yt Tryz.prog cf 61 [[4,5],[0,7,8,9,10,11,12],[1,6,13,14,15,16,17,18,19]]) ?s ?h;case h=>exact YA.rr
 exact fun s _=>s
def s63:SFn:=by
 refine(?f:YA.Yt Tryz.prog cf 63 [[0,4,5,6,7],[10,11,12],[13],[1,2,8,14,15],[4,5,6,7,1,8,14,16,17,18,19],[26,27],[2,9,25],[25,29,30,31,32,33],[2,9,28,34],[2,9,28,20,21,22,23,24]]) ?s ?h;case h=>exact YA.rr
 exact fun s _=>s
def s64:SFn:=by
 refine(?f:YA.Yt Tryz.prog cf 64 [[0,1,2,6],[3,4,5,7]]) ?s ?h;case h=>exact YA.rr
 exact fun s _=>s
def s251:SFn:=by
 refine(?f:YA.Yt Tryz.prog cf 251 [[4],[0,1,5,6,7,8]]) ?s ?h;case h=>exact YA.rr
 exact fun s _=>s
def s120:SFn:=by
 refine(?f:YA.Yt Tryz.prog cf 120 [[0,4],[6,7],[8],[1,2,5,9,10],[1,2,5,9,11,12,13]]) ?s ?h;case h=>exact YA.rr
 exact fun s _=>s
def s121:SFn:=by
 refine(?f:YA.Yt Tryz.prog cf 121 [[1,4],[0,3,5,6,7]]) ?s ?h;case h=>exact YA.rr
 exact fun s _=>s
def s122:SFn:=by
 refine(?f:YA.Yt Tryz.prog cf 122 [[0,2],[],[8],[],[12,13,14],[5,15,16,17,18,19],[20],[1,9,10,11,21],[],[25,26,27],[7,28,29,30,31,32],[33],[3,22,23,24,34]]) ?s ?h;case h=>exact YA.rr
 exact fun s _=>s
def s124:SFn:=by
 refine(?f:YA.Yt Tryz.prog cf 124 [[0,4,5],[10,11,12],[13],[1,2,6,14,15],[4,5,6,14],[1,2,16,17],[],[21,22,23],[9,24,25,26,27,28],[29],[7,18,19,20,30]]) ?s ?h;case h=>exact YA.rr
 exact fun s _=>s
def s125:SFn:=by
 refine(?f:YA.Yt Tryz.prog cf 125 [[6],[0,12,13,14,15],[],[19,20,21,22],[23,24,25,26,27],[8,28,30,31,32,33,34,35,36,37,29,38,39,40,9,11],[10,41],[1,2,16,17,18,7,42,43],[6,7,42,44],[1,2,16,17,18]]) ?s ?h;case h=>exact YA.rr
 exact fun s _=>s
def s291:SFn:=by
 refine(?f:YA.Yt Tryz.prog cf 291 [[4],[6],[],[9,10],[11,12,13,14,15],[0,1,7,8,5,16,17],[4,5,16,18],[0,1,7,8]]) ?s ?h;case h=>exact YA.rr
 exact fun s _=>s
def s199:SFn:=by
 refine(?f:YA.Yt Tryz.prog cf 199 [[0,4],[7,8,9,10,11],[1,2,12],[4,1,12],[],[16,17,18,19],[5,6,20,21,22],[2,13,14,15,29,23,28,27,25,26,24,30],[4,30,31],[2,13,14,15,29,23,28,27,25,26,24]]) ?s ?h;case h=>exact YA.rr
 exact fun s _=>s
def s200:SFn:=by
 refine(?f:YA.Yt Tryz.prog cf 200 [[4],[6],[],[9,10],[11,12,13,14,15],[0,1,7,8,5,16,17],[4,5,16,18],[0,1,7,8]]) ?s ?h;case h=>exact YA.rr
 exact fun s _=>s
def s201:SFn:=by
 refine(?f:YA.Yt Tryz.prog cf 201 [[3],[0,1,4,5,6]]) ?s ?h;case h=>exact YA.rr
 exact fun s _=>s
def s202:SFn:=by
 refine(?f:YA.Yt Tryz.prog cf 202 [[0,2],[1,3]]) ?s ?h;case h=>exact YA.rr
 exact fun s _=>s
def s203:SFn:=by
 refine(?f:YA.Yt Tryz.prog cf 203 [[0,2],[1,3]]) ?s ?h;case h=>exact YA.rr
 exact fun s _=>s
def s204:SFn:=by
 refine(?f:YA.Yt Tryz.prog cf 204 [[0,4],[6,7],[8],[1,2,5,9,10],[4,1,2,5,9,11,12,13,14,15,16,17],[18],[18]]) ?s ?h;case h=>exact YA.rr
 exact fun s _=>s
def s143:SFn:=by
 refine(?f:YA.Yt Tryz.prog cf 143 [[0,6,7,8],[10,11,12],[13],[1,2,3,14,15],[8,6,7,14,16,17,18,19],[1,2,3,20],[6,7,8,1,2,3,20,21,22,23,24],[25],[9,26,27],[9,26]]) ?s ?h;case h=>exact YA.rr
 exact fun s _=>s
def s219:SFn:=by
 refine(?f:YA.Yt Tryz.prog cf 219 [[0,2,6],[1,3,9,10,11],[5,12,13,14],[15],[7,8,16],[7,8,16,17,18,19,20,21]]) ?s ?h;case h=>exact YA.rr
 exact fun s _=>s
def s250:SFn:=by
 refine(?f:YA.Yt Tryz.prog cf 250 [[0,3],[1,2,4,5,6,7,8]]) ?s ?h;case h=>exact YA.rr
 exact fun s _=>s
def s252:SFn:=by
 refine(?f:YA.Yt Tryz.prog cf 252 [[0,3],[1,2,4,5,6,7,8,9,10,11]]) ?s ?h;case h=>exact YA.rr
 exact fun s _=>s
def s253:SFn:=by
 refine(?f:YA.Yt Tryz.prog cf 253 [[3],[0,1,4,5,6,7,8,9]]) ?s ?h;case h=>exact YA.rr
 exact fun s _=>s
def s254:SFn:=by
 refine(?f:YA.Yt Tryz.prog cf 254 [[0,4],[],[2,8],[],[12,13,14],[7,15,16,17,18,19,20,21,22,23,24],[25],[1,5,9,10,11,26]]) ?s ?h;case h=>exact YA.rr
 exact fun s _=>s
def s264:SFn:=by
 refine(?f:YA.Yt Tryz.prog cf 264 [[0,3],[1,2,4,5,6,7]]) ?s ?h;case h=>exact YA.rr
 exact fun s _=>s
theorem ok17:Kq 17 s17=true:=by kernel_rfl
theorem ok263:Kq 263 s263=true:=by kernel_rfl
theorem ok61:Kq 61 s61=true:=by kernel_rfl
theorem ok63:Kq 63 s63=true:=by kernel_rfl
theorem ok64:Kq 64 s64=true:=by kernel_rfl
theorem ok251:Kq 251 s251=true:=by kernel_rfl
theorem ok120:Kq 120 s120=true:=by kernel_rfl
theorem ok121:Kq 121 s121=true:=by kernel_rfl
theorem ok122:Kq 122 s122=true:=by kernel_rfl
theorem ok124:Kq 124 s124=true:=by kernel_rfl
theorem ok125:Kq 125 s125=true:=by kernel_rfl
theorem ok291:Kq 291 s291=true:=by kernel_rfl
theorem ok199:Kq 199 s199=true:=by kernel_rfl
theorem ok200:Kq 200 s200=true:=by kernel_rfl
theorem ok201:Kq 201 s201=true:=by kernel_rfl
theorem ok202:Kq 202 s202=true:=by kernel_rfl
theorem ok203:Kq 203 s203=true:=by kernel_rfl
theorem ok204:Kq 204 s204=true:=by kernel_rfl
theorem ok143:Kq 143 s143=true:=by kernel_rfl
theorem ok219:Kq 219 s219=true:=by kernel_rfl
theorem ok250:Kq 250 s250=true:=by kernel_rfl
theorem ok252:Kq 252 s252=true:=by kernel_rfl
theorem ok253:Kq 253 s253=true:=by kernel_rfl
theorem ok254:Kq 254 s254=true:=by kernel_rfl
theorem ok264:Kq 264 s264=true:=by kernel_rfl
end
end Go.AM.TQ
namespace Go.AM.TP
open Go.Proofs
set_option maxHeartbeats 4000000
noncomputable section
def cf:YA.Cf:={most:=.pure,always:=[41].map fun k=>(k,.heap)}
def s16:SFn:=by
 refine(?f:YA.Yt Tryz.prog cf 16 [[0,3,4],[6,7],[8],[1,5,9,10,11],[1,5,9,12,13,14,15,16,17,18]]) ?s ?h;case h=>exact YA.rr
 exact fun s _=>s
def s58:SFn:=by
 refine(?f:YA.Yt Tryz.prog cf 58 [[3,4],[17,18],[19],[0,5,20,21,22],[3,4,0,5,20,23,24],[25,26,27],[29,30,28,31,32],[8,33],[6,7,34,35],[4,34,36,37],[7,38,39,40,41],[],[42,43,44],[45,48,49,50,51,52],[53,54,55,56,57,58,59],[53,60],[],[64,65,66],[68,69,70,71,72,73,74,67,75,76],[14,77],[78,80,81,82,83,79,84,85],[16,86],[15,87,88,89],[6,9,10,61,62,63,12,13,90,91],[4,90,92,93],[94,95,96,97],[13,98,99,100,101],[12,15,13,87,102,103,104,105,106,107,108,109,110],[111],[61,62,63,46,47],[6,9,10,112,113,114],[115,116]]) ?s ?h;case h=>exact YA.rr
 exact fun s _=>s
def s59:SFn:=by
 refine(?f:YA.Yt Tryz.prog cf 59 [[2],[],[0],[],[9,10,11],[5,12,13,14,15,16],[17],[3,6,7,8,18]]) ?s ?h;case h=>exact YA.rr
 exact fun s _=>s
def s113:SFn:=by
 refine(?f:YA.Yt Tryz.prog cf 113 [[2],[6,7],[0,8],[2,0,8],[],[12,13,14],[4,15,16],[17],[9,10,11,5,18,19],[2,5,18,20],[9,10,11]]) ?s ?h;case h=>exact YA.rr
 exact fun s _=>s
def s114:SFn:=by
 refine(?f:YA.Yt Tryz.prog cf 114 [[],[9,10,11,12],[0],[],[16,17,18],[19],[5,20],[],[24,25,26],[8,27,28,29,30,31,32,33,34],[35],[6,21,22,23,36,37,38,39,40,41],[42],[3,13,14,15,43]]) ?s ?h;case h=>exact YA.rr
 exact fun s _=>s
def s115:SFn:=by
 refine(?f:YA.Yt Tryz.prog cf 115 [[0,2,3],[6],[],[10,11,12],[5,13,14],[1,7,8,9,15],[2,3,15,16],[1,7,8,9,17,18,19,20]]) ?s ?h;case h=>exact YA.rr
 exact fun s _=>s
def s117:SFn:=by
 refine(?f:YA.Yt Tryz.prog cf 117 [[0,4],[2,7],[],[11,12,13,14],[6,5,15,16,17,18,19,20,21],[1,8,9,10,22],[4,22,23],[1,8,9,10]]) ?s ?h;case h=>exact YA.rr
 exact fun s _=>s
def s118:SFn:=by
 refine(?f:YA.Yt Tryz.prog cf 118 [[0,6,7],[13,14],[15],[],[19,20,21,22],[10,23,24,25,26],[27,29,30,31,32,33,34,35,36,37,38,39,40,28,41,42],[12,43],[1,2,3,8,16,17,18,9,11,44],[6,7,9,11,44,45,46,47,48],[49],[1,2,3,8,16,17,18,50]]) ?s ?h;case h=>exact YA.rr
 exact fun s _=>s
def s196:SFn:=by
 refine(?f:YA.Yt Tryz.prog cf 196 [[2],[],[0],[],[9,10,11],[5,12,13,14,15],[16],[3,6,7,8,17]]) ?s ?h;case h=>exact YA.rr
 exact fun s _=>s
def s142:SFn:=by
 refine(?f:YA.Yt Tryz.prog cf 142 [[4],[0,1,8,9,10,7,11,12,5],[6,13]]) ?s ?h;case h=>exact YA.rr
 exact fun s _=>s
theorem ok16:Kq 16 s16=true:=by kernel_rfl
theorem ok58:Kq 58 s58=true:=by kernel_rfl
theorem ok59:Kq 59 s59=true:=by kernel_rfl
theorem ok113:Kq 113 s113=true:=by kernel_rfl
theorem ok114:Kq 114 s114=true:=by kernel_rfl
theorem ok115:Kq 115 s115=true:=by kernel_rfl
theorem ok117:Kq 117 s117=true:=by kernel_rfl
theorem ok118:Kq 118 s118=true:=by kernel_rfl
theorem ok196:Kq 196 s196=true:=by kernel_rfl
theorem ok142:Kq 142 s142=true:=by kernel_rfl
end
end Go.AM.TP
namespace Go.AM
section
variable{m:Nat}{π:Nat->Option Src}{h:Heap}
theorem Rn.frzM{b g:Nat}{es:List (AV×AV)}{ks vs:List AV}(l:h.get b=some (.map g es))(hm:m<=b)(o:∀i s,m<=i->π i≠some (.blk b s))(hk:RnL m π h ks (es.map (·.1)))(q:RnL m π h vs (es.map (·.2))):Rn m π h (.fmap ks vs) (.map b g):=fun _ c w v H M d=>by simp only[VRel]at d;obtain⟨r,hp,rfl⟩:=d;obtain⟨ms,clock,hO,t,f,p⟩:=H.atMap l hp;have a:=M.out H ⟨_,l,rfl,fun k=>by simp⟩ hp hm o;obtain⟨g1,g2,g3⟩:=Qjz f;have u:=QbI f;simp only[VRel];exact⟨r,ms,clock,rfl,.inr ⟨hO,a⟩,t,by simp_all,g1,hk.rels H M g2,q.rels H M g3⟩
end
end Go.AM
namespace Go.AM
variable{P:Program}
def mapS(f:List UInt8->AV)(l:List (List UInt8)):List (AV×AV):=l.map fun x=>(.str x,f x)
def updS(f:List UInt8->AV)(x:List UInt8)(v:AV):List UInt8->AV:=fun y=>if y=x then v else f y
theorem QgU{x y:List UInt8}:keyEq false [.s] (.str x) (.str y)=some (decide (x=y)):=by simp_all[keyEq,eqCells,eqCell]
theorem QfS{f:List UInt8->AV}{x:List UInt8}:∀(l:List (List UInt8))(i:Nat),x∉l->aFind false [.s] (.str x) (mapS f l) i=some none|[],_,_=>rfl|y::l,i,a=>by simp only[Zau,not_or]at a;show(match keyEq false [.s] (.str x) (.str y)with|some true=>_|some false=>_|none=>_)=_;rw[QgU,decide_eq_false a.1];exact QfS l (i+1) a.2
theorem Qsi{f:List UInt8->AV}{x:List UInt8}{v:AV}{l:List (List UInt8)}(a:x∉l):mapS f l++[(.str x,v)]=mapS (updS f x v) (l++[x]):=by grind[mapS,updS,Za8]
theorem Qk1{x:List UInt8}:keyOK false [.s] (.str x)=true:=by unfold keyOK;rw[QgU]
section
variable{N:NM}{d:Option Nat}{r:List SOper}{dead:List Nat}{fs:List Fr}{n:Nat}{T:Tmps}{h:Heap}{Q:QC}
theorem QgV{f:List UInt8->AV}{x:List UInt8}{l:List (List UInt8)}{b g:Nat}{z:AV}{ok:Bool}(a:h.get b=some (.map g (mapS f l)))(c:x∉l)(hk:wR P N r dead fs (n+1) (putD T d (if ok then .tup [z,.bool false]else z)) h Q):wM P N (aLookup false [.s] z ok (.map b g) (.str x)) d r dead fs n T h Q:=by refine⟨_,h,?_,hk⟩;simp_all[aLookup,Qk1,HM.entries,HM.run,QfS]
theorem QeI{f:List UInt8->AV}{x:List UInt8}{l:List (List UInt8)}{b g:Nat}{v:AV}(k:h.get b=some (.map g (mapS f l)))(c:x∉l)(i:b<1099511627775)(hk:wR P N r dead fs (n+1) (putD T d .any) (h.set b (.map g (mapS (updS f x v) (l++[x])))) Q):wM P N (aMapUpd false [.s] (.map b g) (.str x) v) d r dead fs n T h Q:=by
 refine⟨_,_,?_,hk⟩;have m:Nat.beq g g=true:=by simp
 have a:Nat.blt b lim=true:=by simp[Nat.blt];exact i
 unfold aMapUpd;rw[if_pos Qk1];simp only[HM.entries,HM.run,k,m,cond_true,QfS l 0 c,a,Qsi c]
end
theorem RnM.mapS{m:Nat}{π:Nat->Option Src}{h:Heap}{f g:List UInt8->AV}:∀{l:List (List UInt8)},(∀x∈l,Rn m π h (f x) (g x))->RnM m π h (mapS f l) (mapS g l)|[],_=>trivial|x::l,hf=>⟨⟨Zcq rfl,hf x (by simp)⟩,RnM.mapS (l:=l) fun y a=>hf y (by simp[a])⟩
end Go.AM
set_option linter.unusedSectionVars false
namespace Go.AM
variable{P:Program}{α:Type}[DecidableEq α]
def mapG(c:α->AV)(f:α->AV)(l:List α):List (AV×AV):=l.map fun x=>(c x,f x)
def updG(f:α->AV)(x:α)(v:AV):α->AV:=fun y=>if y=x then v else f y
def KeyG(row:Bool)(ks:List LK)(c:α->AV)(x:α)(l:List α):Prop:=keyOK row ks (c x)=true/\∀y∈l,keyEq row ks (c x) (c y)=some (decide (x=y))
theorem QgW{row:Bool}{ks:List LK}{c f:α->AV}{x:α}:∀(l:List α)(i:Nat),KeyG row ks c x l->x∈l->aFind row ks (c x) (mapG c f l) i=some (some (i+l.findIdx (·==x),f x))
 |y::l,i,hk,d=>by
  show(match keyEq row ks (c x) (c y)with|some true=>_|some false=>_|none=>_)=_;rw[hk.2 y (by simp),List.findIdx_cons];by_cases e:x=y;·subst e;simp
  have a:(y==x)=false:=by grind
  rw[decide_eq_false e,a];show aFind row ks (c x) (mapG c f l) (i+1)=_;rw[QgW l (i+1) ⟨hk.1,fun y b=>hk.2 y (by simp[b])⟩ ((Zau.1 d).resolve_left e)];grind
theorem Qd6{row:Bool}{ks:List LK}{c f:α->AV}{x:α}:∀(l:List α)(i:Nat),KeyG row ks c x l->x∉l->aFind row ks (c x) (mapG c f l) i=some none|[],_,_,_=>rfl|y::l,i,hk,a=>by simp only[Zau,not_or]at a;show(match keyEq row ks (c x) (c y)with|some true=>_|some false=>_|none=>_)=_;rw[hk.2 y (by simp),decide_eq_false a.1];exact Qd6 l (i+1) ⟨hk.1,fun y b=>hk.2 y (by simp[b])⟩ a.2
theorem Qsj{c f:α->AV}{x:α}{v:AV}{l:List α}(a:x∉l):mapG c f l++[(c x,v)]=mapG c (updG f x v) (l++[x]):=by grind[mapG,updG,Za8]
theorem Qjg{c f g:α->AV}{l:List α}(h:∀x∈l,f x=g x):mapG c f l=mapG c g l:=Za8 fun x a=>by rw[h x a]
abbrev fmapG(c f:α->AV)(l:List α):AV:=.fmap (l.map c) (l.map f)
theorem QmQ{c f:α->AV}(l:List α):(l.map c).zip (l.map f)=mapG c f l:=by induction l with|nil=>rfl|cons x l a=>simp only[ZaJ,List.zip_cons_cons,a];rfl
section
variable{N:NM}{d:Option Nat}{r:List SOper}{dead:List Nat}{fs:List Fr}{n:Nat}{T:Tmps}{h:Heap}{Q:QC}{row:Bool}{ks:List LK}{c f:α->AV}{x:α}{l:List α}{b g:Nat}{z v:AV}{ok:Bool}
theorem QdK(i:h.get b=some (.map g (mapG c f l)))(a:KeyG row ks c x l)(k:x∈l)(hk:wR P N r dead fs (n+1) (putD T d (if ok then .tup [f x,.bool true]else f x)) h Q):wM P N (aLookup row ks z ok (.map b g) (c x)) d r dead fs n T h Q:=by
 refine⟨_,h,?_,hk⟩;have m:Nat.beq g g=true:=by simp
 unfold aLookup;rw[if_pos a.1];simp_all[HM.entries,HM.run,QgW]
theorem Qb3(i:h.get b=some (.map g (mapG c f l)))(a:KeyG row ks c x l)(k:x∉l)(hk:wR P N r dead fs (n+1) (putD T d (if ok then .tup [z,.bool false]else z)) h Q):wM P N (aLookup row ks z ok (.map b g) (c x)) d r dead fs n T h Q:=by
 refine⟨_,h,?_,hk⟩;have m:Nat.beq g g=true:=by simp
 unfold aLookup;rw[if_pos a.1];simp_all[HM.entries,HM.run,Qd6]
theorem Qda(a:KeyG row ks c x l)(b:x∈l)(hk:wR P N r dead fs (n+1) (putD T d (if ok then .tup [f x,.bool true]else f x)) h Q):wM P N (aLookup row ks z ok (fmapG c f l) (c x)) d r dead fs n T h Q:=by refine⟨_,h,?_,hk⟩;unfold aLookup;rw[if_pos a.1];simp only[fmapG];rw[QmQ,QgW l 0 a b];rfl
theorem Qd1(a:KeyG row ks c x l)(b:x∉l)(hk:wR P N r dead fs (n+1) (putD T d (if ok then .tup [z,.bool false]else z)) h Q):wM P N (aLookup row ks z ok (fmapG c f l) (c x)) d r dead fs n T h Q:=by refine⟨_,h,?_,hk⟩;unfold aLookup;rw[if_pos a.1];simp only[fmapG];rw[QmQ,Qd6 l 0 a b];rfl
theorem Qbs(m:h.get b=some (.map g (mapG c f l)))(i:KeyG row ks c x l)(k:x∉l)(o:b<1099511627775)(hk:wR P N r dead fs (n+1) (putD T d .any) (h.set b (.map g (mapG c (updG f x v) (l++[x])))) Q):wM P N (aMapUpd row ks (.map b g) (c x) v) d r dead fs n T h Q:=by
 refine⟨_,_,?_,hk⟩;have p:Nat.beq g g=true:=by simp
 have a:Nat.blt b lim=true:=by simp[Nat.blt];exact o
 unfold aMapUpd;rw[if_pos i.1];simp only[HM.entries,HM.run,m,p,cond_true,Qd6 l 0 i k,a,Qsj k]
end
theorem RnM.mapG{m:Nat}{π:Nat->Option Src}{h:Heap}{c f:α->AV}:∀{l:List α},(∀x∈l,noRef (c x)=true/\noRef (f x)=true)->RnM m π h (mapG c f l) (mapG c f l)|[],_=>trivial|x::l,hf=>⟨⟨Zcq (hf x (by simp)).1,Zcq (hf x (by simp)).2⟩,RnM.mapG (l:=l) fun y a=>hf y (by simp[a])⟩
abbrev kP(x:Nat×Nat):AV:=.agg [.int .i64 (x.1:Int),.int .i64 (x.2:Int)]
theorem QmR{x:Nat×Nat}{l:List (Nat×Nat)}:KeyG true [.i,.i] kP x l:=by
 have key:∀y:Nat×Nat,keyEq true [.i,.i] (kP x) (kP y)=some (decide (x=y)):=by intro y;obtain⟨a,b⟩:=x;obtain⟨c,d⟩:=y;simp only[keyEq,eqCells,eqCell,Zaj];by_cases f:a=c<;>by_cases g:b=d<;>simp[f,g]<;>omega
 refine⟨?_,fun y _=>key y⟩;simp_all[keyOK]
end Go.AM
namespace Go.AM
theorem Rn.fzM{α:Type}{m:Nat}{h:Heap}{o:List (Nat×Src)}{b g:Nat}{c f:α->AV}{l:List α}(a:h.get b=some (.map g (mapG c f l)))(p:srcNew (.blk b g) o=true)(hm:Nat.ble m b=true)(hk:∀x∈l,noRef (c x)=true/\noRef (f x)=true):Rn m (ow m o) h (fmapG c f l) (.map b g):=by
 refine Rn.frzM a (by simpa using hm) (fun q r i e=>?_) ?_ ?_;·rw[ow_ge i]at e;exact QjK p q _ e rfl
 ·have e:(mapG c f l).map (·.1)=l.map c:=by simp[mapG]
  rw[e];clear a e;induction l with|nil=>trivial|cons x l k=>exact⟨Zcq (hk x (by simp)).1,k fun y d=>hk y (by simp[d])⟩
 have e:(mapG c f l).map (·.2)=l.map f:=by simp[mapG]
 rw[e];clear a e;induction l with|nil=>trivial|cons x l k=>exact⟨Zcq (hk x (by simp)).2,k fun y d=>hk y (by simp[d])⟩
end Go.AM
theorem _root_.Go.AM.ZcQ:type_of%@Go.AM.RnM.mapG:=@Go.AM.RnM.mapG
namespace Go.AM.SO
open Go.Proofs
set_option maxHeartbeats 4000000
noncomputable section
def cf:YA.Cf:={most:=.pure,always:=[74].map fun k=>(k,.heap),value:=.pure}
def s21:SFn:=by
 refine(?f:YA.Yt Tryz.prog cf 21 [[0,2],[15,16,17],[18],[1,3,19,20],[2,3,19,21,22,23],[25,26],[1,4,24],[4,24,28,29,30,31,32,33,34,35,36,37],[1,27],[2,27,38],[],[39,40],[],[43,44],[8,45,46,47,48],[49],[41,42,50],[],[54,55,56],[57,58,59,60,61,62,63],[64],[1,5,6,7,51,52,53,10,11,65,66],[2,10,11,65,67,68,69,70,71],[72],[6,51,52,53,73],[],[77,78,79],[13,80,81,82,83,84,85,86],[87],[1,5,7,74,75,76,14,88,89],[2,14,88,90],[1,5,7,74,75,76,91,92,93]]) ?s ?h;case h=>exact YA.rr
 exact fun s _=>s
def s32:SFn:=by
 refine(?f:YA.Yt Tryz.prog cf 32 [[0,2],[1,3,4,5,6]]) ?s ?h;case h=>exact YA.rr
 exact fun s _=>s
def s46:SFn:=by
 refine(?f:YA.Yt Tryz.prog cf 46 [[4],[0,1,5,6,7,8]]) ?s ?h;case h=>exact YA.rr
 exact fun s _=>s
def s129:SFn:=by
 refine(?f:YA.Yt Tryz.prog cf 129 [[0,2],[1,3,4,5,6,7,8,9,10,11]]) ?s ?h;case h=>exact YA.rr
 exact fun s _=>s
def s73:SFn:=by
 refine(?f:YA.Yt Tryz.prog cf 73 [[2],[6,7],[0,8],[2,8,9],[0],[],[13,14,15],[17,18,19,20],[3,10,11,12,45,42,44,43,41,40,33,32,31,5,16],[16,22,23,24,25],[3,10,11,12,45,42,44,43,41,40,33,32,31,5,21],[21,27,28,29,30,34],[3,10,11,12,45,42,44,43,41,40,33,32,31,5,26],[26,36,37,38,39,46],[3,10,11,12,45,42,44,43,41,40,33,32,31,5,35],[2,5,35,47,48,49],[50],[3,10,11,12,45,42,44,43,41,40,33,32,31]]) ?s ?h;case h=>exact YA.rr
 exact fun s _=>s
def s75:SFn:=by
 refine(?f:YA.Yt Tryz.prog cf 75 [[4],[0,1,5,6,7]]) ?s ?h;case h=>exact YA.rr
 exact fun s _=>s
def s77:SFn:=by
 refine(?f:YA.Yt Tryz.prog cf 77 [[0],[10],[11],[],[15,16,17],[5,18,19,20,21,22,23,24,25],[26],[12,13,14,27],[],[31,32,33],[7,34,35,36,37,38,39,40,41,42,43,44],[45],[1,28,29,30,46],[],[50,51,52],[9,53,54,55,56,57,58,59,60,61,62,63,64,65],[66],[3,47,48,49,67]]) ?s ?h;case h=>exact YA.rr
 exact fun s _=>s
def s152:SFn:=by
 refine(?f:YA.Yt Tryz.prog cf 152 [[0,2],[],[],[6],[7,10,11,12,13,14,15],[16,17,18,19,20],[25,26,27,28,29,30,31],[25,32,33,34,35,36,37,38,39,40,41,42,43,44,45,46,47,48,49],[5,50,51,52,53],[8,9],[1,3,4,24,23,22,21,54]] [(3,[(7,16),(12,16),(12,18)])]) ?s ?h;case h=>exact YA.rr
 exact fun s _=>s
def s136:SFn:=by
 refine(?f:YA.Yt Tryz.prog cf 136 [[0,1,4],[7,8,9],[2,3,10],[4,10,11],[],[15,16,17,18],[20,21,22,23,30],[2,3,12,13,14,59,52,58,57,54,56,55,53,51,44,36,43,42,41,38,40,39,37,35,29,25,28,27,26,24,6,5,19],[5,19,32,33,34,45],[2,3,12,13,14,59,52,58,57,54,56,55,53,51,44,36,43,42,41,38,40,39,37,35,29,25,28,27,26,24,6,31],[6,31,47,48,49,50,60],[2,3,12,13,14,59,52,58,57,54,56,55,53,51,44,36,43,42,41,38,40,39,37,35,29,25,28,27,26,24,46],[4,46,61],[2,3,12,13,14,59,52,58,57,54,56,55,53,51,44,36,43,42,41,38,40,39,37,35,29,25,28,27,26,24]]) ?s ?h;case h=>exact YA.rr
 exact fun s _=>s
def s138:SFn:=by
 refine(?f:YA.Yt Tryz.prog cf 138 [[0,1,4],[7,8,9],[2,3,10],[4,10,11],[],[15,16,17,18],[20,21,22,23,30],[2,3,12,13,14,53,52,51,44,36,43,42,41,38,40,39,37,35,29,25,28,27,26,24,6,5,19],[5,19,32,33,34,45],[2,3,12,13,14,53,52,51,44,36,43,42,41,38,40,39,37,35,29,25,28,27,26,24,6,31],[6,31,47,48,49,50,54],[2,3,12,13,14,53,52,51,44,36,43,42,41,38,40,39,37,35,29,25,28,27,26,24,46],[4,46,55],[2,3,12,13,14,53,52,51,44,36,43,42,41,38,40,39,37,35,29,25,28,27,26,24,56,57],[58],[58]]) ?s ?h;case h=>exact YA.rr
 exact fun s _=>s
def s221:SFn:=by
 refine(?f:YA.Yt Tryz.prog cf 221 [[4],[0,1,5,6,7]]) ?s ?h;case h=>exact YA.rr
 exact fun s _=>s
def s97:SFn:=by
 refine(?f:YA.Yt Tryz.prog cf 97 [[4],[6],[],[9,10],[11,12,13,14,15],[0,1,7,8,5,16,17],[4,5,16,18],[0,1,7,8]]) ?s ?h;case h=>exact YA.rr
 exact fun s _=>s
def s139:SFn:=by
 refine(?f:YA.Yt Tryz.prog cf 139 [[2],[3],[0,4],[0,4,5,6,7]]) ?s ?h;case h=>exact YA.rr
 exact fun s _=>s
def s140:SFn:=by
 refine(?f:YA.Yt Tryz.prog cf 140 [[2],[3],[0,4],[0,4,5,6,7]]) ?s ?h;case h=>exact YA.rr
 exact fun s _=>s
def s130:SFn:=by
 refine(?f:YA.Yt Tryz.prog cf 130 [[3],[0,1,4,5,6]]) ?s ?h;case h=>exact YA.rr
 exact fun s _=>s
def s131:SFn:=by
 refine(?f:YA.Yt Tryz.prog cf 131 [[4],[0,1,5,6,7,8,9]]) ?s ?h;case h=>exact YA.rr
 exact fun s _=>s
def s132:SFn:=by
 refine(?f:YA.Yt Tryz.prog cf 132 [[6],[],[11,12,13,14],[18,19,20,21,22,35],[36,37,38,39,52],[],[],[53,54,55,56,57,58],[53],[59,60,61,62,63,64],[8,9,59,65,66,67],[10,68,69,70,71,72],[0,1,2,7,51,43,50,46,49,48,47,45,44,42,41,40,34,26,33,29,32,31,30,28,27,25,24,23,17,16,15,73]]) ?s ?h;case h=>exact YA.rr
 exact fun s _=>s
def s133:SFn:=by
 refine(?f:YA.Yt Tryz.prog cf 133 [[4],[0,1,5,6,7,8]]) ?s ?h;case h=>exact YA.rr
 exact fun s _=>s
def s216:SFn:=by
 refine(?f:YA.Yt Tryz.prog cf 216 [[2],[0,3,4,5,6,7,8]]) ?s ?h;case h=>exact YA.rr
 exact fun s _=>s
def s265:SFn:=by
 refine(?f:YA.Yt Tryz.prog cf 265 [[4],[0,1,5,6,7,8]]) ?s ?h;case h=>exact YA.rr
 exact fun s _=>s
def s215:SFn:=by
 refine(?f:YA.Yt Tryz.prog cf 215 [[4],[0,1,5,6,7]]) ?s ?h;case h=>exact YA.rr
 exact fun s _=>s
def s261:SFn:=by
 refine(?f:YA.Yt Tryz.prog cf 261 [[4],[0,1,5,6,7,8,9]]) ?s ?h;case h=>exact YA.rr
 exact fun s _=>s
theorem ok21:Kq 21 s21=true:=by kernel_rfl
theorem ok32:Kq 32 s32=true:=by kernel_rfl
theorem ok46:Kq 46 s46=true:=by kernel_rfl
theorem ok129:Kq 129 s129=true:=by kernel_rfl
theorem ok73:Kq 73 s73=true:=by kernel_rfl
theorem ok75:Kq 75 s75=true:=by kernel_rfl
theorem ok77:Kq 77 s77=true:=by kernel_rfl
theorem ok152:Kq 152 s152=true:=by kernel_rfl
theorem ok136:Kq 136 s136=true:=by kernel_rfl
theorem ok138:Kq 138 s138=true:=by kernel_rfl
theorem ok221:Kq 221 s221=true:=by kernel_rfl
theorem ok97:Kq 97 s97=true:=by kernel_rfl
theorem ok139:Kq 139 s139=true:=by kernel_rfl
theorem ok140:Kq 140 s140=true:=by kernel_rfl
theorem ok130:Kq 130 s130=true:=by kernel_rfl
theorem ok131:Kq 131 s131=true:=by kernel_rfl
theorem ok132:Kq 132 s132=true:=by kernel_rfl
theorem ok133:Kq 133 s133=true:=by kernel_rfl
theorem ok216:Kq 216 s216=true:=by kernel_rfl
theorem ok265:Kq 265 s265=true:=by kernel_rfl
theorem ok215:Kq 215 s215=true:=by kernel_rfl
theorem ok261:Kq 261 s261=true:=by kernel_rfl
end
end Go.AM.SO
namespace Go.AM.SE
open Go.Proofs Go.AM.SD
def mach:Aut:=⟨[0,1,2,3],3,[0],[(0,0,1),(1,1,0),(1,2,2),(2,3,0)]⟩
def mach3:Aut:=⟨[0,1,2,3],3,[0],[(0,0,1),(1,1,0),(1,2,2)]⟩
theorem q1:QOk mach [2] [1,2]:=⟨by decide,by decide,by decide,by decide⟩
theorem q2:QOk mach3 [] [1,2]:=⟨by decide,by decide,by decide,by decide⟩
theorem Qtn{α:Type}{p:α->Bool}{l:List α}{i:Nat}{x:α}(b:l[i]?=some x)(hp:p x=true)(a:∀j y,j<i->l[j]?=some y->p y=false):l.find? p=some x:=by obtain⟨hi,e⟩:=Zag.1 b;rw[List.find?_eq_some_iff_getElem];refine⟨hp,i,hi,e,fun j c=>?_⟩;have:=a j l[j] c (Zal (by omega));simp[this]
def stepI(es:List Ed)(s ev:Nat):Int:=match stepA es s ev with|some to=>(to:Int)|none=>-1
theorem step60(a:Aut)(s ev:Nat)(p:a.es.length<=1000000):Pq 295 [aV a,.int .i64 s,.int .i64 ev] (.int .i64 (stepI a.es s ev)):=by
 refine Zcu 64 ok295 rfl (by(try simp only[noRefs,Qal,Qam,Qad,Qaj,Qaf,Qak,Qao,Qah,noRef,Zad,Zac])<;>rfl) rfl ?_;unfold s295;refine ZcZ ?_;refine QaL 100 (fun i:Nat=>[(1,.int .i64 s),(2,.int .i64 ev),(3,.ptr 50 0 0),(7,.int .i64 i)]) (fun _=>[(50,.cells 0 [sliN a.al,.int .i64 (a.n:Int),sliN a.ms,egsN a.es])]) (fun i=>i<=a.es.length/\∀(j:Nat)y,j<i->a.es[j]?=some y->(y.1==s&&y.2.1==ev)=false) (fun i=>a.es.length-i) 0 ⟨[(50,.blk 64 0)],rfl,au0,au8,au7⟩ ⟨Zah _,fun j y k=>absurd k (ZaC _)⟩ ?_;rintro i⟨hi,l⟩;by_cases c:i<a.es.length
 ·obtain⟨e,he⟩:=Qap c;have f:(e.1==s&&e.2.1==ev)=false->i+1<=a.es.length/\∀(j:Nat)y,j<i+1->a.es[j]?=some y->(y.1==s&&y.2.1==ev)=false:=fun h=>⟨by omega,fun j y k g=>by
  by_cases r:j=i;·subst r;rw[he]at g;cases g;exact h
  exact l j y (by omega) g⟩;by_cases h1:e.1=s
  ·by_cases o:e.2.1=ev
   ·have hf:=Qtn (p:=fun e:Ed=>e.1==s&&e.2.1==ev) he (by simp[h1,o]) l;have m:stepI a.es s ev=e.2.2:=by unfold stepI stepA;rw[hf];rfl
    have b:(e.1:Int)=(s:Int):=by omega
    have d:(e.2.1:Int)=(ev:Int):=by omega
    refine Zc0 (Zc3 c (QaJ he) b d) ?_;exact⟨.inr trivial,_,rfl,by rw[m];rfl⟩
   have b:(e.1:Int)=(s:Int):=by omega
   have d:¬(e.2.1:Int)=(ev:Int):=by omega
   refine Zc0 (Zc3 c (QaJ he) b d) ?_;exact⟨i+1,by omega,f (by simp[o]),⟨[(50,.blk 50 0)],rfl,au0,au8,au7⟩⟩
  have b:¬(e.1:Int)=(s:Int):=by omega
  refine Zc0 (Zc2 c (QaJ he) b) ?_;exact⟨i+1,by omega,f (by simp[h1]),⟨[(50,.blk 50 0)],rfl,au0,au8,au7⟩⟩
 have hf:a.es.find? (fun e=>e.1==s&&e.2.1==ev)=none:=by rw[Za6];intro y g;obtain⟨j,k,q⟩:=QdS g;rw[l j y (by omega) k];decide
 have m:stepI a.es s ev=-1:=by unfold stepI stepA;rw[hf];rfl
 refine Zc0 c ?_;exact⟨.inr trivial,_,rfl,by rw[m];rfl⟩
theorem index61(l:List Int)(n:Int)(o:l.length<=140737488355328):Pq 296 [sli l,.int .i64 n] (.int .i64 (indexR l n)):=by
 refine Zcu 64 ok296 rfl (by(try simp only[noRefs,Qal,Qam,Qad,Qaj,Qaf,Qak,Qao,Qah,noRef,Zad,Zac])<;>rfl) rfl ?_;unfold s296;refine ZcZ ?_;refine QaL 100 (fun i:Nat=>[(0,sli l),(1,.int .i64 n),(5,.int .i64 i)]) (fun _=>[]) (fun i=>i<=l.length/\∀(j:Nat)y,j<i->l[j]?=some y->y≠n) (fun i=>l.length-i) 0 ⟨[],rfl,au0,au8,au7⟩ ⟨Zah _,fun j y c=>absurd c (ZaC _)⟩ ?_;rintro i⟨hi,f⟩;by_cases a:i<l.length
 ·obtain⟨x,b⟩:=Qap a;by_cases d:x=n
  ·have h1:n∈l:=d▸Zae b;have k:l.findIdx (·==n)=i:=by rw[List.findIdx_eq a];refine⟨by rw[Zal a]at b;cases b;simp[d],fun j c=>?_⟩;have:=f j l[j] c (Zal (by omega));simpa using this
   refine Zc0 (Zc2 a (QaV b) d) ?_;refine⟨.inr trivial,_,rfl,?_⟩;simp only[indexR,if_pos h1,k];rfl
  refine Zc0 (Zc2 a (QaV b) d) ?_;refine⟨i+1,by omega,⟨by omega,fun j y c g=>?_⟩,⟨[],rfl,au0,au8,au7⟩⟩;by_cases e:j=i;·subst e;rw[b]at g;cases g;exact d
  exact f j y (by omega) g
 have :n∉l:=fun h=>by obtain⟨j,c,m⟩:=QdS h;exact f j n (by omega) c rfl
 refine Zc0 a ?_;exact⟨.inr trivial,_,rfl,by simp only[indexR,if_neg this];rfl⟩
theorem QmS{l:List Nat}{x:Nat}(h:x∈l):indexR (nz l) x=idx l x:=by
 have h1:(x:Int)∈nz l:=Zan.2 ⟨x,h,rfl⟩;unfold indexR;rw[if_pos h1];unfold idx nz;rw[List.findIdx_map];congr 2;funext y;show((y:Int)==(x:Int))=(y==x);by_cases e:y=x;·subst e;simp
 have :¬(y:Int)=(x:Int):=by omega
 rw[beq_eq_false_iff_ne.2 this,beq_eq_false_iff_ne.2 e]
theorem Qk2{al:List Nat}{es:List Ed}{s:Nat}{out:List Nat}{k ev:Nat}(h:al[k]?=some ev):(al.take (k+1)).foldl (fEv es s) out=fEv es s ((al.take k).foldl (fEv es s) out) ev:=by rw[ZaZ,h,Option.toList,Za4];rfl
structure Raw(a:Aut):Prop where
 esn:∀e∈a.es,e.1<a.n/\e.2.2<a.n
 n5:a.n<=5
 el:a.es.length<=1000000
 al:a.al.length<=32
 ml:a.ms.length<=32
theorem found59(a:Aut)(h:Raw a):Pq 293 [aV a] (sliN (found a)):=by
 have M:=h.n5;have L:=h.al;refine Zct 64 ok293 rfl (by(try simp only[noRefs,Qal,Qam,Qad,Qaj,Qaf,Qak,Qao,Qah,noRef,Zad,Zac])<;>rfl) (Qae _) ?_;have m:fQ a.al a.es (a.n+1) 0 (if 0<a.n then[0]else[])=found a:=rfl;by_cases K:0<a.n
 ·rw[if_pos K]at m;have z:(0:Int)<(a.n:Int):=by omega
  unfold s293;refine Zc0 (Zc2 z @QgO @QmJ) ?_;refine QaL 100 (fun t:Nat×List Nat=>[(1,.ptr 50 0 0),(3,.sl 75 0 0 t.2.length 1),(4,.int .i64 t.1)]) (fun t=>[(50,.cells 0 [sliN a.al,.int .i64 (a.n:Int),sliN a.ms,egsN a.es]),(75,.cells 0 (ints (nz t.2)))]) (fun t=>t.1<=t.2.length/\FI a.n t.2/\fQ a.al a.es (a.n+1-t.1) t.1 t.2=found a) (fun t=>a.n+1-t.1) (0,[0]) ?_ ⟨Zah _,⟨by simp,fun x G=>by simp at G;omega⟩,by dsimp only;exact m⟩ ?_;·exact⟨[(50,.blk 64 0),(75,.blk 72 0)],rfl,au0,au8,au7⟩
  rintro⟨i,out⟩⟨hi,l,A⟩;dsimp only at hi l A⊢;have J:=l.len;by_cases d:i<out.length
  ·obtain⟨s,C⟩:=Qap d;have B:fQ a.al a.es (a.n+1-(i+1)) (i+1) (fRow a.al a.es s out)=found a:=by rw[<-A,show a.n+1-i=(a.n+1-(i+1))+1 by omega];simp only[fQ,C]
   have f:=fun k=>FI.row h.esn s (a.al.take k) out l;refine Zc0 d ?_;refine Qaq 200 (fun k:Nat=>[(1,.ptr 50 0 0),(3,.sl 75 0 0 ((a.al.take k).foldl (fEv a.es s) out).length 1),(4,.int .i64 i),(5,.int .i64 k)]) (fun k=>[(50,.cells 0 [sliN a.al,.int .i64 (a.n:Int),sliN a.ms,egsN a.es]),(75,.cells 0 (ints (nz ((a.al.take k).foldl (fEv a.es s) out))))]) (fun k=>k<=a.al.length) (fun k=>a.al.length-k) 0 2 300 (fun _:Unit=>[(1,.ptr 50 0 0),(3,.sl 75 0 0 (fRow a.al a.es s out).length 1),(4,.int .i64 i)]) (fun _=>[(50,.cells 0 [sliN a.al,.int .i64 (a.n:Int),sliN a.ms,egsN a.es]),(75,.cells 0 (ints (nz (fRow a.al a.es s out))))]) (fun _=>True) ?_ (Zah _) ?_ ?_;·exact⟨[(50,.blk 50 0),(75,.blk 75 0)],rfl,au0,au8,au7⟩
   ·rintro k hk;by_cases g:k<a.al.length
    ·obtain⟨ev,v⟩:=Qap g;have b:=Qk2 (es:=a.es) (s:=s) (out:=out) v;obtain⟨k1,⟨t,p⟩,_⟩:=f k;have H:=k1.len;have q:((a.al.take k).foldl (fEv a.es s) out)[i]?=some s:=by rw[p,ZaT d];exact C
     generalize(a.al.take k).foldl (fEv a.es s) out=o at*;have y:i<o.length:=(Zag.1 q).1
     refine Zc0 (Zc3 g y (QbN (nz_at q)) (Qaz v)) ?_;refine cp (step60 a s ev h.el) ?_;cases c:stepA a.es s ev with|none=>
      have h1:stepI a.es s ev=-1:=by unfold stepI;rw[c]
      have r:fEv a.es s o ev=o:=by unfold fEv;rw[c]
      rw[r]at b;rw[h1];refine ZcZ ?_;refine⟨k+1,by omega,by omega,?_⟩;rw[b];exact⟨[(50,.blk 50 0),(75,.blk 75 0)],rfl,au0,au8,au7⟩|some to=>
      have h1:stepI a.es s ev=to:=by unfold stepI;rw[c]
      have I:=Qcu h.esn c;rw[h1];refine ZcZ ?_;have u:=has36 (nz o) to (by simp;omega);rw[Qfh,Qbn]at u;by_cases hc:o.contains to=true
      ·have r:fEv a.es s o ev=o:=by unfold fEv;rw[c];exact if_pos hc
       rw[r]at b;rw[hc]at u;refine ch (ZcL (ZcO (FrzTo.all gg (by simp[ints])) (ZcO (Zcv _) ZcN)) u rfl) ?_;refine ZcZ ?_;refine⟨k+1,by omega,by omega,?_⟩;rw[b];exact⟨[(50,.blk 50 0),(75,.blk 75 0)],rfl,au0,au8,au7⟩
      have r:fEv a.es s o ev=o++[to]:=by unfold fEv;rw[c];exact if_neg hc
      rw[r]at b;rw[Zam]at hc;rw[hc]at u;refine ch (ZcL (ZcO (FrzTo.all gg (by simp[ints])) (ZcO (Zcv _) ZcN)) u rfl) ?_;refine ZcZ ?_;refine⟨k+1,by omega,by omega,?_⟩;rw[b,Zaf,QaF,Qay];exact⟨[(50,.blk 50 0),(75,.blk 75 1)],rfl,au0,au8,au7⟩
    have e:k=a.al.length:=by omega
    subst e;refine Zc0 g ?_;refine⟨(),?_⟩;exact⟨[(50,.blk 50 0),(75,.blk 75 0)],rfl,au0,au8,au7⟩
   rintro _ _;obtain⟨k1,⟨t,p⟩,_⟩:=f a.al.length;rw[Zar]at k1 p;have p:fRow a.al a.es s out=out++t:=p;refine ZcZ ?_;refine⟨(i+1,fRow a.al a.es s out),by dsimp only;omega,⟨by dsimp only;rw[p,List.length_append];omega,k1,B⟩,?_⟩;exact⟨[(50,.blk 50 0),(75,.blk 75 0)],rfl,au0,au8,au7⟩
  have E:out[i]?=none:=ZaD (by omega);have w:out=found a:=by rw[<-A,show a.n+1-i=(a.n-i)+1 by omega];simp only[fQ,E]
  refine Zc0 d ?_;refine⟨.inr trivial,_,rfl,?_⟩;rw[w];exact Rn.fz0 (g:=0) rfl (by simp[ints]) (Zcr (Qad _))
 rw[if_neg K]at m;have z:¬(0:Int)<(a.n:Int):=by omega
 unfold s293;refine Zc0 z ?_;refine QaL 100 (fun t:Nat×List Nat=>[(1,.ptr 50 0 0),(3,.sl 75 0 0 t.2.length 1),(4,.int .i64 t.1)]) (fun t=>[(50,.cells 0 [sliN a.al,.int .i64 (a.n:Int),sliN a.ms,egsN a.es]),(75,.cells 0 (ints (nz t.2)))]) (fun t=>t.1<=t.2.length/\FI a.n t.2/\fQ a.al a.es (a.n+1-t.1) t.1 t.2=found a) (fun t=>a.n+1-t.1) (0,([]:List Nat)) ?_ ⟨Zah _,⟨by simp,fun x G=>by cases G⟩,by dsimp only;exact m⟩ ?_;·exact⟨[(50,.blk 64 0),(75,.nil)],rfl,au0,au8,au7⟩
 rintro⟨i,out⟩⟨hi,l,A⟩;dsimp only at hi l A⊢;have J:=l.len;by_cases d:i<out.length
 ·obtain⟨s,C⟩:=Qap d;have B:fQ a.al a.es (a.n+1-(i+1)) (i+1) (fRow a.al a.es s out)=found a:=by rw[<-A,show a.n+1-i=(a.n+1-(i+1))+1 by omega];simp only[fQ,C]
  have f:=fun k=>FI.row h.esn s (a.al.take k) out l;refine Zc0 d ?_;refine Qaq 200 (fun k:Nat=>[(1,.ptr 50 0 0),(3,.sl 75 0 0 ((a.al.take k).foldl (fEv a.es s) out).length 1),(4,.int .i64 i),(5,.int .i64 k)]) (fun k=>[(50,.cells 0 [sliN a.al,.int .i64 (a.n:Int),sliN a.ms,egsN a.es]),(75,.cells 0 (ints (nz ((a.al.take k).foldl (fEv a.es s) out))))]) (fun k=>k<=a.al.length) (fun k=>a.al.length-k) 0 2 300 (fun _:Unit=>[(1,.ptr 50 0 0),(3,.sl 75 0 0 (fRow a.al a.es s out).length 1),(4,.int .i64 i)]) (fun _=>[(50,.cells 0 [sliN a.al,.int .i64 (a.n:Int),sliN a.ms,egsN a.es]),(75,.cells 0 (ints (nz (fRow a.al a.es s out))))]) (fun _=>True) ?_ (Zah _) ?_ ?_;·exact⟨[(50,.blk 50 0),(75,.blk 75 0)],rfl,au0,au8,au7⟩
  ·rintro k hk;by_cases g:k<a.al.length
   ·obtain⟨ev,v⟩:=Qap g;have b:=Qk2 (es:=a.es) (s:=s) (out:=out) v;obtain⟨k1,⟨t,p⟩,_⟩:=f k;have H:=k1.len;have q:((a.al.take k).foldl (fEv a.es s) out)[i]?=some s:=by rw[p,ZaT d];exact C
    generalize(a.al.take k).foldl (fEv a.es s) out=o at*;have y:i<o.length:=(Zag.1 q).1
    refine Zc0 (Zc3 g y (QbN (nz_at q)) (Qaz v)) ?_;refine cp (step60 a s ev h.el) ?_;cases c:stepA a.es s ev with|none=>
     have h1:stepI a.es s ev=-1:=by unfold stepI;rw[c]
     have r:fEv a.es s o ev=o:=by unfold fEv;rw[c]
     rw[r]at b;rw[h1];refine ZcZ ?_;refine⟨k+1,by omega,by omega,?_⟩;rw[b];exact⟨[(50,.blk 50 0),(75,.blk 75 0)],rfl,au0,au8,au7⟩|some to=>
     have h1:stepI a.es s ev=to:=by unfold stepI;rw[c]
     have I:=Qcu h.esn c;rw[h1];refine ZcZ ?_;have u:=has36 (nz o) to (by simp;omega);rw[Qfh,Qbn]at u;by_cases hc:o.contains to=true
     ·have r:fEv a.es s o ev=o:=by unfold fEv;rw[c];exact if_pos hc
      rw[r]at b;rw[hc]at u;refine ch (ZcL (ZcO (FrzTo.all gg (by simp[ints])) (ZcO (Zcv _) ZcN)) u rfl) ?_;refine ZcZ ?_;refine⟨k+1,by omega,by omega,?_⟩;rw[b];exact⟨[(50,.blk 50 0),(75,.blk 75 0)],rfl,au0,au8,au7⟩
     have r:fEv a.es s o ev=o++[to]:=by unfold fEv;rw[c];exact if_neg hc
     rw[r]at b;rw[Zam]at hc;rw[hc]at u;refine ch (ZcL (ZcO (FrzTo.all gg (by simp[ints])) (ZcO (Zcv _) ZcN)) u rfl) ?_;refine ZcZ ?_;refine⟨k+1,by omega,by omega,?_⟩;rw[b,Zaf,QaF,Qay];exact⟨[(50,.blk 50 0),(75,.blk 75 1)],rfl,au0,au8,au7⟩
   have e:k=a.al.length:=by omega
   subst e;refine Zc0 g ?_;refine⟨(),?_⟩;exact⟨[(50,.blk 50 0),(75,.blk 75 0)],rfl,au0,au8,au7⟩
  rintro _ _;obtain⟨k1,⟨t,p⟩,_⟩:=f a.al.length;rw[Zar]at k1 p;have p:fRow a.al a.es s out=out++t:=p;refine ZcZ ?_;refine⟨(i+1,fRow a.al a.es s out),by dsimp only;omega,⟨by dsimp only;rw[p,List.length_append];omega,k1,B⟩,?_⟩;exact⟨[(50,.blk 50 0),(75,.blk 75 0)],rfl,au0,au8,au7⟩
 have E:out[i]?=none:=ZaD (by omega);have w:out=found a:=by rw[<-A,show a.n+1-i=(a.n-i)+1 by omega];simp only[fQ,E]
 refine Zc0 d ?_;refine⟨.inr trivial,_,rfl,?_⟩;rw[w];exact Rn.fz0 (g:=0) rfl (by simp[ints]) (Zcr (Qad _))
theorem Qsk(l:List Int):(ints l).all AV.one=true:=by induction l with|nil=>rfl|cons x l a=>show(AV.one _&&(ints l).all AV.one)=true;rw[a];rfl
theorem empty45(l:List Nat)(b:l.length<=1000000):Pq 268 [sliN l] (.agg [sliN l,.int .i64 0,.nilsl,.nilsl]):=by refine Zct 64 ok268 rfl (by(try simp only[noRefs,Qal,Qam,Qad,Qaj,Qaf,Qak,Qao,Qah,noRef,Zad,Zac])<;>rfl) (by simp only[noRef,noRefs,Qad];rfl) ?_;have a:=Qsk (nz l);unfold s268;refine Zc0 a ?_;refine⟨.inr trivial,_,rfl,?_⟩;exact Rn.agg (ZcH (Rn.fz0 (g:=1) rfl (by simp[ints]) (Zcr (Qad _))) (Zcr rfl))
theorem Qk3{a:Aut}{f:List Nat}{i s k ev:Nat}(h:a.al[k]?=some ev):(a.al.take (k+1)).filterMap (fun ev=>(stepA a.es s ev).map fun to=>(i,ev,idx f to))=(a.al.take k).filterMap (fun ev=>(stepA a.es s ev).map fun to=>(i,ev,idx f to))++match stepA a.es s ev with|some to=>[(i,ev,idx f to)]|none=>[]:=by rw[ZaZ,h,Option.toList,List.filterMap_append];congr 1;cases e:stepA a.es s ev with|none=>simp[e]|some to=>simp[e]
def cPre(a:Aut)(f:List Nat)(i:Nat):List Ed:=(List.range i).flatMap fun i=>cRow a f i (f.getD i 0)
def cPart(a:Aut)(f:List Nat)(i s k:Nat):List Ed:=cPre a f i++(a.al.take k).filterMap (fun ev=>(stepA a.es s ev).map fun to=>(i,ev,idx f to))
theorem QqW{a:Aut}{f:List Nat}{i s:Nat}(h:f[i]?=some s):cPre a f (i+1)=cPre a f i++cRow a f i s:=by
 unfold cPre;rw[ZaO,Zaq];have:f.getD i 0=s:=by rw[Zak,h];rfl
 rw[Zay,Zb3,Zap,this]
theorem Qsl(a:Aut)(f:List Nat)(i s:Nat):(cRow a f i s).length<=a.al.length:=by unfold cRow;exact List.length_filterMap_le _ _
theorem Qiv(a:Aut)(f:List Nat):∀i,(cPre a f i).length<=i*a.al.length|0=>by simp[cPre]|i+1=>by have h1:=Qiv a f i;have b:=Qsl a f i (f.getD i 0);unfold cPre at h1⊢;rw[ZaO,Zaq,Zaf,Zbo];simp only[Zay,Zb3,Zap];omega
theorem canon46(a:Aut)(h:Raw a):Pq 269 [aV a] (aV (canon a)):=by
 have L:=h.n5;have B:=h.al;have K:=h.ml;obtain⟨f1,_,f3⟩:=QfK h.esn;have N:=f1.len;refine Zct 64 ok269 rfl (by(try simp only[noRefs,Qal,Qam,Qad,Qaj,Qaf,Qak,Qao,Qah,noRef,Zad,Zac])<;>rfl) (Qdu _) ?_;have P:=found59 a h;have x:canon a=⟨a.al,(found a).length,mks a (found a).length (found a),cPre a (found a) (found a).length⟩:=rfl;rw[x];generalize found a=f at*;unfold s269;refine ZcZ ?_;refine cp P ?_;refine ZcZ ?_;refine cp (empty45 a.al (by omega)) ?_;refine ZcZ ?_;refine Qaq 100 (fun i:Nat=>[(1,.ptr 50 0 0),(2,.ptr 51 0 0),(3,sliN f),(4,.ptr 52 0 0),(5,.int .i64 i)]) (fun i=>[(50,.cells 0 [sliN a.al,.int .i64 (a.n:Int),sliN a.ms,egsN a.es]),(51,.cells 0 [.nilsl,.int .i64 0,.nilsl,.nilsl]),(52,.cells 0 [sliN a.al,.int .i64 f.length,.sl 77 0 0 (mks a i f).length 1,.sl 76 0 0 (cPre a f i).length 3]),(76,.cells 0 ((cPre a f i).flatMap edC)),(77,.cells 0 (ints (nz (mks a i f))))]) (fun i=>i<=f.length) (fun i=>f.length-i) 0 0 160 (fun _:Unit=>[(2,.ptr 51 0 0),(4,.ptr 52 0 0)]) (fun _=>[(51,.cells 0 [.nilsl,.int .i64 0,.nilsl,.nilsl]),(52,.cells 0 [sliN a.al,.int .i64 f.length,.sl 77 0 0 (mks a f.length f).length 1,.sl 76 0 0 (cPre a f f.length).length 3]),(76,.cells 0 ((cPre a f f.length).flatMap edC)),(77,.cells 0 (ints (nz (mks a f.length f))))]) (fun _=>True) ?_ (Zah _) ?_ ?_;·exact⟨[(50,.blk 64 0),(51,.blk 65 0),(52,.blk 72 0),(76,.nil),(77,.nil)],rfl,au0,au8,au7⟩
 ·rintro i hi;by_cases p:i<f.length
  ·obtain⟨s,v⟩:=Qap p;have z:=Zae v;have t:=Qis (a:=a) v;have J:=@QjO a i f;have E:=Qiv a f i;have I:(cPre a f i).length<=1000:=Zaw E (Zaw (Nat.mul_le_mul (show i<=5 by omega) B) (by decide));have C:=QqW (a:=a) v;have H:=QbO (cPre a f i);have A:=has36 (nz a.ms) s (by simp;omega);rw[Qfh,Qbn]at A;have o:cPart a f i s 0=cPre a f i:=by simp[cPart]
   have m:cPart a f i s a.al.length=cPre a f (i+1):=by rw[C];unfold cPart cRow;rw[Zar]
   generalize y:mks a (i+1) f=M1 at*;generalize Q:mks a i f=M at*;by_cases q:a.ms.contains s=true
   ·rw[if_pos q]at t;rw[q]at A;refine Zc0 (Zc1 p (Qaz v)) ?_;refine ch (ZcL (Zcw _) A rfl) ?_;refine ZcZ ?_;refine Qaq 300 (fun k:Nat=>[(1,.ptr 50 0 0),(2,.ptr 51 0 0),(3,sliN f),(4,.ptr 52 0 0),(5,.int .i64 i),(6,.int .i64 k)]) (fun k=>[(50,.cells 0 [sliN a.al,.int .i64 (a.n:Int),sliN a.ms,egsN a.es]),(51,.cells 0 [.nilsl,.int .i64 0,.nilsl,.nilsl]),(52,.cells 0 [sliN a.al,.int .i64 f.length,.sl 77 0 0 M1.length 1,.sl 76 0 0 (cPart a f i s k).length 3]),(76,.cells 0 ((cPart a f i s k).flatMap edC)),(77,.cells 0 (ints (nz M1)))]) (fun k=>k<=a.al.length) (fun k=>a.al.length-k) 0 2 400 (fun _:Unit=>[(1,.ptr 50 0 0),(2,.ptr 51 0 0),(3,sliN f),(4,.ptr 52 0 0),(5,.int .i64 i)]) (fun _=>[(50,.cells 0 [sliN a.al,.int .i64 (a.n:Int),sliN a.ms,egsN a.es]),(51,.cells 0 [.nilsl,.int .i64 0,.nilsl,.nilsl]),(52,.cells 0 [sliN a.al,.int .i64 f.length,.sl 77 0 0 M1.length 1,.sl 76 0 0 (cPre a f (i+1)).length 3]),(76,.cells 0 ((cPre a f (i+1)).flatMap edC)),(77,.cells 0 (ints (nz M1)))]) (fun _=>True) ?_ (Zah _) ?_ ?_;·rw[o,t,Zaf,QaF,Qay];exact⟨[(50,.blk 50 0),(51,.blk 51 0),(52,.blk 52 0),(76,.blk 76 0),(77,.blk 77 1)],rfl,au0,au8,au7⟩
    ·rintro k hk;by_cases c:k<a.al.length
     ·obtain⟨ev,d⟩:=Qap c;have r:=Zae d;have w:=Qk3 (a:=a) (f:=f) (i:=i) (s:=s) d;have G:(cPart a f i s k).length<=2000:=by unfold cPart;rw[Zaf];have h1:=List.length_filterMap_le (fun ev=>(stepA a.es s ev).map fun to=>(i,ev,idx f to)) (a.al.take k);rw[Zav]at h1;omega
      have u:=QbO (cPart a f i s k);have g:cPart a f i s (k+1)=cPart a f i s k++match stepA a.es s ev with|some to=>[(i,ev,idx f to)]|none=>[]:=by unfold cPart;rw[w,ZaV]
      generalize cPart a f i s k=R at*;refine Zc0 (Zc3 c p (Qaz v) (Qaz d)) ?_;refine cp (step60 a s ev h.el) ?_;cases b:stepA a.es s ev with|none=>
       have h1:stepI a.es s ev=-1:=by unfold stepI;rw[b]
       rw[b,Zap]at g;rw[h1];refine ZcZ ?_;refine⟨k+1,by omega,by omega,?_⟩;rw[g];exact⟨[(50,.blk 50 0),(51,.blk 51 0),(52,.blk 52 0),(76,.blk 76 0),(77,.blk 77 0)],rfl,au0,au8,au7⟩|some to=>
       have h1:stepI a.es s ev=to:=by unfold stepI;rw[b]
       rw[b]at g;have l:=index61 (nz f) to (by simp;omega);rw[Qbn,QmS (f3 s z ev r to b)]at l;rw[h1];refine Zc0 (Zc1 c (Qaz d)) ?_;refine cp l ?_;refine Zc0 u ?_;refine⟨k+1,by omega,by omega,?_⟩;rw[g,Zaq,Zaf];exact⟨[(50,.blk 50 0),(51,.blk 51 0),(52,.blk 52 0),(76,.blk 76 1),(77,.blk 77 0)],rfl,au0,au8,au7⟩
     have e:k=a.al.length:=by omega
     subst e;refine Zc0 c ?_;refine⟨(),?_⟩;rw[m];exact⟨[(50,.blk 50 0),(51,.blk 51 0),(52,.blk 52 0),(76,.blk 76 0),(77,.blk 77 0)],rfl,au0,au8,au7⟩
    rintro _ _;refine ZcZ ?_;refine⟨i+1,by omega,by omega,?_⟩;rw[y];exact⟨[(50,.blk 50 0),(51,.blk 51 0),(52,.blk 52 0),(76,.blk 76 0),(77,.blk 77 0)],rfl,au0,au8,au7⟩
   rw[if_neg q,Zap]at t;rw[Zam]at q;rw[q]at A;refine Zc0 (Zc1 p (Qaz v)) ?_;refine ch (ZcL (Zcw _) A rfl) ?_;refine ZcZ ?_;refine Qaq 300 (fun k:Nat=>[(1,.ptr 50 0 0),(2,.ptr 51 0 0),(3,sliN f),(4,.ptr 52 0 0),(5,.int .i64 i),(6,.int .i64 k)]) (fun k=>[(50,.cells 0 [sliN a.al,.int .i64 (a.n:Int),sliN a.ms,egsN a.es]),(51,.cells 0 [.nilsl,.int .i64 0,.nilsl,.nilsl]),(52,.cells 0 [sliN a.al,.int .i64 f.length,.sl 77 0 0 M1.length 1,.sl 76 0 0 (cPart a f i s k).length 3]),(76,.cells 0 ((cPart a f i s k).flatMap edC)),(77,.cells 0 (ints (nz M1)))]) (fun k=>k<=a.al.length) (fun k=>a.al.length-k) 0 2 400 (fun _:Unit=>[(1,.ptr 50 0 0),(2,.ptr 51 0 0),(3,sliN f),(4,.ptr 52 0 0),(5,.int .i64 i)]) (fun _=>[(50,.cells 0 [sliN a.al,.int .i64 (a.n:Int),sliN a.ms,egsN a.es]),(51,.cells 0 [.nilsl,.int .i64 0,.nilsl,.nilsl]),(52,.cells 0 [sliN a.al,.int .i64 f.length,.sl 77 0 0 M1.length 1,.sl 76 0 0 (cPre a f (i+1)).length 3]),(76,.cells 0 ((cPre a f (i+1)).flatMap edC)),(77,.cells 0 (ints (nz M1)))]) (fun _=>True) ?_ (Zah _) ?_ ?_;·rw[o,t];exact⟨[(50,.blk 50 0),(51,.blk 51 0),(52,.blk 52 0),(76,.blk 76 0),(77,.blk 77 0)],rfl,au0,au8,au7⟩
   ·rintro k hk;by_cases c:k<a.al.length
    ·obtain⟨ev,d⟩:=Qap c;have r:=Zae d;have w:=Qk3 (a:=a) (f:=f) (i:=i) (s:=s) d;have G:(cPart a f i s k).length<=2000:=by unfold cPart;rw[Zaf];have h1:=List.length_filterMap_le (fun ev=>(stepA a.es s ev).map fun to=>(i,ev,idx f to)) (a.al.take k);rw[Zav]at h1;omega
     have u:=QbO (cPart a f i s k);have g:cPart a f i s (k+1)=cPart a f i s k++match stepA a.es s ev with|some to=>[(i,ev,idx f to)]|none=>[]:=by unfold cPart;rw[w,ZaV]
     generalize cPart a f i s k=R at*;refine Zc0 (Zc3 c p (Qaz v) (Qaz d)) ?_;refine cp (step60 a s ev h.el) ?_;cases b:stepA a.es s ev with|none=>
      have h1:stepI a.es s ev=-1:=by unfold stepI;rw[b]
      rw[b,Zap]at g;rw[h1];refine ZcZ ?_;refine⟨k+1,by omega,by omega,?_⟩;rw[g];exact⟨[(50,.blk 50 0),(51,.blk 51 0),(52,.blk 52 0),(76,.blk 76 0),(77,.blk 77 0)],rfl,au0,au8,au7⟩|some to=>
      have h1:stepI a.es s ev=to:=by unfold stepI;rw[b]
      rw[b]at g;have l:=index61 (nz f) to (by simp;omega);rw[Qbn,QmS (f3 s z ev r to b)]at l;rw[h1];refine Zc0 (Zc1 c (Qaz d)) ?_;refine cp l ?_;refine Zc0 u ?_;refine⟨k+1,by omega,by omega,?_⟩;rw[g,Zaq,Zaf];exact⟨[(50,.blk 50 0),(51,.blk 51 0),(52,.blk 52 0),(76,.blk 76 1),(77,.blk 77 0)],rfl,au0,au8,au7⟩
    have e:k=a.al.length:=by omega
    subst e;refine Zc0 c ?_;refine⟨(),?_⟩;rw[m];exact⟨[(50,.blk 50 0),(51,.blk 51 0),(52,.blk 52 0),(76,.blk 76 0),(77,.blk 77 0)],rfl,au0,au8,au7⟩
   rintro _ _;refine ZcZ ?_;refine⟨i+1,by omega,by omega,?_⟩;rw[y];exact⟨[(50,.blk 50 0),(51,.blk 51 0),(52,.blk 52 0),(76,.blk 76 0),(77,.blk 77 0)],rfl,au0,au8,au7⟩
  have e:i=f.length:=by omega
  subst e;refine Zc0 p ?_;refine⟨(),?_⟩;exact⟨[(51,.blk 51 0),(52,.blk 52 0),(76,.blk 76 0),(77,.blk 77 0)],rfl,au0,au8,au7⟩
 rintro _ _;refine ZcZ ?_;refine⟨.inr trivial,_,rfl,?_⟩;exact Rn.agg (ZcH (Zcq (Qae _)) (ZcH (Zcq rfl) (ZcH (Rn.fz0 (g:=0) rfl (by simp[ints]) (Zcr (Qad _))) (ZcH (Rn.fz0 (g:=0) rfl (QbO _) (Zcr (Qaf _))) ZcG))))
def u8s(l:List Nat):List AV:=l.map fun x:Nat=>.int .u8 (x:Int)
theorem QaH(l:List Nat):noRefs (u8s l)=true:=QdJ (fun _=>rfl) l
theorem QgX{l:List Nat}{i x:Nat}(h:l[i]?=some x):(u8s l)[i]?=some (.int .u8 (x:Int)):=by simp[u8s,h]
theorem Qk4{k:IntKind}{x y:Nat}(b:0<y):aBin .rem (.int k (x:Int)) (.int k (y:Int))=some (.int k ((x%y:Nat):Int)):=by
 have a:¬(y:Int)=0:=by omega
 simp only[aBin,if_true,if_neg a];rw[Zbt (Zbp _)];norm_cast
def gEd(al:List Nat)(n:Nat)(T:List Nat)(i k:Nat):Option Ed:=if T.getD (i*5+k) 0%(n+2)<n then some (i,al.getD k 0,T.getD (i*5+k) 0%(n+2))else none
def gRow(al:List Nat)(n:Nat)(T:List Nat)(i k:Nat):List Ed:=(List.range k).filterMap (gEd al n T i)
def gPre(al:List Nat)(n:Nat)(T:List Nat)(i:Nat):List Ed:=(List.range i).flatMap fun i=>gRow al n T i al.length
def gPart(al:List Nat)(n:Nat)(T:List Nat)(i k:Nat):List Ed:=gPre al n T i++gRow al n T i k
def gRaw(al:List Nat)(st mk:Nat)(T:List Nat):Aut:=if 250<=st then⟨al,0,[],[]⟩else⟨al,1+st%5,SD.part (1+st%5) mk,gPre al (1+st%5) T (1+st%5)⟩
theorem Qsm{al:List Nat}{n:Nat}{T:List Nat}{i k:Nat}{e:Ed}(h:e∈gRow al n T i k):e.1=i/\e.2.2<n:=by
 unfold gRow at h;obtain⟨j,_,a⟩:=Zbu.1 h;unfold gEd at a;split at a;·rename_i h1;cases a;exact⟨rfl,h1⟩
 cases a
theorem Qk5{al:List Nat}{n:Nat}{T:List Nat}{i k:Nat}:gRow al n T i (k+1)=gRow al n T i k++match gEd al n T i k with|some e=>[e]|none=>[]:=by unfold gRow;rw[ZaO,List.filterMap_append];congr 1;cases e:gEd al n T i k<;>simp[e]
theorem Qiw{al:List Nat}{n:Nat}{T:List Nat}{i k:Nat}:(gRow al n T i k).length<=k:=by unfold gRow;exact Zaw (List.length_filterMap_le _ _) (by simp)
theorem Qix{al:List Nat}{n:Nat}{T:List Nat}(a:al.length<=5):∀i,(gPre al n T i).length<=i*5|0=>by simp[gPre]|i+1=>by have h1:=Qix (n:=n) (T:=T) a i;have b:=@Qiw al n T i al.length;unfold gPre at h1⊢;rw[ZaO,Zaq,Zaf,Zbo,Zay,Zb3,Zap];omega
theorem QqX{al:List Nat}{n:Nat}{T:List Nat}{i:Nat}:gPre al n T (i+1)=gPart al n T i al.length:=by unfold gPart gPre;rw[ZaO,Zaq,Zay,Zb3,Zap]
theorem QfT{al:List Nat}{st mk:Nat}{T:List Nat}(a:al.length<=5):Raw (gRaw al st mk T):=by
 unfold gRaw;split;·exact⟨by simp,by simp,by simp,by dsimp only;omega,by simp⟩
 have b:1+st%5<=5:=by omega
 refine⟨fun e he=>?_,b,?_,by dsimp only;omega,?_⟩;·unfold gPre at he;obtain⟨i,hi,he⟩:=ZbD.1 he;have:=Zat.1 hi;obtain⟨h1,c⟩:=Qsm he;exact⟨by rw[h1];exact this,c⟩
 ·have :=Qix (n:=1+st%5) (T:=T) a (1+st%5);dsimp only;omega
 have :=@Qdv (1+st%5) mk;dsimp only;omega
def mkA(al:List Nat)(st mk:Nat)(T:List Nat):Aut:=canon (gRaw al st mk T)
theorem Qux{al:List Nat}{st mk:Nat}{T:List Nat}(f:al.Pairwise (·<·))(b:∀x∈al,x<5):WfA (mkA al st mk T):=by
 have a:al.length<=5:=Qby f b;have c:=QfT (st:=st) (mk:=mk) (T:=T) a;have d:(gRaw al st mk T).al=al:=by unfold gRaw;split<;>rfl
 exact Qr4 (by rw[d];exact f) (by rw[d];exact fun x g=>by have:=b x g;omega) (by have:=c.n5;omega) c.esn
abbrev grV(st mk:Nat)(T:List Nat):AV:=.agg (.int .u8 (st:Int)::.int .u8 (mk:Int)::u8s T)
theorem _root_.Go.AM.au9{p:Prop}(h:p:=by repeat'(first|exact ZcA|(refine Zcr ?_;first|rfl|(simp only[noRef,noRefs,Qag,Zad,Zac,Zai,Qad,QaH,Qaj,Qaf,Qak,Qao,Qax,Qah,Qan,Qae,Qar,Qai,Qal,Qam,Qat];done))|exact ZcM rfl|exact ZcG|exact(True.intro:RnM _ _ _ [] [])|refine ZcH ?_ ?_|(refine Zcq ?_;first|rfl|(simp only[noRef,noRefs,Qag,Zad,Zac,Zai,Qad,QaH,Qaj,Qaf,Qak,Qao,Qax,Qah,Qan,Qae,Qar,Qai,Qal,Qam,Qat];done))|exact Rn.x1 rfl rfl|exact Rn.x2 rfl rfl|exact Rn.x3 rfl rfl|exact Rn.x4 rfl rfl|exact Rn.x5 rfl|exact Rn.x6 rfl|exact Rn.x7 rfl|refine ZcC rfl rfl ?_|refine ZcB rfl rfl rfl ?_ ?_|refine ZcD rfl rfl rfl ?_ ?_|refine ZcE rfl rfl ?_ ?_|refine ZcF rfl rfl ?_ ?_)):p:=h
theorem _root_.Go.AM.au10{p:Prop}(h:p:=by repeat(first|exact Zcy|(refine Zcz ?_ ?_;·(first|exact Rn.any|exact Rn.x1 rfl rfl|exact Rn.x2 rfl rfl|exact Rn.x3 rfl rfl|exact Rn.x4 rfl rfl|exact Rn.x5 rfl|exact Rn.x6 rfl|exact Rn.x7 rfl|(refine Rn.slot ?_ ?_;(first|rfl|(rw[ZaS];rfl));(first|rfl|(simp only[noRef,noRefs,Qag,Zad,Zac,Zai,Qad,QaH,Qaj,Qaf,Qak,Qao,Qax,Qah,Qan,Qae,Qar,Qai,Qal,Qam,Qat];done)))|(refine Rn.fn ?_ ?_<;>(repeat'(first|exact ZcG|refine ZcH ?_ ?_|exact Zcq rfl|exact Rn.x6 rfl|exact Rn.x2 rfl rfl|exact Rn.x5 rfl|exact Rn.x1 rfl rfl))))))):p:=h
theorem Make32(al:List Nat)(st mk:Nat)(T:List Nat)(hs:al.Pairwise (·<·))(h5:∀x∈al,x<5)(s:st<256)(Y:mk<256)(hT:T.length=25)(z:∀x∈T,x<256):Pq 225 [sliN al,grV st mk T] (aV (mkA al st mk T)):=by
 have B:al.length<=5:=Qby hs h5;have X:(u8s T).length=25:=by simp[u8s,hT]
 have h:=canon46 (gRaw al st mk T) (QfT B);refine Zct 40 ok225 rfl (by(try simp only[noRefs,QaH,Qal,Qam,Qad,Qaj,Qaf,Qak,Qao,Qah,noRef,Zad,Zac])<;>rfl) (Qdu _) ?_;unfold mkA;by_cases U:250<=st
 ·have v:(250:Int)<=(st:Int):=by omega
  have I:gRaw al st mk T=⟨al,0,[],[]⟩:=if_pos U;have hc:canon (gRaw al st mk T)=⟨al,0,[],[]⟩:=by rw[I];rfl
  rw[hc];unfold s225;refine Zc0 v ?_;refine cp (empty45 al (by omega)) ?_;refine ZcZ ?_;refine⟨.inr trivial,_,rfl,?_⟩;exact Rn.agg (ZcH (Zcq (Qae _)) (ZcH (Zcq rfl) (ZcH Rn.nilK (ZcH Rn.nilK ZcG))))
 have v:¬(250:Int)<=(st:Int):=by omega
 have I:gRaw al st mk T=⟨al,1+st%5,SD.part (1+st%5) mk,gPre al (1+st%5) T (1+st%5)⟩:=if_neg U;rw[I]at h⊢;have P:1+st%5<=5:=by omega
 obtain⟨n,Z⟩:∃n,n=1+st%5:=⟨_,rfl⟩;rw[<-Z]at I h P⊢;have K:(1:Int)+((st%5:Nat):Int)=(n:Int):=by omega
 unfold s225;refine Zc0 v ?_;refine cp (empty45 al (by omega)) ?_;have N:(st:Int).tmod 5=((st%5:Nat):Int):=by rw[Zbt (Zbp _)];norm_cast
 refine Zc0 (Zc1 N K) ?_;refine Qaq 100 (fun i:Nat=>[(0,sliN al),(3,.ptr 50 0 0),(4,.ptr 51 0 0),(5,.ptr 52 0 0),(6,.int .i64 i)]) (fun i=>[(50,.cells 0 (.int .u8 (st:Int)::.int .u8 (mk:Int)::u8s T)),(51,.cells 0 [.nilsl,.int .i64 0,.nilsl,.nilsl]),(52,.cells 0 [sliN al,.int .i64 (n:Int),.sl 77 0 0 (SD.part i mk).length 1,.sl 76 0 0 (gPre al n T i).length 3]),(76,.cells 0 ((gPre al n T i).flatMap edC)),(77,.cells 0 (ints (nz (SD.part i mk))))]) (fun i=>i<=n) (fun i=>n-i) 0 0 160 (fun _:Unit=>[(4,.ptr 51 0 0),(5,.ptr 52 0 0)]) (fun _=>[(51,.cells 0 [.nilsl,.int .i64 0,.nilsl,.nilsl]),(52,.cells 0 [sliN al,.int .i64 (n:Int),sliN (SD.part n mk),egsN (gPre al n T n)])]) (fun _=>True) ?_ (Zah _) ?_ ?_;·exact⟨[(50,.blk 40 0),(51,.blk 41 0),(52,.blk 47 0),(76,.nil),(77,.nil)],rfl,au0,au9,au10⟩
 ·rintro i hi;by_cases y:i<n
  ·have r:=QdT (n:=n) (b:=mk) (i:=i);have hpl:=@Qdv i mk;have hgl:=Qix (n:=n) (T:=T) B i;have A:gPart al n T i 0=gPre al n T i:=by simp[gPart,gRow]
   have H:=QqX (al:=al) (n:=n) (T:=T) (i:=i);have V:=QbO (gPre al n T i);generalize G:SD.part (i+1) mk=M1 at*;generalize hM:SD.part i mk=M at*;by_cases q:mk.testBit i=true
   ·rw[if_pos q]at r;have J:=Qeh.2 q;simp(disch:=first|omega|(simp only[lenW]<;>omega))only[y,QcW (k:=.u8) (show i<=8 by omega),QcX,J,wW,wV,simprocAttr];refine Qaq 300 (fun k:Nat=>[(0,sliN al),(3,.ptr 50 0 0),(4,.ptr 51 0 0),(5,.ptr 52 0 0),(6,.int .i64 i),(7,.int .i64 k)]) (fun k=>[(50,.cells 0 (.int .u8 (st:Int)::.int .u8 (mk:Int)::u8s T)),(51,.cells 0 [.nilsl,.int .i64 0,.nilsl,.nilsl]),(52,.cells 0 [sliN al,.int .i64 (n:Int),.sl 77 0 0 M1.length 1,.sl 76 0 0 (gPart al n T i k).length 3]),(76,.cells 0 ((gPart al n T i k).flatMap edC)),(77,.cells 0 (ints (nz M1)))]) (fun k=>k<=al.length) (fun k=>al.length-k) 0 2 400 (fun _:Unit=>[(0,sliN al),(3,.ptr 50 0 0),(4,.ptr 51 0 0),(5,.ptr 52 0 0),(6,.int .i64 i)]) (fun _=>[(50,.cells 0 (.int .u8 (st:Int)::.int .u8 (mk:Int)::u8s T)),(51,.cells 0 [.nilsl,.int .i64 0,.nilsl,.nilsl]),(52,.cells 0 [sliN al,.int .i64 (n:Int),.sl 77 0 0 M1.length 1,.sl 76 0 0 (gPre al n T (i+1)).length 3]),(76,.cells 0 ((gPre al n T (i+1)).flatMap edC)),(77,.cells 0 (ints (nz M1)))]) (fun _=>True) ?_ (Zah _) ?_ ?_;·rw[A,r,Zaf,QaF,Qay];exact⟨[(50,.blk 50 0),(51,.blk 51 0),(52,.blk 52 0),(76,.blk 76 0),(77,.blk 77 1)],rfl,au0,au9,au10⟩
    ·rintro k hk;by_cases b:k<al.length
     ·obtain⟨ev,f⟩:=Qap b;have c:al.getD k 0=ev:=by rw[Zak,f];rfl
      obtain⟨x,u⟩:=Qap (l:=T) (i:=i*5+k) (by omega);have t:T.getD (i*5+k) 0=x:=by rw[Zak,u];rfl
      have S:=z x (Zae u);have d:(k:Int)<5:=by omega
      have o:(i:Int)<5:=by omega
      have g:(AV.int .u8 (st:Int)::AV.int .u8 (mk:Int)::u8s T)[2+i*5+k]?=some (.int .u8 (x:Int)):=by rw[show 2+i*5+k=(i*5+k)+2 by omega];simpa using QgX u
      have m:(x:Int).tmod ((n:Int)+2)=((x%(n+2):Nat):Int):=by rw[Zbt (Zbp _)];norm_cast
      have l:¬(n:Int)+2=0:=by omega
      have Q:x%(n+2)<=10:=by have:=Zch x (show 0<n+2 by omega);omega
      have s:=Qk5 (al:=al) (n:=n) (T:=T) (i:=i) (k:=k);have L:=@Qiw al n T i k;have a:gPart al n T i (k+1)=gPart al n T i k++match gEd al n T i k with|some e=>[e]|none=>[]:=by unfold gPart;rw[s,ZaV]
      have E:(gPart al n T i k).length<=100:=by unfold gPart;rw[Zaf];omega
      have w:=QbO (gPart al n T i k);unfold gEd at a;rw[t,c]at a;generalize gPart al n T i k=R at*;by_cases p:x%(n+2)<n;·rw[if_pos p]at a;refine Zc0 (Zc8 b d o g l m p (Qaz f) w) ?_;refine⟨k+1,by omega,by omega,?_⟩;rw[a,Zaq,Zaf];exact⟨[(50,.blk 50 0),(51,.blk 51 0),(52,.blk 52 0),(76,.blk 76 1),(77,.blk 77 0)],rfl,au0,au9,au10⟩
      rw[if_neg p,Zap]at a;refine Zc0 (Zc6 b d o g l m p) ?_;refine⟨k+1,by omega,by omega,?_⟩;rw[a];exact⟨[(50,.blk 50 0),(51,.blk 51 0),(52,.blk 52 0),(76,.blk 76 0),(77,.blk 77 0)],rfl,au0,au9,au10⟩
     have e:k=al.length:=by omega
     subst e;refine Zc0 b ?_;refine⟨(),?_⟩;rw[H];exact⟨[(50,.blk 50 0),(51,.blk 51 0),(52,.blk 52 0),(76,.blk 76 0),(77,.blk 77 0)],rfl,au0,au9,au10⟩
    rintro _ _;refine ZcZ ?_;refine⟨i+1,by omega,by omega,?_⟩;rw[G];exact⟨[(50,.blk 50 0),(51,.blk 51 0),(52,.blk 52 0),(76,.blk 76 0),(77,.blk 77 0)],rfl,au0,au9,au10⟩
   rw[if_neg q,Zap]at r;have J:¬((mk/2^i%2:Nat):Int)=1:=fun e=>q (Qeh.1 e);simp(disch:=first|omega|(simp only[lenW]<;>omega))only[y,QcW (k:=.u8) (show i<=8 by omega),QcX,J,wW,wV,simprocAttr];refine Qaq 300 (fun k:Nat=>[(0,sliN al),(3,.ptr 50 0 0),(4,.ptr 51 0 0),(5,.ptr 52 0 0),(6,.int .i64 i),(7,.int .i64 k)]) (fun k=>[(50,.cells 0 (.int .u8 (st:Int)::.int .u8 (mk:Int)::u8s T)),(51,.cells 0 [.nilsl,.int .i64 0,.nilsl,.nilsl]),(52,.cells 0 [sliN al,.int .i64 (n:Int),.sl 77 0 0 M1.length 1,.sl 76 0 0 (gPart al n T i k).length 3]),(76,.cells 0 ((gPart al n T i k).flatMap edC)),(77,.cells 0 (ints (nz M1)))]) (fun k=>k<=al.length) (fun k=>al.length-k) 0 2 400 (fun _:Unit=>[(0,sliN al),(3,.ptr 50 0 0),(4,.ptr 51 0 0),(5,.ptr 52 0 0),(6,.int .i64 i)]) (fun _=>[(50,.cells 0 (.int .u8 (st:Int)::.int .u8 (mk:Int)::u8s T)),(51,.cells 0 [.nilsl,.int .i64 0,.nilsl,.nilsl]),(52,.cells 0 [sliN al,.int .i64 (n:Int),.sl 77 0 0 M1.length 1,.sl 76 0 0 (gPre al n T (i+1)).length 3]),(76,.cells 0 ((gPre al n T (i+1)).flatMap edC)),(77,.cells 0 (ints (nz M1)))]) (fun _=>True) ?_ (Zah _) ?_ ?_;·rw[A,r];exact⟨[(50,.blk 50 0),(51,.blk 51 0),(52,.blk 52 0),(76,.blk 76 0),(77,.blk 77 0)],rfl,au0,au9,au10⟩
   ·rintro k hk;by_cases b:k<al.length
    ·obtain⟨ev,f⟩:=Qap b;have c:al.getD k 0=ev:=by rw[Zak,f];rfl
     obtain⟨x,u⟩:=Qap (l:=T) (i:=i*5+k) (by omega);have t:T.getD (i*5+k) 0=x:=by rw[Zak,u];rfl
     have S:=z x (Zae u);have d:(k:Int)<5:=by omega
     have o:(i:Int)<5:=by omega
     have g:(AV.int .u8 (st:Int)::AV.int .u8 (mk:Int)::u8s T)[2+i*5+k]?=some (.int .u8 (x:Int)):=by rw[show 2+i*5+k=(i*5+k)+2 by omega];simpa using QgX u
     have m:(x:Int).tmod ((n:Int)+2)=((x%(n+2):Nat):Int):=by rw[Zbt (Zbp _)];norm_cast
     have l:¬(n:Int)+2=0:=by omega
     have Q:x%(n+2)<=10:=by have:=Zch x (show 0<n+2 by omega);omega
     have s:=Qk5 (al:=al) (n:=n) (T:=T) (i:=i) (k:=k);have L:=@Qiw al n T i k;have a:gPart al n T i (k+1)=gPart al n T i k++match gEd al n T i k with|some e=>[e]|none=>[]:=by unfold gPart;rw[s,ZaV]
     have E:(gPart al n T i k).length<=100:=by unfold gPart;rw[Zaf];omega
     have w:=QbO (gPart al n T i k);unfold gEd at a;rw[t,c]at a;generalize gPart al n T i k=R at*;by_cases p:x%(n+2)<n;·rw[if_pos p]at a;refine Zc0 (Zc8 b d o g l m p (Qaz f) w) ?_;refine⟨k+1,by omega,by omega,?_⟩;rw[a,Zaq,Zaf];exact⟨[(50,.blk 50 0),(51,.blk 51 0),(52,.blk 52 0),(76,.blk 76 1),(77,.blk 77 0)],rfl,au0,au9,au10⟩
     rw[if_neg p,Zap]at a;refine Zc0 (Zc6 b d o g l m p) ?_;refine⟨k+1,by omega,by omega,?_⟩;rw[a];exact⟨[(50,.blk 50 0),(51,.blk 51 0),(52,.blk 52 0),(76,.blk 76 0),(77,.blk 77 0)],rfl,au0,au9,au10⟩
    have e:k=al.length:=by omega
    subst e;refine Zc0 b ?_;refine⟨(),?_⟩;rw[H];exact⟨[(50,.blk 50 0),(51,.blk 51 0),(52,.blk 52 0),(76,.blk 76 0),(77,.blk 77 0)],rfl,au0,au9,au10⟩
   rintro _ _;refine ZcZ ?_;refine⟨i+1,by omega,by omega,?_⟩;rw[G];exact⟨[(50,.blk 50 0),(51,.blk 51 0),(52,.blk 52 0),(76,.blk 76 0),(77,.blk 77 0)],rfl,au0,au9,au10⟩
  have e:i=n:=by omega
  subst e;refine Zc0 y ?_;refine⟨(),[(51,.blk 51 0),(52,.blk 52 0)],rfl,Zcx,?_,au10⟩;refine ZcB rfl rfl rfl (Zcr rfl) (ZcB rfl rfl rfl (ZcH (Zcq (Qae _)) (ZcH (Zcq rfl) (ZcH (ZcI rfl rfl rfl rfl (by simp[ints]) (Zcr (Qad _))) (ZcH (ZcI rfl rfl rfl rfl (QbO _) (Zcr (Qaf _))) ZcG)))) ZcA)
 rintro _ _;refine ZcZ ?_;refine cp h ?_;generalize canon ⟨al,n,SD.part n mk,gPre al n T n⟩=C at*;refine ZcZ ?_;exact⟨.inr trivial,_,rfl,Zcq (Qdu _)⟩
end Go.AM.SE
namespace Go.AM.SO
open Go.Proofs Go.AM.SD Go.AM.SE
def mrg(k:Bool->Bool->Bool):List Nat->List Nat->List Nat|[],[]=>[]|a::A,[]=>(if k true false=true then[a]else[])++mrg k A []|[],b::B=>(if k false true=true then[b]else[])++mrg k [] B|a::A,b::B=>if a<b then(if k true false=true then[a]else[])++mrg k A (b::B)else if b<a then(if k false true=true then[b]else[])++mrg k (a::A) B else(if k true true=true then[a]else[])++mrg k A B termination_by A B=>A.length+B.length
theorem QbK{k:Bool->Bool->Bool}{x:Nat}:∀{A B:List Nat},A.Pairwise (·<·)->B.Pairwise (·<·)->(x∈mrg k A B↔k (decide (x∈A)) (decide (x∈B))=true/\(x∈A\/x∈B))
 |[],[],_,_=>by simp[mrg]|a::A,[],hA,c=>by have d:=QbK (k:=k) (x:=x) (Zax.1 hA).2 c;grind[mrg]|[],b::B,hA,c=>by have d:=QbK (k:=k) (x:=x) hA (Zax.1 c).2;grind[mrg]|a::A,b::B,hA,c=>by
  have h:=(Zax.1 hA).1;have f:=(Zax.1 c).1;rw[mrg];by_cases h1:a<b;·have d:=QbK (k:=k) (x:=x) (Zax.1 hA).2 c;grind
  rw[if_neg h1];by_cases i:b<a;·have d:=QbK (k:=k) (x:=x) hA (Zax.1 c).2;grind
  have g:a=b:=by omega
  subst g;have d:=QbK (k:=k) (x:=x) (Zax.1 hA).2 (Zax.1 c).2;grind termination_by A B=>A.length+B.length
theorem Qcg{k:Bool->Bool->Bool}:∀{A B:List Nat},A.Pairwise (·<·)->B.Pairwise (·<·)->(mrg k A B).Pairwise (·<·)
 |[],[],_,_=>by simp[mrg]|a::A,[],hA,c=>by have h:=Qcg (k:=k) (Zax.1 hA).2 c;grind[Zax,mrg,QbK]|[],b::B,hA,c=>by have h:=Qcg (k:=k) hA (Zax.1 c).2;grind[Zax,mrg,QbK]|a::A,b::B,hA,c=>by
  have l:=(Zax.1 hA).1;have i:=(Zax.1 c).1;rw[mrg];split
  ·rename_i h1;rw[Zbh];refine⟨by split<;>simp,Qcg (Zax.1 hA).2 c,fun x d y f=>?_⟩;have d:x=a:=by simp_all
   have:=(QbK (Zax.1 hA).2 c).1 f;grind
  rename_i h1;split
  ·rename_i g;rw[Zbh];refine⟨by split<;>simp,Qcg hA (Zax.1 c).2,fun x d y f=>?_⟩;have d:x=b:=by simp_all
   have:=(QbK hA (Zax.1 c).2).1 f;grind
  rename_i g;have m:a=b:=by omega
  subst m;rw[Zbh];refine⟨by split<;>simp,Qcg (Zax.1 hA).2 (Zax.1 c).2,fun x d y f=>?_⟩;grind[QbK]termination_by A B=>A.length+B.length
theorem iaddr0{a:Nat}{A:List Nat}:aIAddr none 1 (sliN (a::A)) (.int .i64 0)=some (.fptr (ints (nz (a::A)))):=by simp[aIAddr]
theorem head0{a:Nat}{A:List Nat}:(ints (nz (a::A))).head?=some (.int .i64 (a:Int)):=rfl
theorem tk1{b:Nat}{B1:List Nat}:List.take (B1.length+1-1) (List.drop 1 (ints (nz (b::B1))))=ints (nz B1):=by simp only[ints,nz,ZaJ,Zbs,Zbm];exact Za1 (by simp)
theorem tk2{b:Nat}{B1:List Nat}:List.take B1.length (List.drop 1 (ints (nz (b::B1))))=ints (nz B1):=by simp only[ints,nz,ZaJ,Zbs,Zbm];exact Za1 (by simp)
theorem union169(a b:Bool):Pq 133 [.bool a,.bool b] (.bool (a||b)):=by
 refine Zcu 64 ok133 rfl rfl rfl ?_;cases a;·unfold s133;refine ZcR ?_;exact⟨.inr trivial,_,rfl,by simp[resOf,QaW]⟩
 unfold s133;refine ZcR ?_;exact⟨.inr trivial,_,rfl,by simp[resOf,QaW]⟩
theorem inter191(a b:Bool):Pq 265 [.bool a,.bool b] (.bool (a&&b)):=by
 refine Zcu 64 ok265 rfl rfl rfl ?_;cases a;·unfold s265;refine ZcR ?_;exact⟨.inr trivial,_,rfl,by simp[resOf,QaW]⟩
 unfold s265;refine ZcR ?_;exact⟨.inr trivial,_,rfl,by simp[resOf,QaW]⟩
theorem minus242(a b:Bool):Pq 261 [.bool a,.bool b] (.bool (a&&!b)):=by
 refine Zcu 64 ok261 rfl rfl rfl ?_;cases a;·unfold s261;refine ZcR ?_;exact⟨.inr trivial,_,rfl,by simp[resOf,QaW]⟩
 unfold s261;refine ZcR ?_;exact⟨.inr trivial,_,rfl,by simp[resOf,QaW]⟩
theorem merge168(K:Nat)(k:Bool->Bool->Bool)(hk:∀a b,Pq K [.bool a,.bool b] (.bool (k a b)))(A B:List Nat)(hA:A.length<=1000000)(q:B.length<=1000000):Pq 132 [sliN A,sliN B,.fn K [] []] (sliN (mrg k A B)):=by
 refine Zct 64 ok132 rfl (by(try simp only[noRefs,Qad,Qaj,Qaf,Qak,Qah,noRef,Zad,Zac])<;>rfl) (Qae _) ?_;unfold s132;refine ZcR ?_;refine QaL 120 (fun t:List Nat×List Nat×List Nat=>[(0,sliN t.1),(1,sliN t.2.1),(2,.fn K [] []),(7,.sl 50 0 0 t.2.2.length 1)]) (fun t=>[(50,.cells 0 (ints (nz t.2.2)))]) (fun t=>mrg k A B=t.2.2++mrg k t.1 t.2.1/\t.1.length+t.2.1.length+t.2.2.length<=2000000) (fun t=>t.1.length+t.2.1.length) (A,B,[]) ⟨[(50,.nil)],rfl,au0,au1,au2⟩ ⟨by simp,by simp;omega⟩ ?_;rintro⟨A',B',out⟩⟨hm,g⟩;dsimp only at hm g;rcases A' with _|⟨a,A1⟩<;>rcases B' with _|⟨b,B1⟩;·simp(disch:=first|omega|(simp only[lenW]<;>omega))only[Za5,List.map_nil,wV,simprocAttr];refine⟨.inr trivial,_,rfl,?_⟩;rw[hm,mrg,Zap];exact Rn.fz0 rfl (by simp[ints]) (Zcr (Qad _))
 ·have h1:(0:Int)<(B1.length:Int)+1:=by omega
  have f:¬(B1.length:Int)+1=0:=by omega
  simp only[Za5,ZaF]at g;refine ZcS (Zc8 @Za5 @ZaF h1 f @iaddr0 @tk1 @tk2 @head0 @ZbS) ?_;refine cp (hk false true) ?_;rw[mrg]at hm;cases c:k false true;·refine ZcR ?_;rw[if_neg (by simp[c]),ZaX]at hm;exact⟨(([]:List Nat),(B1:List Nat),out),by simp<;>omega,⟨hm,by simp;omega⟩,⟨[(50,.blk 50 0)],rfl,au0,au1,au2⟩⟩
  refine ZcR ?_;rw[if_pos c,<-ZaV]at hm;refine⟨(([]:List Nat),(B1:List Nat),out++[b]),by simp<;>omega,⟨hm,by simp;omega⟩,?_⟩;rw[QaF,Qay,Zaf];exact⟨[(50,.blk 50 1)],rfl,au0,au1,au2⟩
 ·have h1:(0:Int)<(A1.length:Int)+1:=by omega
  have f:¬(A1.length:Int)+1=0:=by omega
  simp only[Za5,ZaF]at g;refine ZcS (Zc8 @Za5 @ZaF h1 f @iaddr0 @tk1 @tk2 @head0 @ZbS) ?_;refine cp (hk true false) ?_;rw[mrg]at hm;cases c:k true false;·refine ZcR ?_;rw[if_neg (by simp[c]),ZaX]at hm;exact⟨((A1:List Nat),([]:List Nat),out),by simp<;>omega,⟨hm,by simp;omega⟩,⟨[(50,.blk 50 0)],rfl,au0,au1,au2⟩⟩
  refine ZcR ?_;rw[if_pos c,<-ZaV]at hm;refine⟨((A1:List Nat),([]:List Nat),out++[a]),by simp<;>omega,⟨hm,by simp;omega⟩,?_⟩;rw[QaF,Qay,Zaf];exact⟨[(50,.blk 50 1)],rfl,au0,au1,au2⟩
 have h1:(0:Int)<(A1.length:Int)+1:=by omega
 have f:¬(A1.length:Int)+1=0:=by omega
 have o:(0:Int)<(B1.length:Int)+1:=by omega
 have l:¬(B1.length:Int)+1=0:=by omega
 by_cases d:a<b
 ·have i:(a:Int)<=(b:Int):=by omega
  have m:¬(b:Int)<=(a:Int):=by omega
  simp only[Za5,ZaF]at g;refine ZcS (Zdc @Za5 @ZaF h1 f o l i m @iaddr0 @tk1 @tk2 @head0 @ZbS) ?_;refine cp (hk true false) ?_;rw[mrg,if_pos d]at hm;cases c:k true false;·refine ZcR ?_;rw[if_neg (by simp[c]),ZaX]at hm;exact⟨((A1:List Nat),(b::B1:List Nat),out),by simp<;>omega,⟨hm,by simp;omega⟩,⟨[(50,.blk 50 0)],rfl,au0,au1,au2⟩⟩
  refine ZcR ?_;rw[if_pos c,<-ZaV]at hm;refine⟨((A1:List Nat),(b::B1:List Nat),out++[a]),by simp<;>omega,⟨hm,by simp;omega⟩,?_⟩;rw[QaF,Qay,Zaf];exact⟨[(50,.blk 50 1)],rfl,au0,au1,au2⟩
 by_cases h:b<a
 ·have i:¬(a:Int)<=(b:Int):=by omega
  have m:(b:Int)<=(a:Int):=by omega
  simp only[Za5,ZaF]at g;refine ZcS (Zdc @Za5 @ZaF h1 f o l i m @iaddr0 @tk1 @tk2 @head0 @ZbS) ?_;refine cp (hk false true) ?_;rw[mrg,if_neg d,if_pos h]at hm;cases c:k false true;·refine ZcR ?_;rw[if_neg (by simp[c]),ZaX]at hm;exact⟨((a::A1:List Nat),(B1:List Nat),out),by simp<;>omega,⟨hm,by simp;omega⟩,⟨[(50,.blk 50 0)],rfl,au0,au1,au2⟩⟩
  refine ZcR ?_;rw[if_pos c,<-ZaV]at hm;refine⟨((a::A1:List Nat),(B1:List Nat),out++[b]),by simp<;>omega,⟨hm,by simp;omega⟩,?_⟩;rw[QaF,Qay,Zaf];exact⟨[(50,.blk 50 1)],rfl,au0,au1,au2⟩
 have p:a=b:=by omega
 subst p;have i:(a:Int)<=(a:Int):=by omega
 simp only[Za5,ZaF]at g;refine ZcS (Zdb @Za5 @ZaF h1 f o l i @iaddr0 @tk1 @tk2 @head0 @ZbS) ?_;refine cp (hk true true) ?_;rw[mrg,if_neg d,if_neg h]at hm;cases c:k true true;·refine ZcR ?_;rw[if_neg (by simp[c]),ZaX]at hm;exact⟨((A1:List Nat),(B1:List Nat),out),by simp<;>omega,⟨hm,by simp;omega⟩,⟨[(50,.blk 50 0)],rfl,au0,au1,au2⟩⟩
 refine ZcR ?_;rw[if_pos c,<-ZaV]at hm;refine⟨((A1:List Nat),(B1:List Nat),out++[a]),by simp<;>omega,⟨hm,by simp;omega⟩,?_⟩;rw[QaF,Qay,Zaf];exact⟨[(50,.blk 50 1)],rfl,au0,au1,au2⟩
theorem union84(A B:List Nat)(hA:A.length<=1000000)(c:B.length<=1000000):Pq 75 [sliN A,sliN B] (sliN (mrg (fun a b=>a||b) A B)):=by refine Zct 64 ok75 rfl (by(try simp only[noRefs,Qad,Qaj,Qaf,Qak,Qah,noRef,Zad,Zac])<;>rfl) (Qae _) ?_;unfold s75;refine ZcR ?_;refine cp (merge168 133 _ union169 A B hA c) ?_;refine ZcR ?_;exact⟨.inr trivial,_,rfl,Zcq (Qae _)⟩
theorem inter109(A B:List Nat)(hA:A.length<=1000000)(c:B.length<=1000000):Pq 221 [sliN A,sliN B] (sliN (mrg (fun a b=>a&&b) A B)):=by refine Zct 64 ok221 rfl (by(try simp only[noRefs,Qad,Qaj,Qaf,Qak,Qah,noRef,Zad,Zac])<;>rfl) (Qae _) ?_;unfold s221;refine ZcR ?_;refine cp (merge168 265 _ inter191 A B hA c) ?_;refine ZcR ?_;exact⟨.inr trivial,_,rfl,Zcq (Qae _)⟩
theorem minus219(A B:List Nat)(hA:A.length<=1000000)(c:B.length<=1000000):Pq 215 [sliN A,sliN B] (sliN (mrg (fun a b=>a&&!b) A B)):=by refine Zct 64 ok215 rfl (by(try simp only[noRefs,Qad,Qaj,Qaf,Qak,Qah,noRef,Zad,Zac])<;>rfl) (Qae _) ?_;unfold s215;refine ZcR ?_;refine cp (merge168 261 _ minus242 A B hA c) ?_;refine ZcR ?_;exact⟨.inr trivial,_,rfl,Zcq (Qae _)⟩
theorem subset167(A B:List Nat)(hA:A.length<=1000000)(d:B.length<=1000000):Pq 131 [sliN A,sliN B] (.bool (decide ((mrg (fun a b=>a&&!b) A B).length=0))):=by
 refine Zcu 64 ok131 rfl (by(try simp only[noRefs,Qad,Qaj,Qaf,Qak,Qah,noRef,Zad,Zac])<;>rfl) rfl ?_;unfold s131;refine ZcR ?_;refine cp (minus219 A B hA d) ?_;by_cases h:(mrg (fun a b=>a&&!b) A B).length=0
 ·have c:(((mrg (fun a b=>a&&!b) A B).length:Nat):Int)=0:=by omega
  refine ZcS c ?_;exact⟨.inr trivial,_,rfl,by simp[resOf,QaW,h]⟩
 have c:¬(((mrg (fun a b=>a&&!b) A B).length:Nat):Int)=0:=by omega
 refine ZcS c ?_;exact⟨.inr trivial,_,rfl,by simp[resOf,QaW,h]⟩
end Go.AM.SO
namespace Go.AM.SD
theorem Qjh{α:Type}(f:α->Nat):∀{l c:List α},l.Pairwise (fun a b=>f a<f b)->c.Pairwise (fun a b=>f a<f b)->(∀p,p∈l↔p∈c)->l=c
 |[],[],_,_,_=>rfl|[],y::c,_,_,hm=>absurd ((hm y).2 (by simp)) (by simp)|x::l,[],_,_,hm=>absurd ((hm x).1 (by simp)) (by simp)|x::l,y::c,h,g,hm=>by
  rw[Zax]at h g;have d:x=y:=by grind
  subst d;have:l=c:=Qjh f h.2 g.2 fun p=>by grind
  rw[this]
theorem uniqE{es:List Ed}(h:es.Pairwise fun x y=>x.1<y.1\/(x.1=y.1/\x.2.1<y.2.1)){e a:Ed}(he:e∈es)(b:a∈es)(h1:e.1=a.1)(f:e.2.1=a.2.1):e=a:=by induction h with|nil=>cases he|cons d _ c=>
 rcases Zau.1 he with rfl|m1<;>rcases Zau.1 b with rfl|m2;·rfl
 ·grind
 ·grind
 exact c m1 m2
theorem QeW{es:List Ed}(h:es.Pairwise fun x y=>x.1<y.1\/(x.1=y.1/\x.2.1<y.2.1)){v ev to:Nat}:stepA es v ev=some to↔((v,ev,to):Ed)∈es:=by
 unfold stepA;constructor;·intro d;cases hf:es.find? fun e=>e.1==v&&e.2.1==ev with|none=>rw[hf]at d;cases d|some e=>rw[hf]at d;cases d;have h1:=ZbM hf;simp only[Zaa,beq_iff_eq]at h1;have f:=Za2 hf;obtain⟨a,b,c⟩:=e;obtain⟨rfl,rfl⟩:=h1;exact f
 intro hm;cases hf:es.find? fun e=>e.1==v&&e.2.1==ev with|none=>rw[Za6]at hf;exact absurd (by simp) (hf _ hm)|some e=>have h1:=ZbM hf;simp only[Zaa,beq_iff_eq]at h1;rw[uniqE h (Za2 hf) hm h1.1 h1.2];rfl
theorem QjP{a:Aut}(h:WfA a)(v:Nat):sOut a.es (fun _=>true) v=a.al.filterMap fun ev=>(stepA a.es v ev).map fun to=>((v,ev,to):Ed):=by
 refine Qjh (fun e:Ed=>e.2.1) ?_ ?_ fun e=>?_;·have h1:(sOut a.es (fun _=>true) v).Pairwise fun x y=>x.1<y.1\/(x.1=y.1/\x.2.1<y.2.1):=h.es.filter _;refine h1.imp_of_mem fun{x y}d g f=>?_;simp_all[Qa2]
 ·refine List.Pairwise.filterMap _ (R:=(·<·)) ?_ h.al;simp_all
 rw[Qa2,Zbu];constructor;·rintro⟨he,rfl,_⟩;obtain⟨x,y,z⟩:=e;exact⟨y,h.ev _ he,by rw[(QeW h.es).2 he];rfl⟩
 rintro⟨ev,c,hm⟩;cases b:stepA a.es v ev with|none=>rw[b]at hm;cases hm|some to=>rw[b]at hm;cases hm;exact⟨(QeW h.es).1 b,rfl,rfl⟩
theorem Qsn{a:Aut}(h:WfA a)(i v:Nat)(s:OE):(sRow a.es (fun _=>true) i v s).1=fRow a.al a.es v s.1:=by
 unfold sRow fRow;rw[QjP h];have key:∀(al:List Nat)(s:OE),((al.filterMap fun ev=>(stepA a.es v ev).map fun to=>((v,ev,to):Ed)).foldl (sEd i) s).1=al.foldl (fEv a.es v) s.1:=by intro al;induction al with|nil=>intro s;rfl|cons ev al b=>intro s;rw[Zbw,ZaP];cases c:stepA a.es v ev with
  |none=>
   have e:fEv a.es v s.1 ev=s.1:=by grind[fEv]
   rw[e];exact b s|some to=>
   have e:fEv a.es v s.1 ev=if s.1.contains to then s.1 else s.1++[to]:=by grind[fEv]
   dsimp only[Option.map_some];rw[ZaP,b,e];congr 1;unfold sEd;split<;>rfl
 simp_all
theorem QqY{a:Aut}(h:WfA a):∀(k i:Nat)(s:OE),(sQ a.es (fun _=>true) k i s).1=fQ a.al a.es k i s.1|0,_,_=>rfl|k+1,i,s=>by unfold sQ fQ;cases s.1[i]? with|none=>rfl|some v=>dsimp only;rw[QqY h k,Qsn h]
theorem Qso{a:Aut}(h:WfA a):(sAll a fun _=>true).1=found a:=by simp_all[sAll,found,QqY]
theorem QnR{a:Aut}(h:WfA a):canon a=restr a (fun _=>true):=by
 have b:=(Qdr (left:=fun _=>true) h).1;have hf:=Qso h;have he:(sAll a fun _=>true).2=cRows a (found a):=by rw[b.ed,hf];unfold cRows;rw[List.flatMap_def,List.flatMap_def];congr 1;refine Za8 fun i _=>?_;rw[QjP h];unfold cRow;rw[List.map_filterMap];congr 1;funext ev;rw[Option.map_map];rfl
 simp_all[canon,restr]
end Go.AM.SD
namespace Go.AM.SE
open Go.Proofs Go.AM.SD
theorem shr1{i j:Nat}:aBin .shr (.int .u64 ((i:Int)+(j:Int))) (.int .u64 1)=some (.int .u64 (((i+j)/2:Nat):Int)):=by
 have h:(((i:Int)+(j:Int)).fdiv (2^(min (1:Int).toNat 64)))=(((i+j)/2:Nat):Int):=by rw[show min (1:Int).toNat 64=1 from rfl,Int.fdiv_eq_ediv_of_nonneg _ (by decide)];omega
 show(if(1:Int)<0 then none else some (AV.int .u64 (((i:Int)+(j:Int)).fdiv (2^(min (1:Int).toNat 64)))))=_;rw[if_neg (by decide),h]
def lbN(l:List Nat)(t:Nat):Nat:=l.countP fun x=>decide (x<t)
theorem lb_eq:∀{l:List Nat}{t i:Nat},i<=l.length->(∀j,j<i->l.getD j 0<t)->(∀j,i<=j->j<l.length->¬l.getD j 0<t)->lbN l t=i
 |[],t,i,hi,_,_=>by simp at hi;subst hi;rfl|x::l,t,0,_,_,b=>by unfold lbN;rw[List.countP_eq_zero];intro y g;obtain⟨q,c,a⟩:=QdS g;have:=b q (Zah _) a;rw[Zak,c]at this;simpa using this|x::l,t,i+1,hi,h1,b=>by
  have h:x<t:=by have:=h1 0 (by omega);simpa using this
  have:=lb_eq (l:=l) (t:=t) (i:=i) (by simpa using hi) (fun j d=>by have:=h1 (j+1) (by omega);simpa using this) (fun j d f=>by have:=b (j+1) (by omega) (by simpa using f);simpa using this);unfold lbN at this⊢;rw[Zcf,this,if_pos (by simpa using h)]
theorem lb_le{l:List Nat}{t:Nat}:lbN l t<=l.length:=List.countP_le_length
theorem Qdx{l:List Nat}(h:l.Pairwise (·<=·)){p q:Nat}(a:p<=q)(b:q<l.length):l.getD p 0<=l.getD q 0:=by
 rw[Zak,Zak,Zal (by omega),Zal b];rcases Nat.lt_or_eq_of_le a with h1|h1;·exact Zbe.1 h p q (by omega) b h1
 subst h1;exact ZaM _
theorem QmT{l:List Nat}(h:l.Pairwise (·<=·)){t i:Nat}(h1:∀j,j<i->l.getD j 0<t)(g:∀j,i<=j->j<l.length->¬l.getD j 0<t):l.contains t=decide (i<l.length/\l.getD i 0=t):=by
 rw[Zby,decide_eq_true_iff,ZaG];constructor
 ·intro hm;obtain⟨q,c,a⟩:=QdS hm;have f:l.getD q 0=t:=by rw[Zak,c];rfl
  have b:i<=q:=by refine Nat.le_of_not_lt fun d=>?_;have:=h1 q d;omega
  have k:=Qdx h b a;have m:=g i (ZaM _) (by omega);exact⟨by omega,by omega⟩
 rintro⟨hi,e⟩;rw[<-e,Zak,Zal hi];exact List.getElem_mem hi
theorem nan81(x:Int):Pq 238 [.int .i64 x] (.bool false):=by refine Zcu 64 ok238 rfl (by(try simp only[noRefs,QaH,Qal,Qam,Qad,Qaj,Qaf,Qak,Qao,Qah,noRef,Zad,Zac])<;>rfl) rfl ?_;unfold s238;refine ZcZ ?_;exact⟨.inr trivial,_,rfl,rfl⟩
theorem nan66(x:Int):Pq 262 [.int .i64 x] (.bool false):=by refine Zcu 64 ok262 rfl (by(try simp only[noRefs,QaH,Qal,Qam,Qad,Qaj,Qaf,Qak,Qao,Qah,noRef,Zad,Zac])<;>rfl) rfl ?_;unfold s262;refine ZcZ ?_;exact⟨.inr trivial,_,rfl,rfl⟩
theorem less65(x y:Int):Pq 171 [.int .i64 x,.int .i64 y] (.bool (decide (x<y))):=by refine Zcu 64 ok171 rfl (by(try simp only[noRefs,QaH,Qal,Qam,Qad,Qaj,Qaf,Qak,Qao,Qah,noRef,Zad,Zac])<;>rfl) rfl ?_;unfold s171;refine ZcZ ?_;refine cp (nan81 x) ?_;refine ZcZ ?_;exact⟨.inr trivial,_,rfl,rfl⟩
theorem find57(l:List Nat)(t:Nat)(g:l.Pairwise (·<=·))(x:l.length<=1000000):Pq 218 [sliN l,.int .i64 (t:Int)] (.tup [.int .i64 (lbN l t:Int),.bool (l.contains t)]):=by
 refine Zcu 64 ok218 rfl (by(try simp only[noRefs,QaH,Qal,Qam,Qad,Qaj,Qaf,Qak,Qao,Qah,noRef,Zad,Zac])<;>rfl) rfl ?_;unfold s218;refine ZcZ ?_;refine Qaq 100 (fun p:Nat×Nat=>[(0,sliN l),(1,.int .i64 (t:Int)),(6,.int .i64 l.length),(7,.int .i64 p.1),(8,.int .i64 p.2)]) (fun _=>[]) (fun p=>p.1<=p.2/\p.2<=l.length/\(∀q,q<p.1->l.getD q 0<t)/\∀q,p.2<=q->q<l.length->¬l.getD q 0<t) (fun p=>p.2-p.1) (0,l.length) 0 140 (fun i:Nat=>[(0,sliN l),(1,.int .i64 (t:Int)),(6,.int .i64 l.length),(7,.int .i64 i)]) (fun _=>[]) (fun i=>i<=l.length/\(∀q,q<i->l.getD q 0<t)/\∀q,i<=q->q<l.length->¬l.getD q 0<t) ?_ ⟨Zah _,ZaM _,fun q d=>absurd d (ZaC _),fun q h1 c=>by omega⟩ ?_ ?_;·exact⟨[],rfl,au0,au9,au10⟩
 ·rintro⟨i,j⟩⟨f,s,h1,c⟩;dsimp only at f s h1 c⊢;by_cases a:i<j
  ·obtain⟨k,hk,o,w⟩:∃k:Nat,aBin .shr (.int .u64 ((i:Int)+(j:Int))) (.int .u64 1)=some (.int .u64 (k:Int))/\i<=k/\k<j:=⟨(i+j)/2,shr1,by omega,by omega⟩;have b:k<l.length:=by omega
   have v:l[k]?=some (l.getD k 0):=by rw[Zal b];simp[b]
   refine Zc0 (Zc3 a hk b (Qaz v)) ?_;refine cp (less65 _ _) ?_;by_cases hc:l.getD k 0<t;·rw[decide_eq_true (by omega)];refine ZcZ ?_;refine⟨(k+1,j),by dsimp only;omega,⟨by dsimp only;omega,s,fun q d=>?_,c⟩,⟨[],rfl,au0,au9,au10⟩⟩;have:=Qdx g (p:=q) (q:=k) (by dsimp only at d;omega) b;omega
   rw[decide_eq_false (by omega)];refine ZcZ ?_;refine⟨(i,k),by dsimp only;omega,⟨o,by dsimp only;omega,h1,fun q d r=>?_⟩,⟨[],rfl,au0,au9,au10⟩⟩;have:=Qdx g (p:=k) (q:=q) d r;omega
  have e:i=j:=by omega
  subst e;refine Zc0 a ?_;exact⟨i,⟨s,h1,c⟩,⟨[],rfl,au0,au9,au10⟩⟩
 rintro i⟨hi,h1,c⟩;rw[lb_eq hi h1 c,QmT g h1 c];by_cases a:i<l.length
 ·have u:l[i]?=some (l.getD i 0):=by rw[Zal a];simp[a]
  by_cases he:l.getD i 0=t;·rw[decide_eq_true ⟨a,he⟩];rw[he]at u;refine Zc0 (Zc1 a (Qaz u)) ?_;exact⟨.inr trivial,_,rfl,rfl⟩
  rw[decide_eq_false fun h=>he h.2];generalize l.getD i 0=y at*;have m:¬(y:Int)=(t:Int):=by omega
  refine Zc0 (Zc2 a (Qaz u) m) ?_;refine cp (nan66 _) ?_;refine ZcZ ?_;exact⟨.inr trivial,_,rfl,rfl⟩
 rw[decide_eq_false fun h=>a h.1];refine Zc0 a ?_;exact⟨.inr trivial,_,rfl,rfl⟩
abbrev edV(e:Ed):AV:=.agg [.int .i64 (e.1:Int),.int .i64 (e.2.1:Int),.int .i64 (e.2.2:Int)]
theorem QqZ(x y:Ed):aEq (.flat true [.i,.i,.i]) true (edV x) (edV y)=some (.bool (!decide (x=y))):=by have:∀n m:Nat,decide ((n:Int)=(m:Int))=decide (n=m):=fun n m=>decide_eq_decide.2 (by omega);obtain⟨a,b,c⟩:=x;obtain⟨g,d,f⟩:=y;simp only[aEq,eqCells,eqCell,if_true];simp only[Zaj,Bool.decide_and,this];cases decide (a=g)<;>cases decide (b=d)<;>cases decide (c=f)<;>rfl
theorem eq41(a b:List Int)(p:b.length<=1000000):Pq 36 [sli a,sli b] (.bool (decide (a=b))):=by
 refine Zcu 64 ok36 rfl (by(try simp only[noRefs,QaH,Qal,Qam,Qad,Qaj,Qaf,Qak,Qao,Qah,noRef,Zad,Zac])<;>rfl) rfl ?_;by_cases f:a.length=b.length
 ·unfold s36;refine Zc0 f ?_;refine QaL 100 (fun i:Nat=>[(0,sli a),(1,sli b),(12,.int .i64 b.length),(13,.int .i64 i)]) (fun _=>[]) (fun i=>i<=b.length/\∀j,j<i->a[j]?=b[j]?) (fun i=>b.length-i) 0 ⟨[],rfl,au0,au9,au10⟩ ⟨Zah _,fun j l=>absurd l (ZaC _)⟩ ?_;rintro i⟨hi,o⟩;by_cases d:i<b.length
  ·obtain⟨x,k⟩:=Qap (l:=a) (i:=i) (by omega);obtain⟨y,g⟩:=Qap (l:=b) (i:=i) (by omega);have c:i<a.length:=by omega
   by_cases h:x=y
   ·have m:True:=by trivial
    refine Zc0 (Zc5 d c (QaV k) (QaV g) h m) ?_;refine⟨i+1,by omega,⟨by omega,fun j l=>?_⟩,⟨[],rfl,au0,au9,au10⟩⟩;by_cases e:j=i;·subst e;rw[k,g,h]
    exact o j (by omega)
   have m:True:=by trivial
   refine Zc0 (Zc5 d c (QaV k) (QaV g) h m) ?_;refine⟨.inr trivial,_,rfl,?_⟩;have:a≠b:=fun e=>by subst e;rw[k]at g;cases g;exact h rfl
   simp[resOf,QaW,this]
  have :a=b:=ZbA fun j=>by
   by_cases l:j<i;·exact o j l
   rw[ZaD (by omega),ZaD (by omega)]
  refine Zc0 d ?_;exact⟨.inr trivial,_,rfl,by simp[resOf,QaW,this]⟩
 unfold s36;refine Zc0 f ?_;have:a≠b:=fun e=>f (by rw[e]);exact⟨.inr trivial,_,rfl,by simp[resOf,QaW,this]⟩
theorem eq55(a b:List Ed)(p:b.length<=10000000):Pq 48 [egsN a,egsN b] (.bool (decide (a=b))):=by
 refine Zcu 64 ok48 rfl (by(try simp only[noRefs,QaH,Qal,Qam,Qad,Qaj,Qaf,Qak,Qao,Qah,noRef,Zad,Zac])<;>rfl) rfl ?_;by_cases d:a.length=b.length
 ·unfold s48;refine Zc0 d ?_;refine QaL 100 (fun i:Nat=>[(0,egsN a),(1,egsN b),(12,.int .i64 b.length),(13,.int .i64 i)]) (fun _=>[]) (fun i=>i<=b.length/\∀j,j<i->a[j]?=b[j]?) (fun i=>b.length-i) 0 ⟨[],rfl,au0,au9,au10⟩ ⟨Zah _,fun j k=>absurd k (ZaC _)⟩ ?_;rintro i⟨hi,o⟩;by_cases f:i<b.length
  ·obtain⟨x,l⟩:=Qap (l:=a) (i:=i) (by omega);obtain⟨y,g⟩:=Qap (l:=b) (i:=i) (by omega);have c:i<a.length:=by omega
   by_cases h:x=y
   ·have m:aEq (.flat true [.i,.i,.i]) true (edV y) (edV y)=some (.bool false):=by rw[QqZ];simp
    refine Zc0 (Zc5 f c (QaJ l) (QaJ g) h m) ?_;refine⟨i+1,by omega,⟨by omega,fun j k=>?_⟩,⟨[],rfl,au0,au9,au10⟩⟩;by_cases e:j=i;·subst e;rw[l,g,h]
    exact o j (by omega)
   have m:aEq (.flat true [.i,.i,.i]) true (edV x) (edV y)=some (.bool true):=by rw[QqZ];simp[h]
   refine Zc0 (Zc5 f c (QaJ l) (QaJ g) h m) ?_;refine⟨.inr trivial,_,rfl,?_⟩;have:a≠b:=fun e=>by subst e;rw[l]at g;cases g;exact h rfl
   simp[resOf,QaW,this]
  have :a=b:=ZbA fun j=>by
   by_cases k:j<i;·exact o j k
   rw[ZaD (by omega),ZaD (by omega)]
  refine Zc0 f ?_;exact⟨.inr trivial,_,rfl,by simp[resOf,QaW,this]⟩
 unfold s48;refine Zc0 d ?_;have:a≠b:=fun e=>d (by rw[e]);exact⟨.inr trivial,_,rfl,by simp[resOf,QaW,this]⟩
theorem Quy{a b:List Nat}:decide (nz a=nz b)=decide (a=b):=by
 refine decide_eq_decide.2 ⟨fun h=>?_,fun h=>by rw[h]⟩;have:∀a b:List Nat,nz a=nz b->a=b:=by intro a;induction a with
  |nil=>intro b h;cases b with|nil=>rfl|cons=>simp at h
  |cons x a c=>intro b h;cases b with|nil=>simp at h|cons y b=>simp only[nz,ZaJ,List.cons.injEq]at h;rw[c b h.2,show x=y by omega]
 exact this a b h
theorem eq41N(a b:List Nat)(c:b.length<=1000000):Pq 36 [sliN a,sliN b] (.bool (decide (a=b))):=by have:=eq41 (nz a) (nz b) (by simpa using c);rw[Qbn,Qbn,Quy]at this;exact this
def autB(x y:Aut):Bool:=decide (x.n=y.n)&&(decide (x.al=y.al)&&(decide (x.ms=y.ms)&&decide (x.es=y.es)))
structure AOk(r:Aut):Prop where
 al:r.al.length<=1000000
 ms:r.ms.length<=1000000
 es:r.es.length<=10000000
theorem eq43(x y:Aut)(d:AOk x)(a:AOk y):Pq 112 [aV x,aV y] (.bool (autB x y)):=by
 refine Zcu 64 ok112 rfl (by(try simp only[noRefs,QaH,Qal,Qam,Qad,Qaj,Qaf,Qak,Qao,Qah,noRef,Zad,Zac])<;>rfl) rfl ?_;have c1:=eq41N x.al y.al a.al;have c2:=eq41N x.ms y.ms a.ms;have c3:=eq55 x.es y.es a.es;unfold autB;by_cases h1:x.n=y.n;·rw[decide_eq_true h1,Zai];generalize decide (x.al=y.al)=b at*;generalize decide (x.ms=y.ms)=b2 at*;generalize decide (x.es=y.es)=c at*;unfold s112;refine Zc0 h1 ?_;refine cp c1 ?_;cases b with|false=>refine ZcZ ?_;exact⟨.inr trivial,_,rfl,rfl⟩|true=>refine ZcZ ?_;refine cp c2 ?_;cases b2 with|false=>refine ZcZ ?_;exact⟨.inr trivial,_,rfl,rfl⟩|true=>refine ZcZ ?_;refine cp c3 ?_;refine ZcZ ?_;exact⟨.inr trivial,_,rfl,rfl⟩
 rw[decide_eq_false h1,Zcd];unfold s112;refine Zc0 h1 ?_;exact⟨.inr trivial,_,rfl,rfl⟩
theorem Qk6(x:Aut):autB x x=true:=by simp[autB]
end Go.AM.SE
