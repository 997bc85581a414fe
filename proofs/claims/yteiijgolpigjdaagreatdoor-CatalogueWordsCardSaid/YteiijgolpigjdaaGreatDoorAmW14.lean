/- A part of the proof of CatalogueWordsCardSaid: lemmas on the way (AmTq, AnBp, AnBk, AnBl, AnBo, AnCa, AnCb, AnBFb, AnBw, AnBFd, AnBy, AnBFe, AnCc, AnCg, AnCm, AnCp, AnCt, AnCw, AnCyb, AnCyf, AnCyh, AnCyg, AnCyi, AnCyj, AnGb, AnGc, AnGd, AnGk, AnGl). Conditions: none of ours. -/
import Derived.Shelf.SlSortCmp.NoneTotal
import Derived.Test.YteiijgolpigjdaaGreatDoorProg
import Derived.KernelRfl
import Derived.Test.YteiijgolpigjdaaGreatDoorAmW13
set_option linter.unusedSectionVars false
set_option maxHeartbeats 32000000
set_option maxRecDepth 100000
set_option linter.unusedVariables false
set_option linter.unusedSimpArgs false
set_option linter.unusedSectionVars false
namespace Go.AM
open Go.Proofs Go.Shelf Go.Sort
variable{P:Program}{ρ:Ren}{α:Type}[Inhabited α]
abbrev encI(ci:α->List Int)(x:α):List Value:=(ci x).map (Value.int .i64)
abbrev avI(ci:α->List Int)(x:α):List AV:=(ci x).map (AV.int .i64)
theorem Qjz{ok:Okc}{c:Ctx ok}{w:World}:∀{a:List Int}{vs:List Value},VPre c w (a.map (AV.int .i64)) vs->∃r,vs=a.map (Value.int .i64)++r|[],vs,_=>⟨vs,rfl⟩|n::a,vs,h=>by simp only[List.map_cons,VPre]at h;obtain⟨v,d,rfl,f,b⟩:=h;obtain⟨r,rfl⟩:=Qjz b;simp only[VRel]at f;simp_all
theorem QgV{ok:Okc}{c:Ctx ok}{w:World}:∀{a:List Int}{r:List Value},VPre c w (a.map (AV.int .i64)) (a.map (Value.int .i64)++r)|[],r=>by simp[VPre]|n::a,r=>by simp only[List.map_cons,VPre,List.cons_append];exact⟨_,_,rfl,by simp[VRel],QgV⟩
theorem QmS(ci:α->List Int)(l:List α):l.flatMap (avI ci)=(l.flatMap ci).map (AV.int .i64):=by rw[List.map_flatMap]
theorem Qlf(ci:α->List Int)(l:List α):l.flatMap (encI ci)=(l.flatMap ci).map (Value.int .i64):=by rw[List.map_flatMap]
theorem QgW{β γ:Type}{f:β->List γ}{k:Nat}(hk:∀x,(f x).length=k)(a:0<k):∀{l:List β}{t:Nat},(l.flatMap f)[t]?=(l[t/k]?).bind fun x=>(f x)[t%k]?
 |[],t=>by simp|x::l,t=>by
  rw[List.flatMap_cons];by_cases h:t<k;·simp_all[List.getElem?_append_left,Nat.div_eq_of_lt,Nat.mod_eq_of_lt]
  rw[List.getElem?_append_right (by rw[hk];omega),hk,QgW hk a (l:=l)];simp_all[Nat.div_eq_sub_div,Nat.mod_eq_sub_mod]
theorem Qh4{enc:α->List Value}{k:Nat}(hk:∀x,(enc x).length=k)(c:0<k)(l:List α):Go.Sort.flatK enc k l.toArray=(l.flatMap enc).toArray:=by
 refine ext_get! ?_ fun t a=>?_;·simp_all[List.map_const']
 have b:t<l.length*k:=by simpa using a
 have d:t/k<l.length:=by simp_all[Nat.div_lt_iff_lt_mul]
 grind[get_flatK,QgW]
theorem QjY{F:List Value}{C:Array Value}{o:Nat}(h:o+F.length<=C.size):(putCells id o F.toArray C).toList.drop o=F++C.toList.drop (o+F.length):=by apply List.ext_getElem?;grind[putCells]
theorem HSpec.sortK{f g b γ:Nat}(L:SlLaysF0.n6 P ρ)(hf:ρ.f 6=f)(F:Callable P f)(k:Nat)(h0:0<k)(aE:∀w,(isAgg (ρ.t 24)).run P w=.ok true w)(zE:∀w,(Go.sizeOf (ρ.t 24)).run P w=.ok k w)(ci:α->List Int)(hk:∀x,(ci x).length=k)(cf:α->α->Int)(hO:SWO (ltOf cf))(eg:∀args w,(callFunc g args).run P w=.ok (.enter g args) w)(V:∀x y w,Calls P g #[.agg (encI ci x).toArray,.agg (encI ci y).toArray] w fun e w'=>e=.returned (.int .i64 (cf x y))/\∃q os',w'=grow (w.drewN q) os')(l:List α)(hl:l.length<4611686018427387904){h:Heap}(hb:h.get b=some (.cells γ (l.flatMap (avI ci))))(hlim:b<1099511627775):∃l':List α,l'.Perm l/\l'.Pairwise (fun x y=>ltOf cf y x=false)/\HSpec P f [.sl b γ 0 l.length k,.fn g [] []] h (.tup []) (h.set b (.cells γ (l'.flatMap (avI ci)))):=by
 obtain⟨a,Z⟩:∃a,a=pdq (ltOf cf) l.toArray 0 l.length (Lib.bitLen l.length) true true:=⟨_,rfl⟩;have hs:=pdq_sorts (ltOf cf) hO l.toArray 0 l.length (Lib.bitLen l.length) true true (Nat.zero_le _) (by simp) (Or.inl rfl);rw[<-Z]at hs;obtain⟨⟨hsz,_,s⟩,J⟩:=hs;have U:a.size=l.length:=by simpa using hsz
 have X:(a.extract 0 l.length).toList=a.toList:=by rw[<-U];simp
 have I:(l.toArray.extract 0 l.length).toList=l:=by simp
 rw[X,I]at s;have A:∀x,(encI ci x).length=k:=fun x=>by simp[hk]
 have R:∀x,∀v∈encI ci x,v.oneCell'=true:=fun x v hv=>by obtain⟨n,_,rfl⟩:=List.mem_map.1 hv;rfl
 refine⟨a.toList,s,?_,F,?_⟩;·rw[List.pairwise_iff_getElem];intro i j hi hj hij;have:=J i j (Nat.zero_le _) hij (by simp_all);grind
 intro c w u H ha;have hget:∀x j,(h.set b x).get j=if j=b then some x else h.get j:=fun x j=>Tr.Qa2 h (by simp_all[lim]) j x;obtain⟨v1,v2,hca,Q,hv2⟩:∃v1 v2,u.toList=[v1,v2]/\VRel c w (.sl b γ 0 l.length k) v1/\v2=.func (.func g) #[] #[]:=by simp_all[VRels,VRel]
 have Y:u=#[v1,v2]:=Array.toList_inj.1 (by rw[hca]);subst Y hv2;have none:l=[]->∀p cap,v1=.slice p 0 cap->Calls P f #[v1,.func (.func g) #[] #[]] w fun e w'=>∃cv c',e=.returned cv/\Evo c w c' w'/\HRel c' (h.set b (.cells γ (a.toList.flatMap (avI ci)))) w'/\VRel c' w' (.tup []) cv:=by rintro e p cap rfl;have hn:=AnyF.slices_SortFunc_none {L with} p cap (.func (.func g) #[] #[]) w;rw[hf]at hn;refine hn.mono ?_;rintro e1 w'⟨rfl,rfl⟩;refine⟨_,c,rfl,Evo.refl c _,Qcd (fun j=>?_) H,by simp[VRel,VRels]⟩;simp_all
 simp only[VRel]at Q;rcases Q with⟨_,h1,_,rfl⟩|⟨t,base,o,cap,C,e,fr,hp,rfl,hlc,T,S⟩;·simp_all
 by_cases hl0:l.length=0;·simp_all
 obtain⟨ho,hbd⟩:=S.resolve_left (by omega);have ho':base=o:=ho.symm;subst ho';obtain⟨C',e',fr',hcO,K,hfr,hbs,B⟩:=H.here hb hp;rw[T]at K;cases K;have hlen:(l.flatMap ci).length=l.length*k:=by simp[List.length_flatMap,hk,List.map_const',List.sum_replicate_nat]
 have hlen':(a.toList.flatMap ci).length=l.length*k:=by grind
 have hlk:l.length*k<=cap*k:=Nat.mul_le_mul_right k hlc;rw[QmS]at B;obtain⟨r,hr⟩:=Qjz B;have hfl:Go.Sort.flatK (encI ci) k l.toArray=((l.flatMap ci).map (Value.int .i64)).toArray:=by rw[Qh4 A h0,Qlf]
 have M:Go.Sort.flatK (encI ci) k a=((a.toList.flatMap ci).map (Value.int .i64)).toArray:=by have:=Qh4 A h0 a.toList;rw[Qlf]at this;exact this
 have hblk:=Qbd T;have hH:HoldsK (encI ci) k w t base l.toArray:=by
  unfold HoldsK;rw[hfl];intro j hj;have hj':j<l.length*k:=by grind
  have hjC:base+j<C.size:=by omega
  refine⟨?_,?_⟩
  ·simp only[World.cell?,T];have h2:C.toList[base+j]?=some (((l.flatMap ci).map (Value.int .i64))[j]'(by omega)):=by rw[<-List.getElem?_drop,hr,List.getElem?_append_left (by omega),List.getElem?_eq_getElem]
   grind
  simp only[World.frozen?,T];have:=hfr (base+j) hjC;grind
 have d:=AnyQ.slices_SortFunc_eq L k aE zE (encI ci) A R cf hO g #[] t base cap l.toArray w eg (fun m os dk _ x y=>V x y _) hH hblk (by simpa using hl);rw[hf]at d;have e0:(base+0:Nat)=base:=rfl;have esz:(l.toArray).size=l.length:=by simp
 rw[esz,<-Z]at d;refine d.mono ?_;rintro e1 w'⟨rfl,n,os,rfl⟩;have G:∀j,j<w.heap.size->(sortWorldK (encI ci) k w t base n a os).heap[j]?=if j=t then some (.cells (putCells id base ((a.toList.flatMap ci).map (Value.int .i64)).toArray C) e fr)else w.heap[j]?:=fun j hj=>by
  unfold sortWorldK putRowK;rw[heap_grow_old _ _ (by grind[putRow,mapBlock,Sort.ahead]),M];show(w.heap.modify t _)[j]?=_;rw[Array.getElem?_modify];by_cases e2:t=j;·subst e2;rw[if_pos rfl,if_pos rfl,T];rfl
  grind
 have N:w.heap.size<=(sortWorldK (encI ci) k w t base n a os).heap.size:=by grind
 have O:=G t hblk;rw[if_pos rfl]at O;obtain⟨E,H2⟩:=H.put (w':=sortWorldK (encI ci) k w t base n a os) (b:=b) (cb:=t) (base:=base) (x:=.cells γ (a.toList.flatMap (avI ci))) (by grind[lim]) (fun y hy=>H.later b _ hb y hy) (.inr hp) (.inr ⟨γ,base,⟨_,hb,rfl,fun k=>by simp⟩,hp⟩) rfl rfl rfl N (by omega) (fun j hj hne=>by grind) (fun C2 e2 fr2 h2=>by grind[putCells]) (fun E=>.inr ⟨t,base,_,_,_,by show(if b=b/\γ=γ then _ else _)=_;grind,.inr rfl,O,by grind[putCells],by grind[putCells],by grind[QjY,QmS,QgV]⟩);exact⟨_,_,rfl,E,H2,by simp[VRel,VRels]⟩
end Go.AM
namespace Go.Proofs
open Go.Shelf Go.RowKit Go.Lib Go.Sort
def Tryz.QnC:Go.Shelf.Ren:=⟨fun|6=>56|15=>75|14=>87|28=>116|29=>117|20=>127|21=>128|22=>129|23=>130|24=>131|25=>132|26=>133|27=>134|46=>163|47=>149|48=>150|49=>164|50=>165|57=>176|n=>n,fun|22=>47|24=>134|25=>141|3=>3|39=>164|0=>0|53=>216|55=>218|4=>4|46=>210|45=>209|50=>93|5=>5|9=>9|66=>245|70=>249|76=>265|77=>23|n=>n,fun|n=>n⟩
theorem Tryz.sortRm:Go.Proofs.SlLaysF0.n6 Tryz.prog Tryz.QnC:={
 mixed:=by kernel_rfl
 f6:=⟨Tryz.f56.name,by decide,Tryz.func56.trans (congrArg some (by kernel_rfl))⟩
 f14:=⟨Tryz.f87.name,by decide,Tryz.func87.trans (congrArg some (by kernel_rfl))⟩
 f15:=Tryz.func75.trans (congrArg some (by kernel_rfl))
 f20:=⟨Tryz.f127.name,by decide,Tryz.func127.trans (congrArg some (by kernel_rfl))⟩
 f21:=⟨Tryz.f128.name,by decide,Tryz.func128.trans (congrArg some (by kernel_rfl))⟩
 f22:=⟨Tryz.f129.name,by decide,Tryz.func129.trans (congrArg some (by kernel_rfl))⟩
 f23:=⟨Tryz.f130.name,by decide,Tryz.func130.trans (congrArg some (by kernel_rfl))⟩
 f24:=⟨Tryz.f131.name,by decide,Tryz.func131.trans (congrArg some (by kernel_rfl))⟩
 f25:=⟨Tryz.f132.name,by decide,Tryz.func132.trans (congrArg some (by kernel_rfl))⟩
 f26:=⟨Tryz.f133.name,by decide,Tryz.func133.trans (congrArg some (by kernel_rfl))⟩
 f27:=⟨Tryz.f134.name,by decide,Tryz.func134.trans (congrArg some (by kernel_rfl))⟩
 f28:=Tryz.func116.trans (congrArg some (by kernel_rfl))
 f29:=Tryz.func117.trans (congrArg some (by kernel_rfl))
 f46:=⟨Tryz.f163.name,by decide,Tryz.func163.trans (congrArg some (by kernel_rfl))⟩
 f47:=Tryz.func149.trans (congrArg some (by kernel_rfl))
 f48:=Tryz.func150.trans (congrArg some (by kernel_rfl))
 f49:=⟨Tryz.f164.name,by decide,Tryz.func164.trans (congrArg some (by kernel_rfl))⟩
 f50:=⟨Tryz.f165.name,by decide,Tryz.func165.trans (congrArg some (by kernel_rfl))⟩
 f57:=⟨Tryz.f176.name,by decide,Tryz.func176.trans (congrArg some (by kernel_rfl))⟩
 t0:=Tryz.underlying0
 a0:=Tryz.isAgg0
 z0:=Tryz.sizeOf0
 v0:=Tryz.zeroValue0
 t3:=Tryz.underlying3
 a3:=Tryz.isAgg3
 z3:=Tryz.sizeOf3
 v3:=Tryz.zeroValue3
 t4:=Tryz.underlying4
 a4:=Tryz.isAgg4
 z4:=Tryz.sizeOf4
 v4:=Tryz.zeroValue4
 t5:=Tryz.underlying5
 a5:=Tryz.isAgg5
 z5:=Tryz.sizeOf5
 v5:=Tryz.zeroValue5
 t9:=Tryz.underlying9
 a9:=Tryz.isAgg9
 z9:=Tryz.sizeOf9
 v9:=Tryz.zeroValue9
 t22:=Tryz.underlying47
 a22:=Tryz.isAgg47
 z22:=Tryz.sizeOf47
 v22:=Tryz.zeroValue47
 t25:=Tryz.underlying141
 a25:=Tryz.isAgg141
 z25:=Tryz.sizeOf141
 v25:=Tryz.zeroValue141
 t39:=Tryz.underlying164
 a39:=Tryz.isAgg164
 z39:=Tryz.sizeOf164
 v39:=Tryz.zeroValue164
 t45:=Tryz.underlying209
 a45:=Tryz.isAgg209
 z45:=Tryz.sizeOf209
 v45:=Tryz.zeroValue209
 t46:=Tryz.underlying210
 a46:=Tryz.isAgg210
 z46:=Tryz.sizeOf210
 v46:=Tryz.zeroValue210
 t50:=Tryz.underlying93
 a50:=Tryz.isAgg93
 z50:=Tryz.sizeOf93
 v50:=Tryz.zeroValue93
 t53:=Tryz.underlying216
 a53:=Tryz.isAgg216
 z53:=Tryz.sizeOf216
 v53:=Tryz.zeroValue216
 t55:=Tryz.underlying218
 a55:=Tryz.isAgg218
 z55:=Tryz.sizeOf218
 v55:=Tryz.zeroValue218
 t66:=Tryz.underlying245
 a66:=Tryz.isAgg245
 z66:=Tryz.sizeOf245
 v66:=Tryz.zeroValue245
 t70:=Tryz.underlying249
 a70:=Tryz.isAgg249
 z70:=Tryz.sizeOf249
 v70:=Tryz.zeroValue249
 t76:=Tryz.underlying265
 a76:=Tryz.isAgg265
 z76:=Tryz.sizeOf265
 v76:=Tryz.zeroValue265
 t77:=Tryz.underlying23
 a77:=Tryz.isAgg23
 z77:=Tryz.sizeOf23
 v77:=Tryz.zeroValue23}
abbrev Rm4:=Fin 1048576×Int×Int×Int
def ciR(x:Rm4):List Int:=[(x.1.val:Int),x.2.1,x.2.2.1,x.2.2.2]
def cfR(x y:Rm4):Int:=(x.1.val:Int)-(y.1.val:Int)
theorem Tryz.cmp180(x y:Rm4)(W:World):Calls Tryz.prog 57 #[.agg #[.int .i64 (x.1.val:Int),.int .i64 x.2.1,.int .i64 x.2.2.1,.int .i64 x.2.2.2],.agg #[.int .i64 (y.1.val:Int),.int .i64 y.2.1,.int .i64 y.2.2.1,.int .i64 y.2.2.2]] W fun e w'=>e=.returned (.int .i64 (cfR x y))/\∃q f,w'=grow (W.drewN q) f:=by obtain⟨⟨a,h⟩,b,c,d⟩:=x;obtain⟨⟨l,g⟩,j,i,k⟩:=y;unfold cfR;go_enter Tryz.func57,Tryz.ntmps57;go_wp2;go_ret;exact⟨rfl,0,_,by rw[alloc_eq_grow,alloc_eq_grow,grow_grow];rfl⟩
theorem QfX(x y:Rm4):ltOf cfR x y=decide (x.1.val<y.1.val):=by unfold ltOf cfR;grind
theorem QqL:SWO (ltOf cfR)where
 irrefl x:=by rw[QfX];simp
 trans x y z h1 a:=by rw[QfX,decide_eq_true_eq]at*;omega
 ntrans x y z h1 a:=by grind[QfX]
end Go.Proofs
namespace Go.AM.SE
open Go.Proofs Go.AM.SD Go.Sort Go.Shelf
def toR(r:Rm):Rm4:=(⟨r.st%1048576,Nat.mod_lt _ (by decide)⟩,r.rank,(r.reason:Int),r.ev)
theorem Qrx{r:Rm}(h:r.st<=4096):avI ciR (toR r)=rmC r:=by simp[avI,ciR,toR,rmC,Nat.mod_eq_of_lt (show r.st<1048576 by omega)]
theorem Qhm:∀{l:List Rm},(∀r∈l,r.st<=4096)->(l.map toR).flatMap (avI ciR)=l.flatMap rmC|[],_=>rfl|e::l,h=>by rw[List.map_cons,List.flatMap_cons,List.flatMap_cons,Qrx (h e (by simp)),Qhm fun x a=>h x (by simp[a])]
theorem call179:Callable Tryz.prog 56:=⟨_,Tryz.func56,by kernel_rfl,by kernel_rfl⟩
theorem sortH{l:List Rm}{h:Heap}(b:∀r∈l,r.st<=4096)(B:l.length<1000000000)(u:(l.map (·.st)).Nodup)(v:h.get 74=some (.cells 0 (l.flatMap rmC))):HSpec Tryz.prog 56 [.sl 74 0 0 l.length 4,.fn 57 [] []] h (.tup []) (h.set 74 (.cells 0 ((srtR l).flatMap rmC))):=by
 have m:=QoR l;have f:∀r∈srtR l,r.st<=4096:=fun r q=>b r (m.mem_iff.1 q);obtain⟨t,hp,d,A⟩:=HSpec.sortK (f:=56) (g:=57) (γ:=0) (h:=h) (b:=74) Tryz.sortRm rfl call179 4 (by decide) Tryz.isAgg134 Tryz.sizeOf134 ciR (fun _=>rfl) cfR QqL (enters_of Tryz.func57 (by kernel_rfl) rfl) (fun x y w=>Tryz.cmp180 x y w) (l.map toR) (by rw[List.length_map];omega) (by rw[v,Qhm b]) (by decide);have e:t=(srtR l).map toR:=by
  refine List.Perm.eq_of_pairwise (le:=fun x y=>ltOf cfR y x=false) ?_ d ?_ (hp.trans (m.map toR).symm)
  ·intro x y g k h1 o;obtain⟨m1,c,rfl⟩:=List.mem_map.1 (hp.mem_iff.1 g);obtain⟨m2,a,rfl⟩:=List.mem_map.1 k;have a:=m.mem_iff.1 a;have p:=b m1 c;have b2:=b m2 a;rw[QfX,decide_eq_false_iff_not]at h1 o;simp only[toR]at h1 o;have e:m1.st=m2.st:=by omega
   obtain⟨i,hi,rfl⟩:=List.getElem_of_mem c;obtain⟨j,s,rfl⟩:=List.getElem_of_mem a;have:i=j:=(List.getElem_inj u (h₀:=by simpa using hi) (h₁:=by simpa using s)).1 (by simpa using e);subst this;rfl
  rw[List.pairwise_map];refine(QoS l).imp_of_mem fun{x y}g k h=>?_;have p:=f x g;have b2:=f y k;rw[QfX,decide_eq_false_iff_not];simp only[toR];omega
 simp_all[Qhm]
end Go.AM.SE
namespace Go.AM.SE
open Go.Proofs Go.AM.SD
theorem Agr0{n:Nat}{f:List Nat}(hf:∀x∈f,x<n)(d:f.Nodup):Agr n (left0 n f) (f.map rm0) ((List.range n).map rm0):=by
 refine⟨by simp,fun i r h=>?_,?_,fun r=>?_⟩
 ·rw[List.getElem?_map]at h;by_cases hi:i<n;·rw[List.getElem?_range hi]at h;cases h;rfl
  rw[List.getElem?_eq_none (by simpa using hi)]at h;cases h
 ·rw[List.map_map];have:(fun x:Rm=>x.st)∘rm0=id:=rfl;rw[this,List.map_id];exact d
 constructor
 ·intro h;obtain⟨x,g,rfl⟩:=List.mem_map.1 h;have a:=hf x g;refine⟨a,?_,?_⟩;·rw[Bool.eq_false_iff];intro b;exact(Qk3.1 b).2 g
  show((List.range n).map rm0)[x]?=_;rw[List.getElem?_map,List.getElem?_range a];rfl
 rintro⟨h1,b,c⟩;rw[List.getElem?_map,List.getElem?_range h1]at c;have c:rm0 r.st=r:=by simpa using c
 refine List.mem_map.2 ⟨r.st,?_,c⟩;refine Classical.byContradiction fun j=>?_;have:=Qk3.2 ⟨h1,j⟩;rw[this]at b;cases b
theorem Qlg{n:Nat}{l:LB}{rs rr:List Rm}(h:Agr n l rs rr):rs.length<=n:=by
 have:=Qbb n (rs.map (·.st)) h.nd fun x b=>by obtain⟨r,a,rfl⟩:=List.mem_map.1 b;exact((h.mem r).1 a).1
 simpa using this
theorem QoW{l:LB}{xs:List Nat}{i x:Nat}(h:xs[i]?=some x):offs l (xs.take (i+1))=(offs l (xs.take i)).set x false:=by unfold offs;rw[List.take_add_one,h,Option.toList,List.foldl_append];rfl
def dists(n:Nat)(l:LB)(d:List Int):List Int:=(kept n l).map fun i=>d.getD i 0
theorem QjA{i:Nat}{l:LB}:kept (i+1) l=kept i l++if lf l i=true then[i]else[]:=by unfold kept;rw[List.range_succ,List.filter_append];congr 1;rw[List.filter_cons];rfl
theorem Qp3{i:Nat}{l:LB}:(kept i l).length<=i:=by unfold kept;exact Nat.le_trans (List.length_filter_le _ _) (by simp)
structure Res where
 kept:List Nat
 dist:List Int
 rem:List Rm
 rounds:Nat
 sup:Aut
 orig:List Nat
abbrev rsV(r:Res):AV:=.agg [sliN r.kept,sli r.dist,rms r.rem,.int .i64 (r.rounds:Int),sliN r.sup.al,.int .i64 (r.sup.n:Int),sliN r.sup.ms,egsN r.sup.es,sliN r.orig]
theorem QfY(r:Res):noRef (rsV r)=true:=by simp only[noRef,noRefs,Qab,Qan,Qaf];rfl
def pRes(a:Aut)(f u:List Nat)(all:Bool):Res:=let F:=fin a.n a.es a.ms f u all
 ⟨kept a.n F.1,dists a.n F.1 (pDist a.n a.es a.ms (lf F.1)),srtR F.2.1,F.2.2,restr a (lf F.1),(sAll a (lf F.1)).1⟩
abbrev nine:List AV:=[.nilsl,.nilsl,.nilsl,.int .i64 0,.nilsl,.int .i64 0,.nilsl,.nilsl,.nilsl]
def rnd0(i:Nat):Nat:=if i=0 then 0 else 1
theorem Qry(l:List Rm):(l.flatMap rmC).all AV.one=true:=by induction l with|nil=>rfl|cons x l a=>rw[List.flatMap_cons,List.all_append,a];rfl
theorem QnD{i:Nat}{l:LB}{d:List Int}:dists (i+1) l d=dists i l d++if lf l i=true then[d.getD i 0]else[]:=by unfold dists;rw[QjA,List.map_append];congr 1;split<;>rfl
theorem QjB{i:Nat}{l:LB}{d:List Int}:(dists i l d).length=(kept i l).length:=by unfold dists;simp
abbrev St4:=Nat×LB×List Rm×Nat
abbrev rkH(a:Aut)(u:List Nat)(t:St4):HL:=[(41,.cells 0 nine),(61,.cells 0 [.nilsl,.nilsl,.sl 74 0 0 t.2.2.1.length 4,.int .i64 (t.2.2.2:Int),.nilsl,.int .i64 0,.nilsl,.nilsl,.nilsl]),(70,.cells 0 (pblk a u)),(71,.map 0 (mapF .i64 (backF a.es) (keysR a.es))),(72,.cells 0 (bls t.2.1)),(74,.cells 0 (t.2.2.1.flatMap rmC))]
theorem result39(a:Aut)(f u:List Nat)(all:Bool)(h:WfA a)(B:QOk a f u)(q:a.es.length<=1000000):PSpec Tryz.prog 28 [aV a,sliN f,sliN u,.bool all] (rsV (pRes a f u all)):=by
 have hn5:=h.n5;have hfl:=QbD B.fS B.fn;have hul:=QbD B.uS B.un;have hml:a.ms.length<=a.n:=Qbb a.n a.ms h.nd h.msn;refine PSpec.of_rn 40 ok28 rfl (by(try simp only[noRefs,Qao,Qaq,Qab,Qal,Qaf,Qan,Qar,Qai,noRef,Bool.and_self,Bool.and_true])<;>rfl) (QfY _) ?_;simp(disch:=first|omega|exact PairsOK.mk rfl|(simp only[lenW]<;>omega))only[s28,wW,wV,simprocAttr];refine ch (HSpec.of_O (b:=70) (by(try simp only[noRefs,Qao,Qaq,Qab,Qal,Qaf,Qan,Qar,Qai,noRef,Bool.and_self,Bool.and_true])<;>rfl) (start34 a f u h.esn B.fn (by omega) q (by omega)) (by repeat(first|exact Fresh.e|exact Fresh.le (by assumption) (by omega)|refine Fresh.set ?_ (by omega) (by omega))) rfl) ?_;simp(disch:=first|omega|exact PairsOK.mk rfl|(simp only[lenW]<;>omega))only[wW,wV,simprocAttr];refine Qay 100 (fun i:Nat=>[(3,.bool all),(8,.ptr 41 0 0),(9,.ptr 70 0 0),(10,.ptr 61 0 0),(23,sliN f),(24,.int .i64 f.length),(25,.int .i64 i)]) (fun i=>rkH a u (2,left0 a.n f,(f.take i).map rm0,rnd0 i)) (fun i=>i<=f.length) (fun i=>f.length-i) 0 0 160 (fun _:Unit=>[(3,.bool all),(8,.ptr 41 0 0),(9,.ptr 70 0 0),(10,.ptr 61 0 0)]) (fun _=>rkH a u (2,left0 a.n f,f.map rm0,rnd0 f.length)) (fun _=>True) ?_ (Nat.zero_le _) ?_ ?_
 ·refine⟨[(41,.blk 41 0),(61,.blk 47 0),(70,.blk 70 0),(71,.blk 71 0),(72,.blk 72 0),(74,.nil)],rfl,RO.zero,?_,au7⟩;repeat'(first|exact RB.nil|(refine RnL.same ?_;first|rfl|(simp only[noRef,noRefs,Qah,Bool.and_self,Bool.and_true,Bool.true_and,Qab,Qal,Qaf,Qan,Qar,Qaw,Qai,Qap,Qaa,Qas,Qak,Qao,Qaq,Qau];done))|exact RnM.keyM rfl|exact RnL.nil|exact(True.intro:RnM _ _ _ [] [])|refine RnL.cons ?_ ?_|(refine Rn.same ?_;first|rfl|(simp only[noRef,noRefs,Qah,Bool.and_self,Bool.and_true,Bool.true_and,Qab,Qal,Qaf,Qan,Qar,Qaw,Qai,Qap,Qaa,Qas,Qak,Qao,Qaq,Qau];done))|exact Rn.x1 rfl rfl|exact Rn.x2 rfl rfl|exact Rn.x3 rfl rfl|exact Rn.x4 rfl rfl|exact Rn.x5 rfl|exact Rn.x6 rfl|exact Rn.x7 rfl|refine RB.newnil rfl rfl ?_|refine RB.cells rfl rfl rfl ?_ ?_|refine RB.map rfl rfl rfl ?_ ?_|refine RB.cellsB rfl rfl ?_ ?_|refine RB.mapB rfl rfl ?_ ?_)
  exact RnM.mapF fun x _=>Rn.same (Qaa _)
 ·rintro i hi;by_cases g:i<f.length
  ·obtain⟨x,hx⟩:=Qav g;have X:=QfV ((f.take i).map rm0);rw[List.length_map,List.length_take,Nat.min_eq_left (by omega)]at X;have htk:((f.take (i+1)).map rm0)=(f.take i).map rm0++[rm0 x]:=by rw[List.take_add_one,hx,Option.toList,List.map_append];rfl
   have P:((f.take i).map rm0).length=i:=by rw[List.length_map,List.length_take];omega
   generalize hF:(f.take i).map rm0=G at*;simp(disch:=first|omega|exact PairsOK.mk rfl|(simp only[lenW]<;>omega))only[g,QaW hx,X,P,wW,wV,simprocAttr];refine⟨i+1,by omega,by omega,?_⟩;rw[htk];dsimp only[rkH];rw[List.flatMap_append,List.length_append,P];refine⟨[(41,.blk 41 0),(61,.blk 61 0),(70,.blk 70 0),(71,.blk 71 0),(72,.blk 72 0),(74,.blk 74 1)],rfl,au0,?_,au7⟩;repeat'(first|exact RB.nil|(refine RnL.same ?_;first|rfl|(simp only[noRef,noRefs,Qah,Bool.and_self,Bool.and_true,Bool.true_and,Qab,Qal,Qaf,Qan,Qar,Qaw,Qai,Qap,Qaa,Qas,Qak,Qao,Qaq,Qau];done))|exact RnM.keyM rfl|exact RnL.nil|exact(True.intro:RnM _ _ _ [] [])|refine RnL.cons ?_ ?_|(refine Rn.same ?_;first|rfl|(simp only[noRef,noRefs,Qah,Bool.and_self,Bool.and_true,Bool.true_and,Qab,Qal,Qaf,Qan,Qar,Qaw,Qai,Qap,Qaa,Qas,Qak,Qao,Qaq,Qau];done))|exact Rn.x1 rfl rfl|exact Rn.x2 rfl rfl|exact Rn.x3 rfl rfl|exact Rn.x4 rfl rfl|exact Rn.x5 rfl|exact Rn.x6 rfl|exact Rn.x7 rfl|refine RB.newnil rfl rfl ?_|refine RB.cells rfl rfl rfl ?_ ?_|refine RB.map rfl rfl rfl ?_ ?_|refine RB.cellsB rfl rfl ?_ ?_|refine RB.mapB rfl rfl ?_ ?_)
   exact RnM.mapF fun x _=>Rn.same (Qaa _)
  have e:i=f.length:=by omega
  subst e;dsimp only[rkH];simp(disch:=first|omega|exact PairsOK.mk rfl|(simp only[lenW]<;>omega))only[g,wW,wV,simprocAttr];refine⟨(),?_⟩;refine⟨[(41,.blk 41 0),(61,.blk 61 0),(70,.blk 70 0),(71,.blk 71 0),(72,.blk 72 0),(74,.blk 74 0)],rfl,au0,?_,au7⟩;repeat'(first|exact RB.nil|(refine RnL.same ?_;first|rfl|(simp only[noRef,noRefs,Qah,Bool.and_self,Bool.and_true,Bool.true_and,Qab,Qal,Qaf,Qan,Qar,Qaw,Qai,Qap,Qaa,Qas,Qak,Qao,Qaq,Qau];done))|exact RnM.keyM rfl|exact RnL.nil|exact(True.intro:RnM _ _ _ [] [])|refine RnL.cons ?_ ?_|(refine Rn.same ?_;first|rfl|(simp only[noRef,noRefs,Qah,Bool.and_self,Bool.and_true,Bool.true_and,Qab,Qal,Qaf,Qan,Qar,Qaw,Qai,Qap,Qaa,Qas,Qak,Qao,Qaq,Qau];done))|exact Rn.x1 rfl rfl|exact Rn.x2 rfl rfl|exact Rn.x3 rfl rfl|exact Rn.x4 rfl rfl|exact Rn.x5 rfl|exact Rn.x6 rfl|exact Rn.x7 rfl|refine RB.newnil rfl rfl ?_|refine RB.cells rfl rfl rfl ?_ ?_|refine RB.map rfl rfl rfl ?_ ?_|refine RB.cellsB rfl rfl ?_ ?_|refine RB.mapB rfl rfl ?_ ?_)
  exact RnM.mapF fun x _=>Rn.same (Qaa _)
 rintro _ _;have hrn0:rnd0 f.length=if f.length=0 then 0 else 1:=rfl;have Z:cntL a.n (left0 a.n f)<a.n+1:=by
  have:cntL a.n (left0 a.n f)<=a.n:=by unfold cntL;exact Nat.le_trans List.countP_le_length (by simp)
  omega
 have hA0:=Agr0 (n:=a.n) B.fn (by rw[List.nodup_iff_pairwise_ne];exact B.fS.imp fun h=>by omega);dsimp only[rkH];simp(disch:=first|omega|exact PairsOK.mk rfl|(simp only[lenW]<;>omega))only[wW,wV,simprocAttr];refine Qay 170 (fun t:St4=>[(3,.bool all),(8,.ptr 41 0 0),(9,.ptr 70 0 0),(10,.ptr 61 0 0),(13,.int .i64 t.1)]) (rkH a u) (fun t=>t.2.1.length=a.n/\(∃rr,Agr a.n t.2.1 t.2.2.1 rr)/\t.1+cntL a.n t.2.1<=a.n+2/\∃C,cntL a.n t.2.1<C/\pRounds a.n a.es a.ms u all C t.1 t.2.1 t.2.2.1 t.2.2.2=fin a.n a.es a.ms f u all) (fun t=>cntL a.n t.2.1) (2,left0 a.n f,f.map rm0,rnd0 f.length) 2 260 (fun t:St4=>[(8,.ptr 41 0 0),(9,.ptr 70 0 0),(10,.ptr 61 0 0)]) (rkH a u) (fun t=>t.2=fin a.n a.es a.ms f u all/\t.2.1.length=a.n/\∃rr,Agr a.n t.2.1 t.2.2.1 rr) ?_ ⟨Qjt,⟨_,hA0⟩,by dsimp only;omega,a.n+1,Z,rfl⟩ ?_ ?_
 ·dsimp only[rkH];rw[List.length_map];refine⟨[(41,.blk 41 0),(61,.blk 61 0),(70,.blk 70 0),(71,.blk 71 0),(72,.blk 72 0),(74,.blk 74 0)],rfl,au0,?_,au7⟩;repeat'(first|exact RB.nil|(refine RnL.same ?_;first|rfl|(simp only[noRef,noRefs,Qah,Bool.and_self,Bool.and_true,Bool.true_and,Qab,Qal,Qaf,Qan,Qar,Qaw,Qai,Qap,Qaa,Qas,Qak,Qao,Qaq,Qau];done))|exact RnM.keyM rfl|exact RnL.nil|exact(True.intro:RnM _ _ _ [] [])|refine RnL.cons ?_ ?_|(refine Rn.same ?_;first|rfl|(simp only[noRef,noRefs,Qah,Bool.and_self,Bool.and_true,Bool.true_and,Qab,Qal,Qaf,Qan,Qar,Qaw,Qai,Qap,Qaa,Qas,Qak,Qao,Qaq,Qau];done))|exact Rn.x1 rfl rfl|exact Rn.x2 rfl rfl|exact Rn.x3 rfl rfl|exact Rn.x4 rfl rfl|exact Rn.x5 rfl|exact Rn.x6 rfl|exact Rn.x7 rfl|refine RB.newnil rfl rfl ?_|refine RB.cells rfl rfl rfl ?_ ?_|refine RB.map rfl rfl rfl ?_ ?_|refine RB.cellsB rfl rfl ?_ ?_|refine RB.mapB rfl rfl ?_ ?_)
  exact RnM.mapF fun x _=>Rn.same (Qaa _)
 ·rintro⟨b,l,rs,k⟩⟨p,⟨rr,hA⟩,hrk,C,hfu,o⟩;dsimp only at p hA hrk hfu o⊢;dsimp only[rkH];have hN:=next35 a u l b all h.inN h.nd p (by omega) q (by omega) (by omega);have v:=QpT (left:=lf l) (unc:=u) (rank:=b) (all:=all) h.inN h.nd h.srt;obtain⟨C,rfl⟩:∃m,C=m+1:=⟨C-1,by omega⟩;have M:∀r∈pNext a.n a.es a.ms (lf l) u b all,cntL a.n (offs l ((pNext a.n a.es a.ms (lf l) u b all).map (·.st)))<cntL a.n l:=fun r y=>by
   obtain⟨h1,h2⟩:=v.2 r y;refine QqE (fun i _ hi=>?_) h1 h2 ?_;·rw[Qgc]at hi;simp only[Bool.and_eq_true]at hi;exact hi.1
   rw[Qgc,Qh0 (List.mem_map.2 ⟨r,y,rfl⟩)];simp
  unfold pRounds at o;have hrl:=Qlg hA;have U:=hA.step p v.1 v.2;generalize pNext a.n a.es a.ms (lf l) u b all=c at*;simp(disch:=first|omega|exact PairsOK.mk rfl|(simp only[lenW]<;>omega))only[wW,wV,simprocAttr];refine ch (HSpec.of_F (FrzL.cons (frzP (a:=a) (u:=u) (l:=l) gg gg gg p) (FrzL.cons (FrzTo.same _) (FrzL.cons (FrzTo.same _) FrzL.nil))) (FSpec.QbA hN (by(try simp only[noRefs,Qao,Qaq,Qab,Qal,Qaf,Qan,Qar,Qai,noRef,Bool.and_self,Bool.and_true])<;>rfl) (QqI _) (QfV _) rfl)) ?_;by_cases Y:c.length=0
  ·rw[if_pos Y]at o;simp(disch:=first|omega|exact PairsOK.mk rfl|(simp only[lenW]<;>omega))only[Y,wW,wV,simprocAttr];refine⟨(b,l,rs,k),⟨o,p,rr,hA⟩,?_⟩;refine⟨[(41,.blk 41 0),(61,.blk 61 0),(70,.blk 70 0),(71,.blk 71 0),(72,.blk 72 0),(74,.blk 74 0)],rfl,au0,?_,au7⟩;repeat'(first|exact RB.nil|(refine RnL.same ?_;first|rfl|(simp only[noRef,noRefs,Qah,Bool.and_self,Bool.and_true,Bool.true_and,Qab,Qal,Qaf,Qan,Qar,Qaw,Qai,Qap,Qaa,Qas,Qak,Qao,Qaq,Qau];done))|exact RnM.keyM rfl|exact RnL.nil|exact(True.intro:RnM _ _ _ [] [])|refine RnL.cons ?_ ?_|(refine Rn.same ?_;first|rfl|(simp only[noRef,noRefs,Qah,Bool.and_self,Bool.and_true,Bool.true_and,Qab,Qal,Qaf,Qan,Qar,Qaw,Qai,Qap,Qaa,Qas,Qak,Qao,Qaq,Qau];done))|exact Rn.x1 rfl rfl|exact Rn.x2 rfl rfl|exact Rn.x3 rfl rfl|exact Rn.x4 rfl rfl|exact Rn.x5 rfl|exact Rn.x6 rfl|exact Rn.x7 rfl|refine RB.newnil rfl rfl ?_|refine RB.cells rfl rfl rfl ?_ ?_|refine RB.map rfl rfl rfl ?_ ?_|refine RB.cellsB rfl rfl ?_ ?_|refine RB.mapB rfl rfl ?_ ?_)
   exact RnM.mapF fun x _=>Rn.same (Qaa _)
  rw[if_neg Y]at o;have hnl:=Qlg U;rw[List.length_append]at hnl;obtain⟨r0,hr0⟩:∃r,r∈c:=by cases c with|nil=>exact absurd rfl Y|cons r _=>exact⟨r,by simp⟩
  have hd0:=M r0 hr0;have h0':¬(c.length:Int)=0:=by omega
  simp(disch:=first|omega|exact PairsOK.mk rfl|(simp only[lenW]<;>omega))only[h0',wW,wV,simprocAttr];refine Qay 300 (fun j:Nat=>[(49,rms c),(50,.int .i64 c.length),(51,.int .i64 j),(3,.bool all),(8,.ptr 41 0 0),(9,.ptr 70 0 0),(10,.ptr 61 0 0),(13,.int .i64 b),(14,rms c)]) (fun j=>rkH a u (b,offs l ((c.map (·.st)).take j),rs,k)) (fun j=>j<=c.length) (fun j=>c.length-j) 0 4 400 (fun _:Unit=>[(3,.bool all),(8,.ptr 41 0 0),(9,.ptr 70 0 0),(10,.ptr 61 0 0),(13,.int .i64 b),(14,rms c)]) (fun _=>rkH a u (b,offs l (c.map (·.st)),rs,k)) (fun _=>True) ?_ (Nat.zero_le _) ?_ ?_
  ·refine⟨[(41,.blk 41 0),(61,.blk 61 0),(70,.blk 70 0),(71,.blk 71 0),(72,.blk 72 0),(74,.blk 74 0)],rfl,au0,?_,au7⟩;repeat'(first|exact RB.nil|(refine RnL.same ?_;first|rfl|(simp only[noRef,noRefs,Qah,Bool.and_self,Bool.and_true,Bool.true_and,Qab,Qal,Qaf,Qan,Qar,Qaw,Qai,Qap,Qaa,Qas,Qak,Qao,Qaq,Qau];done))|exact RnM.keyM rfl|exact RnL.nil|exact(True.intro:RnM _ _ _ [] [])|refine RnL.cons ?_ ?_|(refine Rn.same ?_;first|rfl|(simp only[noRef,noRefs,Qah,Bool.and_self,Bool.and_true,Bool.true_and,Qab,Qal,Qaf,Qan,Qar,Qaw,Qai,Qap,Qaa,Qas,Qak,Qao,Qaq,Qau];done))|exact Rn.x1 rfl rfl|exact Rn.x2 rfl rfl|exact Rn.x3 rfl rfl|exact Rn.x4 rfl rfl|exact Rn.x5 rfl|exact Rn.x6 rfl|exact Rn.x7 rfl|refine RB.newnil rfl rfl ?_|refine RB.cells rfl rfl rfl ?_ ?_|refine RB.map rfl rfl rfl ?_ ?_|refine RB.cellsB rfl rfl ?_ ?_|refine RB.mapB rfl rfl ?_ ?_)
   exact RnM.mapF fun x _=>Rn.same (Qaa _)
  ·rintro j hj;dsimp only[rkH];by_cases E:j<c.length
   ·obtain⟨r,y⟩:=Qav E;have hrn:=(v.2 r (List.mem_of_getElem? y)).1;have R:=QoW (l:=l) (xs:=c.map (·.st)) (i:=j) (x:=r.st) (by rw[List.getElem?_map,y];rfl);have hol:(offs l ((c.map (·.st)).take j)).length=a.n:=by rw[Qhj];exact p
    generalize offs l ((c.map (·.st)).take j)=L at*;have h1:r.st+1<=L.length:=by omega
    simp(disch:=first|omega|exact PairsOK.mk rfl|(simp only[lenW]<;>omega))only[E,QpW y,hrn,h1,Qiw,wW,wV,simprocAttr];refine⟨j+1,by omega,by omega,?_⟩;rw[R];refine⟨[(41,.blk 41 0),(61,.blk 61 0),(70,.blk 70 0),(71,.blk 71 0),(72,.blk 72 0),(74,.blk 74 0)],rfl,au0,?_,au7⟩;repeat'(first|exact RB.nil|(refine RnL.same ?_;first|rfl|(simp only[noRef,noRefs,Qah,Bool.and_self,Bool.and_true,Bool.true_and,Qab,Qal,Qaf,Qan,Qar,Qaw,Qai,Qap,Qaa,Qas,Qak,Qao,Qaq,Qau];done))|exact RnM.keyM rfl|exact RnL.nil|exact(True.intro:RnM _ _ _ [] [])|refine RnL.cons ?_ ?_|(refine Rn.same ?_;first|rfl|(simp only[noRef,noRefs,Qah,Bool.and_self,Bool.and_true,Bool.true_and,Qab,Qal,Qaf,Qan,Qar,Qaw,Qai,Qap,Qaa,Qas,Qak,Qao,Qaq,Qau];done))|exact Rn.x1 rfl rfl|exact Rn.x2 rfl rfl|exact Rn.x3 rfl rfl|exact Rn.x4 rfl rfl|exact Rn.x5 rfl|exact Rn.x6 rfl|exact Rn.x7 rfl|refine RB.newnil rfl rfl ?_|refine RB.cells rfl rfl rfl ?_ ?_|refine RB.map rfl rfl rfl ?_ ?_|refine RB.cellsB rfl rfl ?_ ?_|refine RB.mapB rfl rfl ?_ ?_)
    exact RnM.mapF fun x _=>Rn.same (Qaa _)
   have e:j=c.length:=by omega
   have e2:(c.map (·.st)).take j=c.map (·.st):=by rw[List.take_of_length_le];simp;omega
   rw[e2];simp(disch:=first|omega|exact PairsOK.mk rfl|(simp only[lenW]<;>omega))only[E,wW,wV,simprocAttr];refine⟨(),?_⟩;refine⟨[(41,.blk 41 0),(61,.blk 61 0),(70,.blk 70 0),(71,.blk 71 0),(72,.blk 72 0),(74,.blk 74 0)],rfl,au0,?_,au7⟩;repeat'(first|exact RB.nil|(refine RnL.same ?_;first|rfl|(simp only[noRef,noRefs,Qah,Bool.and_self,Bool.and_true,Bool.true_and,Qab,Qal,Qaf,Qan,Qar,Qaw,Qai,Qap,Qaa,Qas,Qak,Qao,Qaq,Qau];done))|exact RnM.keyM rfl|exact RnL.nil|exact(True.intro:RnM _ _ _ [] [])|refine RnL.cons ?_ ?_|(refine Rn.same ?_;first|rfl|(simp only[noRef,noRefs,Qah,Bool.and_self,Bool.and_true,Bool.true_and,Qab,Qal,Qaf,Qan,Qar,Qaw,Qai,Qap,Qaa,Qas,Qak,Qao,Qaq,Qau];done))|exact Rn.x1 rfl rfl|exact Rn.x2 rfl rfl|exact Rn.x3 rfl rfl|exact Rn.x4 rfl rfl|exact Rn.x5 rfl|exact Rn.x6 rfl|exact Rn.x7 rfl|refine RB.newnil rfl rfl ?_|refine RB.cells rfl rfl rfl ?_ ?_|refine RB.map rfl rfl rfl ?_ ?_|refine RB.cellsB rfl rfl ?_ ?_|refine RB.mapB rfl rfl ?_ ?_)
   exact RnM.mapF fun x _=>Rn.same (Qaa _)
  rintro _ _;have H:=QfV rs;have hon:=Qry c;dsimp only[rkH];simp(disch:=first|omega|exact PairsOK.mk rfl|(simp only[lenW]<;>omega))only[H,hon,wW,wV,simprocAttr];refine⟨(b+1,offs l (c.map (·.st)),rs++c,b),by dsimp only;exact hd0,⟨by dsimp only;rw[Qhj];exact p,⟨_,U⟩,by dsimp only;omega,C,by dsimp only;omega,o⟩,?_⟩;dsimp only[rkH];rw[List.flatMap_append,List.length_append];refine⟨[(41,.blk 41 0),(61,.blk 61 0),(70,.blk 70 0),(71,.blk 71 0),(72,.blk 72 0),(74,.blk 74 1)],rfl,au0,?_,au7⟩;repeat'(first|exact RB.nil|(refine RnL.same ?_;first|rfl|(simp only[noRef,noRefs,Qah,Bool.and_self,Bool.and_true,Bool.true_and,Qab,Qal,Qaf,Qan,Qar,Qaw,Qai,Qap,Qaa,Qas,Qak,Qao,Qaq,Qau];done))|exact RnM.keyM rfl|exact RnL.nil|exact(True.intro:RnM _ _ _ [] [])|refine RnL.cons ?_ ?_|(refine Rn.same ?_;first|rfl|(simp only[noRef,noRefs,Qah,Bool.and_self,Bool.and_true,Bool.true_and,Qab,Qal,Qaf,Qan,Qar,Qaw,Qai,Qap,Qaa,Qas,Qak,Qao,Qaq,Qau];done))|exact Rn.x1 rfl rfl|exact Rn.x2 rfl rfl|exact Rn.x3 rfl rfl|exact Rn.x4 rfl rfl|exact Rn.x5 rfl|exact Rn.x6 rfl|exact Rn.x7 rfl|refine RB.newnil rfl rfl ?_|refine RB.cells rfl rfl rfl ?_ ?_|refine RB.map rfl rfl rfl ?_ ?_|refine RB.cellsB rfl rfl ?_ ?_|refine RB.mapB rfl rfl ?_ ?_)
  exact RnM.mapF fun x _=>Rn.same (Qaa _)
 rintro⟨b,l,rs,k⟩⟨A,p,rr,hA⟩;dsimp only at A p hA⊢;have hrl:=Qlg hA;have hpd:=Qjw (left:=lf l) h.inN h.nd;have Q:=super54 a u l h p q (by omega);have hdi:=dist53 a u l h.inN h.nd p (by omega) q (by omega);have I:pRes a f u all=⟨kept a.n l,dists a.n l (pDist a.n a.es a.ms (lf l)),srtR rs,k,restr a (lf l),(sAll a (lf l)).1⟩:=by unfold pRes;rw[<-A]
 rw[I];have N:=Qp1 rs;have hsrl:=QfV (srtR rs);generalize pDist a.n a.es a.ms (lf l)=d at*;dsimp only[rkH];simp(disch:=first|omega|exact PairsOK.mk rfl|(simp only[lenW]<;>omega))only[wW,wV,simprocAttr];refine ch (sortH (l:=rs) (fun r y=>by have:=((hA.mem r).1 y).1;omega) (by omega) hA.nd gg) ?_;simp(disch:=first|omega|exact PairsOK.mk rfl|(simp only[lenW]<;>omega))only[wW,wV,simprocAttr];refine ch (HSpec.of_F (FrzL.cons (frzP (a:=a) (u:=u) (l:=l) gg gg gg p) FrzL.nil) (FSpec.QbA hdi (by(try simp only[noRefs,Qao,Qaq,Qab,Qal,Qaf,Qan,Qar,Qai,noRef,Bool.and_self,Bool.and_true])<;>rfl) (QcT _) (by rw[QcJ,hpd,Nat.mul_one]) rfl)) ?_;simp(disch:=first|omega|exact PairsOK.mk rfl|(simp only[lenW]<;>omega))only[wW,wV,simprocAttr];refine Qay 500 (fun i:Nat=>[(8,.ptr 41 0 0),(9,.ptr 70 0 0),(10,.ptr 61 0 0),(77,.fsl (ints d) a.n 1),(78,.int .i64 a.n),(79,.int .i64 i)]) (fun i=>[(41,.cells 0 nine),(61,.cells 0 [.sl 76 0 0 (kept i l).length 1,.sl 77 0 0 (kept i l).length 1,.sl 74 0 0 rs.length 4,.int .i64 (k:Int),.nilsl,.int .i64 0,.nilsl,.nilsl,.nilsl]),(70,.cells 0 (pblk a u)),(71,.map 0 (mapF .i64 (backF a.es) (keysR a.es))),(72,.cells 0 (bls l)),(74,.cells 0 ((srtR rs).flatMap rmC)),(76,.cells 0 (ints (nz (kept i l)))),(77,.cells 0 (ints (dists i l d)))]) (fun i=>i<=a.n) (fun i=>a.n-i) 0 6 600 (fun _:Unit=>[(8,.ptr 41 0 0),(9,.ptr 70 0 0),(10,.ptr 61 0 0)]) (fun _=>[(41,.cells 0 nine),(61,.cells 0 [.sl 76 0 0 (kept a.n l).length 1,.sl 77 0 0 (kept a.n l).length 1,.sl 74 0 0 rs.length 4,.int .i64 (k:Int),.nilsl,.int .i64 0,.nilsl,.nilsl,.nilsl]),(70,.cells 0 (pblk a u)),(71,.map 0 (mapF .i64 (backF a.es) (keysR a.es))),(72,.cells 0 (bls l)),(74,.cells 0 ((srtR rs).flatMap rmC)),(76,.cells 0 (ints (nz (kept a.n l)))),(77,.cells 0 (ints (dists a.n l d)))]) (fun _=>True) ?_ (Nat.zero_le _) ?_ ?_
 ·refine⟨[(41,.blk 41 0),(61,.blk 61 0),(70,.blk 70 0),(71,.blk 71 0),(72,.blk 72 0),(74,.blk 74 0),(76,.nil),(77,.nil)],rfl,au0,?_,au7⟩;repeat'(first|exact RB.nil|(refine RnL.same ?_;first|rfl|(simp only[noRef,noRefs,Qah,Bool.and_self,Bool.and_true,Bool.true_and,Qab,Qal,Qaf,Qan,Qar,Qaw,Qai,Qap,Qaa,Qas,Qak,Qao,Qaq,Qau];done))|exact RnM.keyM rfl|exact RnL.nil|exact(True.intro:RnM _ _ _ [] [])|refine RnL.cons ?_ ?_|(refine Rn.same ?_;first|rfl|(simp only[noRef,noRefs,Qah,Bool.and_self,Bool.and_true,Bool.true_and,Qab,Qal,Qaf,Qan,Qar,Qaw,Qai,Qap,Qaa,Qas,Qak,Qao,Qaq,Qau];done))|exact Rn.x1 rfl rfl|exact Rn.x2 rfl rfl|exact Rn.x3 rfl rfl|exact Rn.x4 rfl rfl|exact Rn.x5 rfl|exact Rn.x6 rfl|exact Rn.x7 rfl|refine RB.newnil rfl rfl ?_|refine RB.cells rfl rfl rfl ?_ ?_|refine RB.map rfl rfl rfl ?_ ?_|refine RB.cellsB rfl rfl ?_ ?_|refine RB.mapB rfl rfl ?_ ?_)
  exact RnM.mapF fun x _=>Rn.same (Qaa _)
 ·rintro i hi;by_cases g:i<a.n
  ·have s:=QjA (i:=i) (l:=l);have w:=QnD (i:=i) (l:=l) (d:=d);have hkl:=@Qp3 i l;have F:=@QjB i l d;generalize kept i l=K at*;generalize dists i l d=D at*;have T:i<l.length:=by omega
   have V:i<d.length:=by omega
   have J:d[i]?=some (d.getD i 0):=by rw[List.getElem?_eq_getElem V];simp[V]
   by_cases h1:lf l i=true
   ·rw[if_pos h1]at s w;simp(disch:=first|omega|exact PairsOK.mk rfl|(simp only[lenW]<;>omega))only[g,QmO T,QaT J,h1,F,wW,wV,simprocAttr];refine⟨i+1,by omega,by omega,?_⟩;rw[s,w,List.length_append,QaU,QaK,QaK];refine⟨[(41,.blk 41 0),(61,.blk 61 0),(70,.blk 70 0),(71,.blk 71 0),(72,.blk 72 0),(74,.blk 74 0),(76,.blk 76 1),(77,.blk 77 1)],rfl,au0,?_,au7⟩;repeat'(first|exact RB.nil|(refine RnL.same ?_;first|rfl|(simp only[noRef,noRefs,Qah,Bool.and_self,Bool.and_true,Bool.true_and,Qab,Qal,Qaf,Qan,Qar,Qaw,Qai,Qap,Qaa,Qas,Qak,Qao,Qaq,Qau];done))|exact RnM.keyM rfl|exact RnL.nil|exact(True.intro:RnM _ _ _ [] [])|refine RnL.cons ?_ ?_|(refine Rn.same ?_;first|rfl|(simp only[noRef,noRefs,Qah,Bool.and_self,Bool.and_true,Bool.true_and,Qab,Qal,Qaf,Qan,Qar,Qaw,Qai,Qap,Qaa,Qas,Qak,Qao,Qaq,Qau];done))|exact Rn.x1 rfl rfl|exact Rn.x2 rfl rfl|exact Rn.x3 rfl rfl|exact Rn.x4 rfl rfl|exact Rn.x5 rfl|exact Rn.x6 rfl|exact Rn.x7 rfl|refine RB.newnil rfl rfl ?_|refine RB.cells rfl rfl rfl ?_ ?_|refine RB.map rfl rfl rfl ?_ ?_|refine RB.cellsB rfl rfl ?_ ?_|refine RB.mapB rfl rfl ?_ ?_)
    exact RnM.mapF fun x _=>Rn.same (Qaa _)
   rw[if_neg h1,List.append_nil]at s w;rw[Bool.not_eq_true]at h1;simp(disch:=first|omega|exact PairsOK.mk rfl|(simp only[lenW]<;>omega))only[g,QmO T,QaT J,h1,wW,wV,simprocAttr];refine⟨i+1,by omega,by omega,?_⟩;rw[s,w];refine⟨[(41,.blk 41 0),(61,.blk 61 0),(70,.blk 70 0),(71,.blk 71 0),(72,.blk 72 0),(74,.blk 74 0),(76,.blk 76 0),(77,.blk 77 0)],rfl,au0,?_,au7⟩;repeat'(first|exact RB.nil|(refine RnL.same ?_;first|rfl|(simp only[noRef,noRefs,Qah,Bool.and_self,Bool.and_true,Bool.true_and,Qab,Qal,Qaf,Qan,Qar,Qaw,Qai,Qap,Qaa,Qas,Qak,Qao,Qaq,Qau];done))|exact RnM.keyM rfl|exact RnL.nil|exact(True.intro:RnM _ _ _ [] [])|refine RnL.cons ?_ ?_|(refine Rn.same ?_;first|rfl|(simp only[noRef,noRefs,Qah,Bool.and_self,Bool.and_true,Bool.true_and,Qab,Qal,Qaf,Qan,Qar,Qaw,Qai,Qap,Qaa,Qas,Qak,Qao,Qaq,Qau];done))|exact Rn.x1 rfl rfl|exact Rn.x2 rfl rfl|exact Rn.x3 rfl rfl|exact Rn.x4 rfl rfl|exact Rn.x5 rfl|exact Rn.x6 rfl|exact Rn.x7 rfl|refine RB.newnil rfl rfl ?_|refine RB.cells rfl rfl rfl ?_ ?_|refine RB.map rfl rfl rfl ?_ ?_|refine RB.cellsB rfl rfl ?_ ?_|refine RB.mapB rfl rfl ?_ ?_)
   exact RnM.mapF fun x _=>Rn.same (Qaa _)
  have e:i=a.n:=by omega
  subst e;simp(disch:=first|omega|exact PairsOK.mk rfl|(simp only[lenW]<;>omega))only[g,wW,wV,simprocAttr];refine⟨(),?_⟩;refine⟨[(41,.blk 41 0),(61,.blk 61 0),(70,.blk 70 0),(71,.blk 71 0),(72,.blk 72 0),(74,.blk 74 0),(76,.blk 76 0),(77,.blk 77 0)],rfl,au0,?_,au7⟩;repeat'(first|exact RB.nil|(refine RnL.same ?_;first|rfl|(simp only[noRef,noRefs,Qah,Bool.and_self,Bool.and_true,Bool.true_and,Qab,Qal,Qaf,Qan,Qar,Qaw,Qai,Qap,Qaa,Qas,Qak,Qao,Qaq,Qau];done))|exact RnM.keyM rfl|exact RnL.nil|exact(True.intro:RnM _ _ _ [] [])|refine RnL.cons ?_ ?_|(refine Rn.same ?_;first|rfl|(simp only[noRef,noRefs,Qah,Bool.and_self,Bool.and_true,Bool.true_and,Qab,Qal,Qaf,Qan,Qar,Qaw,Qai,Qap,Qaa,Qas,Qak,Qao,Qaq,Qau];done))|exact Rn.x1 rfl rfl|exact Rn.x2 rfl rfl|exact Rn.x3 rfl rfl|exact Rn.x4 rfl rfl|exact Rn.x5 rfl|exact Rn.x6 rfl|exact Rn.x7 rfl|refine RB.newnil rfl rfl ?_|refine RB.cells rfl rfl rfl ?_ ?_|refine RB.map rfl rfl rfl ?_ ?_|refine RB.cellsB rfl rfl ?_ ?_|refine RB.mapB rfl rfl ?_ ?_)
  exact RnM.mapF fun x _=>Rn.same (Qaa _)
 rintro _ _;have F:=@QjB a.n l d;generalize restr a (lf l)=S at*;generalize(sAll a (lf l)).1=O at*;simp(disch:=first|omega|exact PairsOK.mk rfl|(simp only[lenW]<;>omega))only[wW,wV,simprocAttr];refine ch (HSpec.of_F (FrzL.cons (frzP (a:=a) (u:=u) (l:=l) gg gg gg p) FrzL.nil) Q) ?_;simp(disch:=first|omega|exact PairsOK.mk rfl|(simp only[lenW]<;>omega))only[wW,wV,simprocAttr];refine⟨.inr trivial,_,rfl,?_⟩;refine Rn.agg (RnL.cons (Rn.fz0 (g:=0) rfl (by simp[ints]) (RnL.same (Qab _))) (RnL.cons ?_ (RnL.cons ?_ (RnL.cons (Rn.same rfl) (RnL.cons (Rn.same (Qaa _)) (RnL.cons (Rn.same rfl) (RnL.cons (Rn.same (Qaa _)) (RnL.cons (Rn.same (Qak _)) (RnL.cons (Rn.same (Qaa _)) RnL.nil)))))))));·have :(dists a.n l d).length=(kept a.n l).length:=F;show Rn 0 π0 _ (.fsl (ints (dists a.n l d)) (dists a.n l d).length 1) _;rw[this];exact Rn.fz0 (g:=0) rfl (by rw[QcJ,this,Nat.mul_one]) (RnL.same (Qab _))
 show Rn 0 π0 _ (.fsl ((srtR rs).flatMap rmC) (srtR rs).length 4) _;rw[N];exact Rn.fz0 (g:=0) rfl (by rw[QfV,N]) (RnL.same (Qan _))
end Go.AM.SE
namespace Go.AM.SE
open Go.Proofs Go.AM.SD
def mach:Aut:=⟨[0,1,2,3],3,[0],[(0,0,1),(1,1,0),(1,2,2),(2,3,0)]⟩
def mach3:Aut:=⟨[0,1,2,3],3,[0],[(0,0,1),(1,1,0),(1,2,2)]⟩
theorem q1:QOk mach [2] [1,2]:=⟨by decide,by decide,by decide,by decide⟩
theorem q2:QOk mach3 [] [1,2]:=⟨by decide,by decide,by decide,by decide⟩
end Go.AM.SE
namespace Go.AM.SE
open Go.Proofs Go.AM.SD
def u8s(l:List Nat):List AV:=l.map fun x:Nat=>.int .u8 (x:Int)
theorem Qbc(l:List Nat):noRefs (u8s l)=true:=Qdr (fun _=>rfl) l
theorem Qrz{l:List Nat}{i x:Nat}(h:l[i]?=some x):(u8s l)[i]?=some (.int .u8 (x:Int)):=by simp[u8s,h]
theorem QoX{k:IntKind}{x y:Nat}(b:0<y):aBin .rem (.int k (x:Int)) (.int k (y:Int))=some (.int k ((x%y:Nat):Int)):=by
 have a:¬(y:Int)=0:=by omega
 simp only[aBin,if_true,if_neg a];rw[Int.tmod_eq_emod_of_nonneg (Int.natCast_nonneg _)];norm_cast
end Go.AM.SE
namespace Go.AM.SO
open Go.Proofs Go.AM.SD Go.AM.SE
def mrg(k:Bool->Bool->Bool):List Nat->List Nat->List Nat|[],[]=>[]|a::A,[]=>(if k true false=true then[a]else[])++mrg k A []|[],b::B=>(if k false true=true then[b]else[])++mrg k [] B|a::A,b::B=>if a<b then(if k true false=true then[a]else[])++mrg k A (b::B)else if b<a then(if k false true=true then[b]else[])++mrg k (a::A) B else(if k true true=true then[a]else[])++mrg k A B termination_by A B=>A.length+B.length
theorem QbU{k:Bool->Bool->Bool}{x:Nat}:∀{A B:List Nat},A.Pairwise (·<·)->B.Pairwise (·<·)->(x∈mrg k A B↔k (decide (x∈A)) (decide (x∈B))=true/\(x∈A\/x∈B))
 |[],[],_,_=>by simp[mrg]|a::A,[],hA,c=>by have d:=QbU (k:=k) (x:=x) (List.pairwise_cons.1 hA).2 c;grind[mrg]|[],b::B,hA,c=>by have d:=QbU (k:=k) (x:=x) hA (List.pairwise_cons.1 c).2;grind[mrg]|a::A,b::B,hA,c=>by
  have h:=(List.pairwise_cons.1 hA).1;have f:=(List.pairwise_cons.1 c).1;rw[mrg];by_cases h1:a<b;·have d:=QbU (k:=k) (x:=x) (List.pairwise_cons.1 hA).2 c;grind
  rw[if_neg h1];by_cases i:b<a;·have d:=QbU (k:=k) (x:=x) hA (List.pairwise_cons.1 c).2;grind
  have g:a=b:=by omega
  subst g;have d:=QbU (k:=k) (x:=x) (List.pairwise_cons.1 hA).2 (List.pairwise_cons.1 c).2;grind termination_by A B=>A.length+B.length
theorem Qcf{k:Bool->Bool->Bool}:∀{A B:List Nat},A.Pairwise (·<·)->B.Pairwise (·<·)->(mrg k A B).Pairwise (·<·)
 |[],[],_,_=>by simp[mrg]|a::A,[],hA,c=>by have l:=Qcf (k:=k) (List.pairwise_cons.1 hA).2 c;grind[List.pairwise_cons,mrg,QbU]|[],b::B,hA,c=>by have l:=Qcf (k:=k) hA (List.pairwise_cons.1 c).2;grind[List.pairwise_cons,mrg,QbU]|a::A,b::B,hA,c=>by
  have h:=(List.pairwise_cons.1 hA).1;have g:=(List.pairwise_cons.1 c).1;rw[mrg];split
  ·rename_i h1;rw[List.pairwise_append];refine⟨by split<;>simp,Qcf (List.pairwise_cons.1 hA).2 c,fun x d y f=>?_⟩;have d:x=a:=by simp_all
   have:=(QbU (List.pairwise_cons.1 hA).2 c).1 f;grind
  rename_i h1;split
  ·rename_i j;rw[List.pairwise_append];refine⟨by split<;>simp,Qcf hA (List.pairwise_cons.1 c).2,fun x d y f=>?_⟩;have d:x=b:=by simp_all
   have:=(QbU hA (List.pairwise_cons.1 c).2).1 f;grind
  rename_i j;have i:a=b:=by omega
  subst i;rw[List.pairwise_append];refine⟨by split<;>simp,Qcf (List.pairwise_cons.1 hA).2 (List.pairwise_cons.1 c).2,fun x d y f=>?_⟩;grind[QbU]termination_by A B=>A.length+B.length
end Go.AM.SO
namespace Go.AM.SO
open Go.Proofs Go.AM.SD Go.AM.SE
theorem iaddr0{a:Nat}{A:List Nat}:aIAddr none 1 (sliN (a::A)) (.int .i64 0)=some (.fptr (ints (nz (a::A)))):=by simp[aIAddr]
theorem head0{a:Nat}{A:List Nat}:(ints (nz (a::A))).head?=some (.int .i64 (a:Int)):=rfl
theorem tk1{b:Nat}{B1:List Nat}:List.take (B1.length+1-1) (List.drop 1 (ints (nz (b::B1))))=ints (nz B1):=by simp only[ints,nz,List.map_cons,List.drop_succ_cons,List.drop_zero];exact List.take_of_length_le (by simp)
theorem tk2{b:Nat}{B1:List Nat}:List.take B1.length (List.drop 1 (ints (nz (b::B1))))=ints (nz B1):=by simp only[ints,nz,List.map_cons,List.drop_succ_cons,List.drop_zero];exact List.take_of_length_le (by simp)
theorem union169(a b:Bool):PSpec Tryz.prog 94 [.bool a,.bool b] (.bool (a||b)):=by
 refine PSpec.QaB 64 ok94 rfl rfl rfl ?_;cases a;·simp(disch:=first|omega|(simp only[lenW]<;>omega))only[s94,wV,simprocAttr];exact⟨.inr trivial,_,rfl,by simp[resOf,QaY]⟩
 simp(disch:=first|omega|(simp only[lenW]<;>omega))only[s94,wV,simprocAttr];exact⟨.inr trivial,_,rfl,by simp[resOf,QaY]⟩
theorem minus242(a b:Bool):PSpec Tryz.prog 168 [.bool a,.bool b] (.bool (a&&!b)):=by
 refine PSpec.QaB 64 ok168 rfl rfl rfl ?_;cases a;·simp(disch:=first|omega|(simp only[lenW]<;>omega))only[s168,wV,simprocAttr];exact⟨.inr trivial,_,rfl,by simp[resOf,QaY]⟩
 simp(disch:=first|omega|(simp only[lenW]<;>omega))only[s168,wV,simprocAttr];exact⟨.inr trivial,_,rfl,by simp[resOf,QaY]⟩
theorem merge168(K:Nat)(k:Bool->Bool->Bool)(hk:∀a b,PSpec Tryz.prog K [.bool a,.bool b] (.bool (k a b)))(A B:List Nat)(hA:A.length<=1000000)(p:B.length<=1000000):PSpec Tryz.prog 93 [sliN A,sliN B,.fn K [] []] (sliN (mrg k A B)):=by
 refine PSpec.of_rn 64 ok93 rfl (by(try simp only[noRefs,Qab,Qal,Qaf,Qan,Qai,noRef,Bool.and_self,Bool.and_true])<;>rfl) (Qaa _) ?_;simp(disch:=first|omega|(simp only[lenW]<;>omega))only[s93,wV,simprocAttr];refine Qbh 120 (fun t:List Nat×List Nat×List Nat=>[(0,sliN t.1),(1,sliN t.2.1),(2,.fn K [] []),(7,.sl 50 0 0 t.2.2.length 1)]) (fun t=>[(50,.cells 0 (ints (nz t.2.2)))]) (fun t=>mrg k A B=t.2.2++mrg k t.1 t.2.1/\t.1.length+t.2.1.length+t.2.2.length<=2000000) (fun t=>t.1.length+t.2.1.length) (A,B,[]) ⟨[(50,.nil)],rfl,au0,au1,au2⟩ ⟨by simp,by simp;omega⟩ ?_;rintro⟨A',B',out⟩⟨hm,g⟩;dsimp only at hm g;rcases A' with _|⟨a,A1⟩<;>rcases B' with _|⟨b,B1⟩;·simp(disch:=first|omega|(simp only[lenW]<;>omega))only[List.length_nil,List.map_nil,wV,simprocAttr];refine⟨.inr trivial,_,rfl,?_⟩;rw[hm,mrg,List.append_nil];exact Rn.fz0 rfl (by simp[ints]) (RnL.same (Qab _))
 ·have h1:(0:Int)<(B1.length:Int)+1:=by omega
  have f:¬(B1.length:Int)+1=0:=by omega
  simp only[List.length_nil,List.length_cons]at g;simp(disch:=first|omega|(simp only[lenW]<;>omega))only[List.length_nil,List.length_cons,h1,f,iaddr0,tk1,tk2,head0,Nat.add_sub_cancel,wV,simprocAttr];refine cp (hk false true) ?_;rw[mrg]at hm;cases c:k false true;·simp(disch:=first|omega|(simp only[lenW]<;>omega))only[wV,simprocAttr];rw[if_neg (by simp[c]),List.nil_append]at hm;exact⟨(([]:List Nat),(B1:List Nat),out),by simp<;>omega,⟨hm,by simp;omega⟩,⟨[(50,.blk 50 0)],rfl,au0,au1,au2⟩⟩
  simp(disch:=first|omega|(simp only[lenW]<;>omega))only[wV,simprocAttr];rw[if_pos c,<-List.append_assoc]at hm;refine⟨(([]:List Nat),(B1:List Nat),out++[b]),by simp<;>omega,⟨hm,by simp;omega⟩,?_⟩;rw[QaU,QaK,List.length_append];exact⟨[(50,.blk 50 1)],rfl,au0,au1,au2⟩
 ·have h1:(0:Int)<(A1.length:Int)+1:=by omega
  have f:¬(A1.length:Int)+1=0:=by omega
  simp only[List.length_nil,List.length_cons]at g;simp(disch:=first|omega|(simp only[lenW]<;>omega))only[List.length_nil,List.length_cons,h1,f,iaddr0,tk1,tk2,head0,Nat.add_sub_cancel,wV,simprocAttr];refine cp (hk true false) ?_;rw[mrg]at hm;cases c:k true false;·simp(disch:=first|omega|(simp only[lenW]<;>omega))only[wV,simprocAttr];rw[if_neg (by simp[c]),List.nil_append]at hm;exact⟨((A1:List Nat),([]:List Nat),out),by simp<;>omega,⟨hm,by simp;omega⟩,⟨[(50,.blk 50 0)],rfl,au0,au1,au2⟩⟩
  simp(disch:=first|omega|(simp only[lenW]<;>omega))only[wV,simprocAttr];rw[if_pos c,<-List.append_assoc]at hm;refine⟨((A1:List Nat),([]:List Nat),out++[a]),by simp<;>omega,⟨hm,by simp;omega⟩,?_⟩;rw[QaU,QaK,List.length_append];exact⟨[(50,.blk 50 1)],rfl,au0,au1,au2⟩
 have h1:(0:Int)<(A1.length:Int)+1:=by omega
 have f:¬(A1.length:Int)+1=0:=by omega
 have m:(0:Int)<(B1.length:Int)+1:=by omega
 have j:¬(B1.length:Int)+1=0:=by omega
 by_cases d:a<b
 ·have i:(a:Int)<=(b:Int):=by omega
  have l:¬(b:Int)<=(a:Int):=by omega
  simp only[List.length_nil,List.length_cons]at g;simp(disch:=first|omega|(simp only[lenW]<;>omega))only[List.length_nil,List.length_cons,h1,f,m,j,i,l,iaddr0,tk1,tk2,head0,Nat.add_sub_cancel,wV,simprocAttr];refine cp (hk true false) ?_;rw[mrg,if_pos d]at hm;cases c:k true false;·simp(disch:=first|omega|(simp only[lenW]<;>omega))only[wV,simprocAttr];rw[if_neg (by simp[c]),List.nil_append]at hm;exact⟨((A1:List Nat),(b::B1:List Nat),out),by simp<;>omega,⟨hm,by simp;omega⟩,⟨[(50,.blk 50 0)],rfl,au0,au1,au2⟩⟩
  simp(disch:=first|omega|(simp only[lenW]<;>omega))only[wV,simprocAttr];rw[if_pos c,<-List.append_assoc]at hm;refine⟨((A1:List Nat),(b::B1:List Nat),out++[a]),by simp<;>omega,⟨hm,by simp;omega⟩,?_⟩;rw[QaU,QaK,List.length_append];exact⟨[(50,.blk 50 1)],rfl,au0,au1,au2⟩
 by_cases h:b<a
 ·have i:¬(a:Int)<=(b:Int):=by omega
  have l:(b:Int)<=(a:Int):=by omega
  simp only[List.length_nil,List.length_cons]at g;simp(disch:=first|omega|(simp only[lenW]<;>omega))only[List.length_nil,List.length_cons,h1,f,m,j,i,l,iaddr0,tk1,tk2,head0,Nat.add_sub_cancel,wV,simprocAttr];refine cp (hk false true) ?_;rw[mrg,if_neg d,if_pos h]at hm;cases c:k false true;·simp(disch:=first|omega|(simp only[lenW]<;>omega))only[wV,simprocAttr];rw[if_neg (by simp[c]),List.nil_append]at hm;exact⟨((a::A1:List Nat),(B1:List Nat),out),by simp<;>omega,⟨hm,by simp;omega⟩,⟨[(50,.blk 50 0)],rfl,au0,au1,au2⟩⟩
  simp(disch:=first|omega|(simp only[lenW]<;>omega))only[wV,simprocAttr];rw[if_pos c,<-List.append_assoc]at hm;refine⟨((a::A1:List Nat),(B1:List Nat),out++[b]),by simp<;>omega,⟨hm,by simp;omega⟩,?_⟩;rw[QaU,QaK,List.length_append];exact⟨[(50,.blk 50 1)],rfl,au0,au1,au2⟩
 have o:a=b:=by omega
 subst o;have i:(a:Int)<=(a:Int):=by omega
 simp only[List.length_nil,List.length_cons]at g;simp(disch:=first|omega|(simp only[lenW]<;>omega))only[List.length_nil,List.length_cons,h1,f,m,j,i,iaddr0,tk1,tk2,head0,Nat.add_sub_cancel,wV,simprocAttr];refine cp (hk true true) ?_;rw[mrg,if_neg d,if_neg h]at hm;cases c:k true true;·simp(disch:=first|omega|(simp only[lenW]<;>omega))only[wV,simprocAttr];rw[if_neg (by simp[c]),List.nil_append]at hm;exact⟨((A1:List Nat),(B1:List Nat),out),by simp<;>omega,⟨hm,by simp;omega⟩,⟨[(50,.blk 50 0)],rfl,au0,au1,au2⟩⟩
 simp(disch:=first|omega|(simp only[lenW]<;>omega))only[wV,simprocAttr];rw[if_pos c,<-List.append_assoc]at hm;refine⟨((A1:List Nat),(B1:List Nat),out++[a]),by simp<;>omega,⟨hm,by simp;omega⟩,?_⟩;rw[QaU,QaK,List.length_append];exact⟨[(50,.blk 50 1)],rfl,au0,au1,au2⟩
theorem union84(A B:List Nat)(hA:A.length<=1000000)(c:B.length<=1000000):PSpec Tryz.prog 61 [sliN A,sliN B] (sliN (mrg (fun a b=>a||b) A B)):=by refine PSpec.of_rn 64 ok61 rfl (by(try simp only[noRefs,Qab,Qal,Qaf,Qan,Qai,noRef,Bool.and_self,Bool.and_true])<;>rfl) (Qaa _) ?_;simp(disch:=first|omega|(simp only[lenW]<;>omega))only[s61,wV,simprocAttr];refine cp (merge168 94 _ union169 A B hA c) ?_;simp(disch:=first|omega|(simp only[lenW]<;>omega))only[wV,simprocAttr];exact⟨.inr trivial,_,rfl,Rn.same (Qaa _)⟩
theorem minus219(A B:List Nat)(hA:A.length<=1000000)(c:B.length<=1000000):PSpec Tryz.prog 139 [sliN A,sliN B] (sliN (mrg (fun a b=>a&&!b) A B)):=by refine PSpec.of_rn 64 ok139 rfl (by(try simp only[noRefs,Qab,Qal,Qaf,Qan,Qai,noRef,Bool.and_self,Bool.and_true])<;>rfl) (Qaa _) ?_;simp(disch:=first|omega|(simp only[lenW]<;>omega))only[s139,wV,simprocAttr];refine cp (merge168 168 _ minus242 A B hA c) ?_;simp(disch:=first|omega|(simp only[lenW]<;>omega))only[wV,simprocAttr];exact⟨.inr trivial,_,rfl,Rn.same (Qaa _)⟩
theorem subset167(A B:List Nat)(hA:A.length<=1000000)(d:B.length<=1000000):PSpec Tryz.prog 92 [sliN A,sliN B] (.bool (decide ((mrg (fun a b=>a&&!b) A B).length=0))):=by
 refine PSpec.QaB 64 ok92 rfl (by(try simp only[noRefs,Qab,Qal,Qaf,Qan,Qai,noRef,Bool.and_self,Bool.and_true])<;>rfl) rfl ?_;simp(disch:=first|omega|(simp only[lenW]<;>omega))only[s92,wV,simprocAttr];refine cp (minus219 A B hA d) ?_;by_cases h:(mrg (fun a b=>a&&!b) A B).length=0
 ·have c:(((mrg (fun a b=>a&&!b) A B).length:Nat):Int)=0:=by omega
  simp(disch:=first|omega|(simp only[lenW]<;>omega))only[c,wV,simprocAttr];exact⟨.inr trivial,_,rfl,by simp[resOf,QaY,h]⟩
 have c:¬(((mrg (fun a b=>a&&!b) A B).length:Nat):Int)=0:=by omega
 simp(disch:=first|omega|(simp only[lenW]<;>omega))only[c,wV,simprocAttr];exact⟨.inr trivial,_,rfl,by simp[resOf,QaY,h]⟩
end Go.AM.SO
namespace Go.AM.SE
open Go.Proofs Go.AM.SD
theorem shr1{i j:Nat}:aBin .shr (.int .u64 ((i:Int)+(j:Int))) (.int .u64 1)=some (.int .u64 (((i+j)/2:Nat):Int)):=by
 have h:(((i:Int)+(j:Int)).fdiv (2^(min (1:Int).toNat 64)))=(((i+j)/2:Nat):Int):=by rw[show min (1:Int).toNat 64=1 from rfl,Int.fdiv_eq_ediv_of_nonneg _ (by decide)];omega
 show(if(1:Int)<0 then none else some (AV.int .u64 (((i:Int)+(j:Int)).fdiv (2^(min (1:Int).toNat 64)))))=_;rw[if_neg (by decide),h]
def lbN(l:List Nat)(t:Nat):Nat:=l.countP fun x=>decide (x<t)
theorem lb_eq:∀{l:List Nat}{t i:Nat},i<=l.length->(∀j,j<i->l.getD j 0<t)->(∀j,i<=j->j<l.length->¬l.getD j 0<t)->lbN l t=i
 |[],t,i,hi,_,_=>by simp at hi;subst hi;rfl|x::l,t,0,_,_,b=>by unfold lbN;rw[List.countP_eq_zero];intro y h;obtain⟨q,d,a⟩:=Qh1 h;have:=b q (Nat.zero_le _) a;rw[List.getD_eq_getElem?_getD,d]at this;simpa using this|x::l,t,i+1,hi,h1,b=>by
  have g:x<t:=by have:=h1 0 (by omega);simpa using this
  have:=lb_eq (l:=l) (t:=t) (i:=i) (by simpa using hi) (fun j f=>by have:=h1 (j+1) (by omega);simpa using this) (fun j f c=>by have:=b (j+1) (by omega) (by simpa using c);simpa using this);unfold lbN at this⊢;rw[List.countP_cons,this,if_pos (by simpa using g)]
theorem lb_le{l:List Nat}{t:Nat}:lbN l t<=l.length:=List.countP_le_length
theorem Qdl{l:List Nat}(h:l.Pairwise (·<=·)){p q:Nat}(a:p<=q)(b:q<l.length):l.getD p 0<=l.getD q 0:=by
 rw[List.getD_eq_getElem?_getD,List.getD_eq_getElem?_getD,List.getElem?_eq_getElem (by omega),List.getElem?_eq_getElem b];rcases Nat.lt_or_eq_of_le a with h1|h1;·exact List.pairwise_iff_getElem.1 h p q (by omega) b h1
 subst h1;exact Nat.le_refl _
theorem Qlh{l:List Nat}(h:l.Pairwise (·<=·)){t i:Nat}(h1:∀j,j<i->l.getD j 0<t)(g:∀j,i<=j->j<l.length->¬l.getD j 0<t):l.contains t=decide (i<l.length/\l.getD i 0=t):=by
 rw[Bool.eq_iff_iff,decide_eq_true_iff,List.contains_iff_mem];constructor
 ·intro hm;obtain⟨q,c,a⟩:=Qh1 hm;have f:l.getD q 0=t:=by rw[List.getD_eq_getElem?_getD,c];rfl
  have b:i<=q:=by refine Nat.le_of_not_lt fun d=>?_;have:=h1 q d;omega
  have k:=Qdl h b a;have m:=g i (Nat.le_refl _) (by omega);exact⟨by omega,by omega⟩
 rintro⟨hi,e⟩;rw[<-e,List.getD_eq_getElem?_getD,List.getElem?_eq_getElem hi];exact List.getElem_mem hi
theorem nan81(x:Int):PSpec Tryz.prog 153 [.int .i64 x] (.bool false):=by refine PSpec.QaB 64 ok153 rfl (by(try simp only[noRefs,Qbc,Qao,Qaq,Qab,Qal,Qaf,Qan,Qar,Qai,noRef,Bool.and_self,Bool.and_true])<;>rfl) rfl ?_;simp(disch:=first|omega|(simp only[lenW]<;>omega))only[s153,wW,wV,simprocAttr];exact⟨.inr trivial,_,rfl,rfl⟩
theorem nan66(x:Int):PSpec Tryz.prog 169 [.int .i64 x] (.bool false):=by refine PSpec.QaB 64 ok169 rfl (by(try simp only[noRefs,Qbc,Qao,Qaq,Qab,Qal,Qaf,Qan,Qar,Qai,noRef,Bool.and_self,Bool.and_true])<;>rfl) rfl ?_;simp(disch:=first|omega|(simp only[lenW]<;>omega))only[s169,wW,wV,simprocAttr];exact⟨.inr trivial,_,rfl,rfl⟩
theorem less65(x y:Int):PSpec Tryz.prog 113 [.int .i64 x,.int .i64 y] (.bool (decide (x<y))):=by refine PSpec.QaB 64 ok113 rfl (by(try simp only[noRefs,Qbc,Qao,Qaq,Qab,Qal,Qaf,Qan,Qar,Qai,noRef,Bool.and_self,Bool.and_true])<;>rfl) rfl ?_;simp(disch:=first|omega|(simp only[lenW]<;>omega))only[s113,wW,wV,simprocAttr];refine cp (nan81 x) ?_;simp(disch:=first|omega|(simp only[lenW]<;>omega))only[wW,wV,simprocAttr];exact⟨.inr trivial,_,rfl,rfl⟩
theorem _root_.Go.AM.au9{p:Prop}(h:p:=by repeat'(first|exact RB.nil|(refine RnL.same ?_;first|rfl|(simp only[noRef,noRefs,Qah,Bool.and_self,Bool.and_true,Bool.true_and,Qab,Qbc,Qal,Qaf,Qan,Qar,Qaw,Qai,Qap,Qaa,Qas,Qak,Qao,Qaq,Qau];done))|exact RnM.keyM rfl|exact RnL.nil|exact(True.intro:RnM _ _ _ [] [])|refine RnL.cons ?_ ?_|(refine Rn.same ?_;first|rfl|(simp only[noRef,noRefs,Qah,Bool.and_self,Bool.and_true,Bool.true_and,Qab,Qbc,Qal,Qaf,Qan,Qar,Qaw,Qai,Qap,Qaa,Qas,Qak,Qao,Qaq,Qau];done))|exact Rn.x1 rfl rfl|exact Rn.x2 rfl rfl|exact Rn.x3 rfl rfl|exact Rn.x4 rfl rfl|exact Rn.x5 rfl|exact Rn.x6 rfl|exact Rn.x7 rfl|refine RB.newnil rfl rfl ?_|refine RB.cells rfl rfl rfl ?_ ?_|refine RB.map rfl rfl rfl ?_ ?_|refine RB.cellsB rfl rfl ?_ ?_|refine RB.mapB rfl rfl ?_ ?_)):p:=h
theorem _root_.Go.AM.au10{p:Prop}(h:p:=by repeat(first|exact RT.nil|(refine RT.cons ?_ ?_;·(first|exact Rn.any|exact Rn.x1 rfl rfl|exact Rn.x2 rfl rfl|exact Rn.x3 rfl rfl|exact Rn.x4 rfl rfl|exact Rn.x5 rfl|exact Rn.x6 rfl|exact Rn.x7 rfl|(refine Rn.slot ?_ ?_;(first|rfl|(rw[Int.natCast_add];rfl));(first|rfl|(simp only[noRef,noRefs,Qah,Bool.and_self,Bool.and_true,Bool.true_and,Qab,Qbc,Qal,Qaf,Qan,Qar,Qaw,Qai,Qap,Qaa,Qas,Qak,Qao,Qaq,Qau];done)))|(refine Rn.fn ?_ ?_<;>(repeat'(first|exact RnL.nil|refine RnL.cons ?_ ?_|exact Rn.same rfl|exact Rn.x6 rfl|exact Rn.x2 rfl rfl|exact Rn.x5 rfl|exact Rn.x1 rfl rfl))))))):p:=h
theorem find57(l:List Nat)(t:Nat)(g:l.Pairwise (·<=·))(x:l.length<=1000000):PSpec Tryz.prog 141 [sliN l,.int .i64 (t:Int)] (.tup [.int .i64 (lbN l t:Int),.bool (l.contains t)]):=by
 refine PSpec.QaB 64 ok141 rfl (by(try simp only[noRefs,Qbc,Qao,Qaq,Qab,Qal,Qaf,Qan,Qar,Qai,noRef,Bool.and_self,Bool.and_true])<;>rfl) rfl ?_;simp(disch:=first|omega|(simp only[lenW]<;>omega))only[s141,wW,wV,simprocAttr];refine Qay 100 (fun p:Nat×Nat=>[(0,sliN l),(1,.int .i64 (t:Int)),(6,.int .i64 l.length),(7,.int .i64 p.1),(8,.int .i64 p.2)]) (fun _=>[]) (fun p=>p.1<=p.2/\p.2<=l.length/\(∀q,q<p.1->l.getD q 0<t)/\∀q,p.2<=q->q<l.length->¬l.getD q 0<t) (fun p=>p.2-p.1) (0,l.length) 0 140 (fun i:Nat=>[(0,sliN l),(1,.int .i64 (t:Int)),(6,.int .i64 l.length),(7,.int .i64 i)]) (fun _=>[]) (fun i=>i<=l.length/\(∀q,q<i->l.getD q 0<t)/\∀q,i<=q->q<l.length->¬l.getD q 0<t) ?_ ⟨Nat.zero_le _,Nat.le_refl _,fun q d=>absurd d (Nat.not_lt_zero _),fun q h1 c=>by omega⟩ ?_ ?_;·exact⟨[],rfl,au0,au9,au10⟩
 ·rintro⟨i,j⟩⟨f,s,h1,c⟩;dsimp only at f s h1 c⊢;by_cases a:i<j
  ·obtain⟨k,hk,o,w⟩:∃k:Nat,aBin .shr (.int .u64 ((i:Int)+(j:Int))) (.int .u64 1)=some (.int .u64 (k:Int))/\i<=k/\k<j:=⟨(i+j)/2,shr1,by omega,by omega⟩;have b:k<l.length:=by omega
   have v:l[k]?=some (l.getD k 0):=by rw[List.getElem?_eq_getElem b];simp[b]
   simp(disch:=first|omega|(simp only[lenW]<;>omega))only[a,hk,b,QaW v,wW,wV,simprocAttr];refine cp (less65 _ _) ?_;by_cases hc:l.getD k 0<t;·rw[decide_eq_true (by omega)];simp(disch:=first|omega|(simp only[lenW]<;>omega))only[wW,wV,simprocAttr];refine⟨(k+1,j),by dsimp only;omega,⟨by dsimp only;omega,s,fun q d=>?_,c⟩,⟨[],rfl,au0,au9,au10⟩⟩;have:=Qdl g (p:=q) (q:=k) (by dsimp only at d;omega) b;omega
   rw[decide_eq_false (by omega)];simp(disch:=first|omega|(simp only[lenW]<;>omega))only[wW,wV,simprocAttr];refine⟨(i,k),by dsimp only;omega,⟨o,by dsimp only;omega,h1,fun q d r=>?_⟩,⟨[],rfl,au0,au9,au10⟩⟩;have:=Qdl g (p:=k) (q:=q) d r;omega
  have e:i=j:=by omega
  subst e;simp(disch:=first|omega|(simp only[lenW]<;>omega))only[a,wW,wV,simprocAttr];exact⟨i,⟨s,h1,c⟩,⟨[],rfl,au0,au9,au10⟩⟩
 rintro i⟨hi,h1,c⟩;rw[lb_eq hi h1 c,Qlh g h1 c];by_cases a:i<l.length
 ·have u:l[i]?=some (l.getD i 0):=by rw[List.getElem?_eq_getElem a];simp[a]
  by_cases he:l.getD i 0=t;·rw[decide_eq_true ⟨a,he⟩];rw[he]at u;simp(disch:=first|omega|(simp only[lenW]<;>omega))only[a,QaW u,wW,wV,simprocAttr];exact⟨.inr trivial,_,rfl,rfl⟩
  rw[decide_eq_false fun h=>he h.2];generalize l.getD i 0=y at*;have m:¬(y:Int)=(t:Int):=by omega
  simp(disch:=first|omega|(simp only[lenW]<;>omega))only[a,QaW u,m,wW,wV,simprocAttr];refine cp (nan66 _) ?_;simp(disch:=first|omega|(simp only[lenW]<;>omega))only[wW,wV,simprocAttr];exact⟨.inr trivial,_,rfl,rfl⟩
 rw[decide_eq_false fun h=>a h.1];simp(disch:=first|omega|(simp only[lenW]<;>omega))only[a,wW,wV,simprocAttr];exact⟨.inr trivial,_,rfl,rfl⟩
end Go.AM.SE
namespace Go.AM.SE
open Go.Proofs Go.AM.SD
abbrev edV(e:Ed):AV:=.agg [.int .i64 (e.1:Int),.int .i64 (e.2.1:Int),.int .i64 (e.2.2:Int)]
theorem QoZ(x y:Ed):aEq (.flat true [.i,.i,.i]) true (edV x) (edV y)=some (.bool (!decide (x=y))):=by have:∀n m:Nat,decide ((n:Int)=(m:Int))=decide (n=m):=fun n m=>decide_eq_decide.2 (by omega);obtain⟨a,b,c⟩:=x;obtain⟨g,d,f⟩:=y;simp only[aEq,eqCells,eqCell,if_true];simp only[Prod.mk.injEq,Bool.decide_and,this];cases decide (a=g)<;>cases decide (b=d)<;>cases decide (c=f)<;>rfl
theorem eq41(a b:List Int)(p:b.length<=1000000):PSpec Tryz.prog 166 [sli a,sli b] (.bool (decide (a=b))):=by
 refine PSpec.QaB 64 ok166 rfl (by(try simp only[noRefs,Qbc,Qao,Qaq,Qab,Qal,Qaf,Qan,Qar,Qai,noRef,Bool.and_self,Bool.and_true])<;>rfl) rfl ?_;by_cases f:a.length=b.length
 ·simp(disch:=first|omega|(simp only[lenW]<;>omega))only[s166,f,wW,wV,simprocAttr];refine Qbh 100 (fun i:Nat=>[(0,sli a),(1,sli b),(12,.int .i64 b.length),(13,.int .i64 i)]) (fun _=>[]) (fun i=>i<=b.length/\∀j,j<i->a[j]?=b[j]?) (fun i=>b.length-i) 0 ⟨[],rfl,au0,au9,au10⟩ ⟨Nat.zero_le _,fun j l=>absurd l (Nat.not_lt_zero _)⟩ ?_;rintro i⟨hi,o⟩;by_cases d:i<b.length
  ·obtain⟨x,k⟩:=Qav (l:=a) (i:=i) (by omega);obtain⟨y,g⟩:=Qav (l:=b) (i:=i) (by omega);have c:i<a.length:=by omega
   by_cases h:x=y
   ·have m:True:=by trivial
    simp(disch:=first|omega|(simp only[lenW]<;>omega))only[d,c,QaT k,QaT g,h,m,wW,wV,simprocAttr];refine⟨i+1,by omega,⟨by omega,fun j l=>?_⟩,⟨[],rfl,au0,au9,au10⟩⟩;by_cases e:j=i;·subst e;rw[k,g,h]
    exact o j (by omega)
   have m:True:=by trivial
   simp(disch:=first|omega|(simp only[lenW]<;>omega))only[d,c,QaT k,QaT g,h,m,wW,wV,simprocAttr];refine⟨.inr trivial,_,rfl,?_⟩;have:a≠b:=fun e=>by subst e;rw[k]at g;cases g;exact h rfl
   simp[resOf,QaY,this]
  have :a=b:=List.ext_getElem? fun j=>by
   by_cases l:j<i;·exact o j l
   rw[List.getElem?_eq_none (by omega),List.getElem?_eq_none (by omega)]
  simp(disch:=first|omega|(simp only[lenW]<;>omega))only[d,wW,wV,simprocAttr];exact⟨.inr trivial,_,rfl,by simp[resOf,QaY,this]⟩
 simp(disch:=first|omega|(simp only[lenW]<;>omega))only[s166,f,wW,wV,simprocAttr];have:a≠b:=fun e=>f (by rw[e]);exact⟨.inr trivial,_,rfl,by simp[resOf,QaY,this]⟩
theorem eq55(a b:List Ed)(p:b.length<=10000000):PSpec Tryz.prog 167 [egsN a,egsN b] (.bool (decide (a=b))):=by
 refine PSpec.QaB 64 ok167 rfl (by(try simp only[noRefs,Qbc,Qao,Qaq,Qab,Qal,Qaf,Qan,Qar,Qai,noRef,Bool.and_self,Bool.and_true])<;>rfl) rfl ?_;by_cases d:a.length=b.length
 ·simp(disch:=first|omega|(simp only[lenW]<;>omega))only[s167,d,wW,wV,simprocAttr];refine Qbh 100 (fun i:Nat=>[(0,egsN a),(1,egsN b),(12,.int .i64 b.length),(13,.int .i64 i)]) (fun _=>[]) (fun i=>i<=b.length/\∀j,j<i->a[j]?=b[j]?) (fun i=>b.length-i) 0 ⟨[],rfl,au0,au9,au10⟩ ⟨Nat.zero_le _,fun j k=>absurd k (Nat.not_lt_zero _)⟩ ?_;rintro i⟨hi,o⟩;by_cases f:i<b.length
  ·obtain⟨x,l⟩:=Qav (l:=a) (i:=i) (by omega);obtain⟨y,g⟩:=Qav (l:=b) (i:=i) (by omega);have c:i<a.length:=by omega
   by_cases h:x=y
   ·have m:aEq (.flat true [.i,.i,.i]) true (edV y) (edV y)=some (.bool false):=by rw[QoZ];simp
    simp(disch:=first|omega|(simp only[lenW]<;>omega))only[f,c,QaZ l,QaZ g,h,m,wW,wV,simprocAttr];refine⟨i+1,by omega,⟨by omega,fun j k=>?_⟩,⟨[],rfl,au0,au9,au10⟩⟩;by_cases e:j=i;·subst e;rw[l,g,h]
    exact o j (by omega)
   have m:aEq (.flat true [.i,.i,.i]) true (edV x) (edV y)=some (.bool true):=by rw[QoZ];simp[h]
   simp(disch:=first|omega|(simp only[lenW]<;>omega))only[f,c,QaZ l,QaZ g,h,m,wW,wV,simprocAttr];refine⟨.inr trivial,_,rfl,?_⟩;have:a≠b:=fun e=>by subst e;rw[l]at g;cases g;exact h rfl
   simp[resOf,QaY,this]
  have :a=b:=List.ext_getElem? fun j=>by
   by_cases k:j<i;·exact o j k
   rw[List.getElem?_eq_none (by omega),List.getElem?_eq_none (by omega)]
  simp(disch:=first|omega|(simp only[lenW]<;>omega))only[f,wW,wV,simprocAttr];exact⟨.inr trivial,_,rfl,by simp[resOf,QaY,this]⟩
 simp(disch:=first|omega|(simp only[lenW]<;>omega))only[s167,d,wW,wV,simprocAttr];have:a≠b:=fun e=>d (by rw[e]);exact⟨.inr trivial,_,rfl,by simp[resOf,QaY,this]⟩
theorem QrA{a b:List Nat}:decide (nz a=nz b)=decide (a=b):=by
 refine decide_eq_decide.2 ⟨fun h=>?_,fun h=>by rw[h]⟩;have:∀a b:List Nat,nz a=nz b->a=b:=by intro a;induction a with
  |nil=>intro b h;cases b with|nil=>rfl|cons=>simp at h
  |cons x a c=>intro b h;cases b with|nil=>simp at h|cons y b=>simp only[nz,List.map_cons,List.cons.injEq]at h;rw[c b h.2,show x=y by omega]
 exact this a b h
theorem eq41N(a b:List Nat)(c:b.length<=1000000):PSpec Tryz.prog 166 [sliN a,sliN b] (.bool (decide (a=b))):=by have:=eq41 (nz a) (nz b) (by simpa using c);rw[Qcl,Qcl,QrA]at this;exact this
def autB(x y:Aut):Bool:=decide (x.n=y.n)&&(decide (x.al=y.al)&&(decide (x.ms=y.ms)&&decide (x.es=y.es)))
structure AOk(r:Aut):Prop where
 al:r.al.length<=1000000
 ms:r.ms.length<=1000000
 es:r.es.length<=10000000
theorem eq43(x y:Aut)(f:AOk x)(a:AOk y):PSpec Tryz.prog 136 [aV x,aV y] (.bool (autB x y)):=by
 refine PSpec.QaB 64 ok136 rfl (by(try simp only[noRefs,Qbc,Qao,Qaq,Qab,Qal,Qaf,Qan,Qar,Qai,noRef,Bool.and_self,Bool.and_true])<;>rfl) rfl ?_;have c1:=eq41N x.al y.al a.al;have c2:=eq41N x.ms y.ms a.ms;have c:=eq55 x.es y.es a.es;unfold autB;by_cases h1:x.n=y.n;·rw[decide_eq_true h1,Bool.true_and];generalize decide (x.al=y.al)=b at*;generalize decide (x.ms=y.ms)=b2 at*;generalize decide (x.es=y.es)=d at*;simp(disch:=first|omega|(simp only[lenW]<;>omega))only[s136,h1,wW,wV,simprocAttr];refine cp c1 ?_;cases b with|false=>simp(disch:=first|omega|(simp only[lenW]<;>omega))only[wW,wV,simprocAttr];exact⟨.inr trivial,_,rfl,rfl⟩|true=>simp(disch:=first|omega|(simp only[lenW]<;>omega))only[wW,wV,simprocAttr];refine cp c2 ?_;cases b2 with|false=>simp(disch:=first|omega|(simp only[lenW]<;>omega))only[wW,wV,simprocAttr];exact⟨.inr trivial,_,rfl,rfl⟩|true=>simp(disch:=first|omega|(simp only[lenW]<;>omega))only[wW,wV,simprocAttr];refine cp c ?_;simp(disch:=first|omega|(simp only[lenW]<;>omega))only[wW,wV,simprocAttr];exact⟨.inr trivial,_,rfl,rfl⟩
 rw[decide_eq_false h1,Bool.false_and];simp(disch:=first|omega|(simp only[lenW]<;>omega))only[s136,h1,wW,wV,simprocAttr];exact⟨.inr trivial,_,rfl,rfl⟩
end Go.AM.SE
namespace Go.AM.SE
open Go.Proofs Go.AM.SD
abbrev froms(es:List Ed):List Nat:=es.map (·.1)
theorem QjC:∀(l:List Ed)(i:Nat),(l.flatMap edC).drop (i*3)=(l.drop i).flatMap edC|l,0=>by simp|[],i+1=>by simp|e::l,i+1=>by rw[List.flatMap_cons,Nat.succ_mul,List.drop_succ_cons];show List.drop (i*3+3) (_::_::_::l.flatMap edC)=_;rw[List.drop_succ_cons,List.drop_succ_cons,List.drop_succ_cons];exact QjC l i
theorem QjD:∀(l:List Ed)(i:Nat),(l.flatMap edC).take (i*3)=(l.take i).flatMap edC|l,0=>by simp|[],i+1=>by simp|e::l,i+1=>by rw[List.flatMap_cons,Nat.succ_mul,List.take_succ_cons,List.flatMap_cons];show List.take (i*3+3) (_::_::_::l.flatMap edC)=_;rw[List.take_succ_cons,List.take_succ_cons,List.take_succ_cons,QjD l i];rfl
theorem QmT{x t:Nat}{l:List Nat}:lbN (x::l) t=lbN l t+if x<t then 1 else 0:=by unfold lbN;rw[List.countP_cons];simp
theorem Qix{l:List Nat}{t:Nat}(h:∀x∈l,t<=x):lbN l t=0:=by unfold lbN;rw[List.countP_eq_zero];intro x a;have:=h x a;simp;omega
theorem Qo0:∀{es:List Ed},es.Pairwise (fun a b=>a.1<=b.1)->∀v:Nat,(es.drop (lbN (froms es) v)).take (lbN (froms es) (v+1)-lbN (froms es) v)=sOut es (fun _=>true) v
 |[],_,_=>by simp[sOut]|e::es,h,v=>by
  rw[List.pairwise_cons]at h;have c:=Qo0 h.2 v;have j:froms (e::es)=e.1::froms es:=rfl;have k:sOut (e::es) (fun _=>true) v=if e.1=v then e::sOut es (fun _=>true) v else sOut es (fun _=>true) v:=by unfold sOut;rw[List.filter_cons];simp
  rw[j,QmT,QmT,k];rcases Nat.lt_trichotomy e.1 v with h1|h1|h1;·rw[if_pos h1,if_pos (by omega),if_neg (by omega),List.drop_succ_cons,Nat.add_sub_add_right,c]
  ·have g:lbN (froms es) v=0:=Qix fun x d=>by obtain⟨y,f,rfl⟩:=List.mem_map.1 d;have:=h.1 y f;omega
   rw[g]at c⊢;have l:¬e.1<v:=by omega
   have i2:e.1<v+1:=by omega
   simp only[if_neg l,if_pos i2,if_pos h1,Nat.add_zero,List.drop_zero,Nat.sub_zero,List.take_succ_cons];rw[List.drop_zero,Nat.sub_zero]at c;rw[c]
  have g:lbN (froms es) v=0:=Qix fun x d=>by obtain⟨y,f,rfl⟩:=List.mem_map.1 d;have:=h.1 y f;omega
  have i:lbN (froms es) (v+1)=0:=Qix fun x d=>by obtain⟨y,f,rfl⟩:=List.mem_map.1 d;have:=h.1 y f;omega
  rw[g,i]at c⊢;rw[if_neg (by omega),if_neg (by omega),if_neg (by omega)];simpa using c
theorem sub229(e:Ed)(t:Nat)(he:e.1<=1000000)(a:t<=1000000):PSpec Tryz.prog 161 [edV e,.int .i64 (t:Int)] (.int .i64 ((e.1:Int)-(t:Int))):=by refine PSpec.QaB 64 ok161 rfl (by(try simp only[noRefs,Qbc,Qao,Qaq,Qab,Qal,Qaf,Qan,Qar,Qai,noRef,Bool.and_self,Bool.and_true])<;>rfl) rfl ?_;simp(disch:=first|omega|(simp only[lenW]<;>omega))only[s161,wW,wV,simprocAttr];exact⟨.inr trivial,_,rfl,rfl⟩
theorem sub230(e:Ed)(t:Nat)(he:e.1<=1000000)(a:t<=1000000):PSpec Tryz.prog 162 [edV e,.int .i64 (t:Int)] (.int .i64 ((e.1:Int)-(t:Int))):=by refine PSpec.QaB 64 ok162 rfl (by(try simp only[noRefs,Qbc,Qao,Qaq,Qab,Qal,Qaf,Qan,Qar,Qai,noRef,Bool.and_self,Bool.and_true])<;>rfl) rfl ?_;simp(disch:=first|omega|(simp only[lenW]<;>omega))only[s162,wW,wV,simprocAttr];exact⟨.inr trivial,_,rfl,rfl⟩
theorem find67(es:List Ed)(t:Nat)(v:(froms es).Pairwise (·<=·))(x:∀e∈es,e.1<=1000000)(u:t<=1000000)(C:es.length<=1000000):PSpec Tryz.prog 160 [egsN es,.int .i64 (t:Int),.fn 161 [] []] (.tup [.int .i64 (lbN (froms es) t:Int),.bool ((froms es).contains t)]):=by
 refine PSpec.QaB 64 ok160 rfl (by(try simp only[noRefs,Qbc,Qao,Qaq,Qab,Qal,Qaf,Qan,Qar,Qai,noRef,Bool.and_self,Bool.and_true])<;>rfl) rfl ?_;have y:(froms es).length=es.length:=by simp
 simp(disch:=first|omega|(simp only[lenW]<;>omega))only[s160,wW,wV,simprocAttr];refine Qay 100 (fun p:Nat×Nat=>[(0,egsN es),(1,.int .i64 (t:Int)),(2,.fn 161 [] []),(8,.int .i64 es.length),(9,.int .i64 p.1),(10,.int .i64 p.2)]) (fun _=>[]) (fun p=>p.1<=p.2/\p.2<=es.length/\(∀q,q<p.1->(froms es).getD q 0<t)/\∀q,p.2<=q->q<es.length->¬(froms es).getD q 0<t) (fun p=>p.2-p.1) (0,es.length) 0 140 (fun i:Nat=>[(0,egsN es),(1,.int .i64 (t:Int)),(2,.fn 161 [] []),(8,.int .i64 es.length),(9,.int .i64 i)]) (fun _=>[]) (fun i=>i<=es.length/\(∀q,q<i->(froms es).getD q 0<t)/\∀q,i<=q->q<es.length->¬(froms es).getD q 0<t) ?_ ⟨Nat.zero_le _,Nat.le_refl _,fun q l=>absurd l (Nat.not_lt_zero _),fun q h1 g=>by omega⟩ ?_ ?_;·exact⟨[],rfl,au0,au9,au10⟩
 ·rintro⟨i,j⟩⟨r,s,h1,g⟩;dsimp only at r s h1 g⊢;by_cases c:i<j
  ·obtain⟨k,hk,w,B⟩:∃k:Nat,aBin .shr (.int .u64 ((i:Int)+(j:Int))) (.int .u64 1)=some (.int .u64 (k:Int))/\i<=k/\k<j:=⟨(i+j)/2,shr1,by omega,by omega⟩;have m:k<es.length:=by omega
   obtain⟨e,he⟩:=Qav m;have o:(froms es).getD k 0=e.1:=by rw[List.getD_eq_getElem?_getD,List.getElem?_map,he];rfl
   have f:=x e (List.mem_of_getElem? he);simp(disch:=first|omega|(simp only[lenW]<;>omega))only[c,hk,m,QaZ he,wW,wV,simprocAttr];refine cp (sub229 e t f u) ?_;by_cases hc:e.1<t
   ·have d:(e.1:Int)-(t:Int)<0:=by omega
    simp(disch:=first|omega|(simp only[lenW]<;>omega))only[d,wW,wV,simprocAttr];refine⟨(k+1,j),by dsimp only;omega,⟨by dsimp only;omega,s,fun q l=>?_,g⟩,⟨[],rfl,au0,au9,au10⟩⟩;have:=Qdl v (p:=q) (q:=k) (by dsimp only at l;omega) (by omega);omega
   have d:¬(e.1:Int)-(t:Int)<0:=by omega
   simp(disch:=first|omega|(simp only[lenW]<;>omega))only[d,wW,wV,simprocAttr];refine⟨(i,k),by dsimp only;omega,⟨w,by dsimp only;omega,h1,fun q l A=>?_⟩,⟨[],rfl,au0,au9,au10⟩⟩;have:=Qdl v (p:=k) (q:=q) l (by omega);omega
  have e:i=j:=by omega
  subst e;simp(disch:=first|omega|(simp only[lenW]<;>omega))only[c,wW,wV,simprocAttr];exact⟨i,⟨s,h1,g⟩,⟨[],rfl,au0,au9,au10⟩⟩
 rintro i⟨hi,h1,g⟩;rw[lb_eq (by omega) h1 fun q a b=>g q a (by omega),Qlh v h1 fun q a b=>g q a (by omega)];by_cases c:i<es.length
 ·obtain⟨e,he⟩:=Qav c;have o:(froms es).getD i 0=e.1:=by rw[List.getD_eq_getElem?_getD,List.getElem?_map,he];rfl
  have f:=x e (List.mem_of_getElem? he);rw[o];by_cases hc:e.1=t
  ·rw[decide_eq_true ⟨by omega,hc⟩];have d:(e.1:Int)-(t:Int)=0:=by omega
   simp(disch:=first|omega|(simp only[lenW]<;>omega))only[c,QaZ he,wW,wV,simprocAttr];refine cp (sub229 e t f u) ?_;simp(disch:=first|omega|(simp only[lenW]<;>omega))only[d,wW,wV,simprocAttr];exact⟨.inr trivial,_,rfl,rfl⟩
  rw[decide_eq_false fun h=>hc h.2];have d:¬(e.1:Int)-(t:Int)=0:=by omega
  simp(disch:=first|omega|(simp only[lenW]<;>omega))only[c,QaZ he,wW,wV,simprocAttr];refine cp (sub229 e t f u) ?_;simp(disch:=first|omega|(simp only[lenW]<;>omega))only[d,wW,wV,simprocAttr];exact⟨.inr trivial,_,rfl,rfl⟩
 rw[decide_eq_false fun h=>c (by omega)];simp(disch:=first|omega|(simp only[lenW]<;>omega))only[c,wW,wV,simprocAttr];exact⟨.inr trivial,_,rfl,rfl⟩
theorem find67b(es:List Ed)(t:Nat)(v:(froms es).Pairwise (·<=·))(x:∀e∈es,e.1<=1000000)(u:t<=1000000)(C:es.length<=1000000):PSpec Tryz.prog 160 [egsN es,.int .i64 (t:Int),.fn 162 [] []] (.tup [.int .i64 (lbN (froms es) t:Int),.bool ((froms es).contains t)]):=by
 refine PSpec.QaB 64 ok160 rfl (by(try simp only[noRefs,Qbc,Qao,Qaq,Qab,Qal,Qaf,Qan,Qar,Qai,noRef,Bool.and_self,Bool.and_true])<;>rfl) rfl ?_;have y:(froms es).length=es.length:=by simp
 simp(disch:=first|omega|(simp only[lenW]<;>omega))only[s160,wW,wV,simprocAttr];refine Qay 100 (fun p:Nat×Nat=>[(0,egsN es),(1,.int .i64 (t:Int)),(2,.fn 162 [] []),(8,.int .i64 es.length),(9,.int .i64 p.1),(10,.int .i64 p.2)]) (fun _=>[]) (fun p=>p.1<=p.2/\p.2<=es.length/\(∀q,q<p.1->(froms es).getD q 0<t)/\∀q,p.2<=q->q<es.length->¬(froms es).getD q 0<t) (fun p=>p.2-p.1) (0,es.length) 0 140 (fun i:Nat=>[(0,egsN es),(1,.int .i64 (t:Int)),(2,.fn 162 [] []),(8,.int .i64 es.length),(9,.int .i64 i)]) (fun _=>[]) (fun i=>i<=es.length/\(∀q,q<i->(froms es).getD q 0<t)/\∀q,i<=q->q<es.length->¬(froms es).getD q 0<t) ?_ ⟨Nat.zero_le _,Nat.le_refl _,fun q l=>absurd l (Nat.not_lt_zero _),fun q h1 g=>by omega⟩ ?_ ?_;·exact⟨[],rfl,au0,au9,au10⟩
 ·rintro⟨i,j⟩⟨r,s,h1,g⟩;dsimp only at r s h1 g⊢;by_cases c:i<j
  ·obtain⟨k,hk,w,B⟩:∃k:Nat,aBin .shr (.int .u64 ((i:Int)+(j:Int))) (.int .u64 1)=some (.int .u64 (k:Int))/\i<=k/\k<j:=⟨(i+j)/2,shr1,by omega,by omega⟩;have m:k<es.length:=by omega
   obtain⟨e,he⟩:=Qav m;have o:(froms es).getD k 0=e.1:=by rw[List.getD_eq_getElem?_getD,List.getElem?_map,he];rfl
   have f:=x e (List.mem_of_getElem? he);simp(disch:=first|omega|(simp only[lenW]<;>omega))only[c,hk,m,QaZ he,wW,wV,simprocAttr];refine cp (sub230 e t f u) ?_;by_cases hc:e.1<t
   ·have d:(e.1:Int)-(t:Int)<0:=by omega
    simp(disch:=first|omega|(simp only[lenW]<;>omega))only[d,wW,wV,simprocAttr];refine⟨(k+1,j),by dsimp only;omega,⟨by dsimp only;omega,s,fun q l=>?_,g⟩,⟨[],rfl,au0,au9,au10⟩⟩;have:=Qdl v (p:=q) (q:=k) (by dsimp only at l;omega) (by omega);omega
   have d:¬(e.1:Int)-(t:Int)<0:=by omega
   simp(disch:=first|omega|(simp only[lenW]<;>omega))only[d,wW,wV,simprocAttr];refine⟨(i,k),by dsimp only;omega,⟨w,by dsimp only;omega,h1,fun q l A=>?_⟩,⟨[],rfl,au0,au9,au10⟩⟩;have:=Qdl v (p:=k) (q:=q) l (by omega);omega
  have e:i=j:=by omega
  subst e;simp(disch:=first|omega|(simp only[lenW]<;>omega))only[c,wW,wV,simprocAttr];exact⟨i,⟨s,h1,g⟩,⟨[],rfl,au0,au9,au10⟩⟩
 rintro i⟨hi,h1,g⟩;rw[lb_eq (by omega) h1 fun q a b=>g q a (by omega),Qlh v h1 fun q a b=>g q a (by omega)];by_cases c:i<es.length
 ·obtain⟨e,he⟩:=Qav c;have o:(froms es).getD i 0=e.1:=by rw[List.getD_eq_getElem?_getD,List.getElem?_map,he];rfl
  have f:=x e (List.mem_of_getElem? he);rw[o];by_cases hc:e.1=t
  ·rw[decide_eq_true ⟨by omega,hc⟩];have d:(e.1:Int)-(t:Int)=0:=by omega
   simp(disch:=first|omega|(simp only[lenW]<;>omega))only[c,QaZ he,wW,wV,simprocAttr];refine cp (sub230 e t f u) ?_;simp(disch:=first|omega|(simp only[lenW]<;>omega))only[d,wW,wV,simprocAttr];exact⟨.inr trivial,_,rfl,rfl⟩
  rw[decide_eq_false fun h=>hc h.2];have d:¬(e.1:Int)-(t:Int)=0:=by omega
  simp(disch:=first|omega|(simp only[lenW]<;>omega))only[c,QaZ he,wW,wV,simprocAttr];refine cp (sub230 e t f u) ?_;simp(disch:=first|omega|(simp only[lenW]<;>omega))only[d,wW,wV,simprocAttr];exact⟨.inr trivial,_,rfl,rfl⟩
 rw[decide_eq_false fun h=>c (by omega)];simp(disch:=first|omega|(simp only[lenW]<;>omega))only[c,wW,wV,simprocAttr];exact⟨.inr trivial,_,rfl,rfl⟩
theorem out58(a:Aut)(v:Nat)(h:WfA a)(b:a.es.length<=1000000)(l:v<=100000):PSpec Tryz.prog 125 [aV a,.int .i64 (v:Int)] (egsN (sOut a.es (fun _=>true) v)):=by
 have f:(froms a.es).Pairwise (·<=·):=by rw[List.pairwise_map];exact h.srt
 have g:∀e∈a.es,e.1<=1000000:=fun e he=>by have:=(h.esn e he).1;have:=h.n5;omega
 have f1:=find67 a.es v f g (by omega) b;have f2:=find67b a.es (v+1) f g (by omega) b;have j:((v+1:Nat):Int)=(v:Int)+1:=by omega
 rw[j]at f2;have ho:=Qo0 h.srt v;have i:=lb_le (l:=froms a.es) (t:=v+1);rw[List.length_map]at i;have hm:lbN (froms a.es) v<=lbN (froms a.es) (v+1):=List.countP_mono_left fun x _ k=>by simp at k⊢;omega
 generalize(froms a.es).contains v=m at*;generalize(froms a.es).contains (v+1)=b2 at*;generalize lbN (froms a.es) v=p at*;generalize lbN (froms a.es) (v+1)=q at*;have hlen:q-p=(sOut a.es (fun _=>true) v).length:=by rw[<-ho,List.length_take,List.length_drop];omega
 have d:(p:Int)<=(q:Int):=by omega
 have c:(q:Int)<=(a.es.length:Int):=by omega
 refine PSpec.of_rn 64 ok125 rfl (by(try simp only[noRefs,Qbc,Qao,Qaq,Qab,Qal,Qaf,Qan,Qar,Qai,noRef,Bool.and_self,Bool.and_true])<;>rfl) (Qak _) ?_;simp(disch:=first|omega|(simp only[lenW]<;>omega))only[s125,wW,wV,simprocAttr];refine cp f1 ?_;simp(disch:=first|omega|(simp only[lenW]<;>omega))only[wW,wV,simprocAttr];refine cp f2 ?_;simp(disch:=first|omega|(simp only[lenW]<;>omega))only[d,c,wW,wV,simprocAttr];refine⟨.inr trivial,_,rfl,?_⟩;rw[QjC,QjD,ho,hlen];exact Rn.same (Qak _)
end Go.AM.SE
namespace Go.AM.SE
open Go.Proofs Go.AM.SD
abbrev rsA(a:Aut):List AV:=[sliN a.al,.int .i64 (a.n:Int),sliN a.ms,egsN a.es]
abbrev rsN:List AV:=[.nilsl,.int .i64 0,.nilsl,.nilsl]
end Go.AM.SE
namespace Go.AM.SE
open Go.Proofs Go.AM.SD
def pl(n:Nat)(o:List Nat):List Int:=(List.range n).map fun x=>if o.contains x then((SD.idx o x:Nat):Int)else-1
theorem Qh5{n:Nat}{o:List Nat}:(pl n o).length=n:=by simp[pl]
theorem Qh6{n:Nat}{o:List Nat}{x:Nat}(a:x<n):(pl n o).getD x 0=if o.contains x then((SD.idx o x:Nat):Int)else-1:=by unfold pl;rw[List.getD_eq_getElem?_getD,List.getElem?_map,List.getElem?_range a];rfl
theorem Qo1{n:Nat}{o:List Nat}{x:Nat}(b:x∉o):(pl n o).set x (o.length:Int)=pl n (o++[x]):=by
 refine List.ext_getElem (by simp[pl]) fun j h1 a=>?_;have d:j<n:=by simpa[pl]using a
 rw[List.getElem_set];simp only[pl,List.getElem_map,List.getElem_range];by_cases e:x=j;·subst e;rw[if_pos rfl,if_pos (by simp),SD.QeH b]
 rw[if_neg e];by_cases hm:j∈o;·rw[if_pos (by simpa using hm),if_pos (by simp[hm]),SD.QeG hm]
 have c:¬j=x:=fun h=>e h.symm;rw[if_neg (by simpa using hm),if_neg (by simp[hm,c])]
theorem Qp4{n:Nat}(c:0<n):(List.replicate n (-1:Int)).set 0 0=pl n [0]:=by
 refine List.ext_getElem (by simp[pl]) fun j h1 a=>?_;have d:j<n:=by simpa[pl]using a
 rw[List.getElem_set];simp only[pl,List.getElem_map,List.getElem_range,List.getElem_replicate];by_cases e:0=j;·subst e;rw[if_pos rfl,if_pos (by simp)];rfl
 have b:¬j=0:=fun h=>e h.symm;rw[if_neg e,if_neg (by simp[b])]
abbrev cnB(a:Aut)(m e:Nat):List AV:=[.sl 83 0 0 a.al.length 1,.int .i64 0,.sl 77 0 0 m 1,.sl 76 0 0 e 3]
abbrev tru:Nat->Bool:=fun _=>true
theorem canonical44(a:Aut)(h:WfA a)(Z:a.es.length<=1000000):PSpec Tryz.prog 137 [aV a] (aV (restr a tru)):=by
 have hn5:=h.n5;have hal:a.al.length<=32:=Qbb 32 a.al (by rw[List.nodup_iff_pairwise_ne];exact h.al.imp fun h=>by omega) h.al5;have hml:a.ms.length<=a.n:=Qbb a.n a.ms h.nd h.msn;have P:a.ms.Pairwise (·<=·):=h.ms.imp fun h=>by omega
 have V:(a.n:Int)<=140737488355328:=by omega
 have T:(8:Int)*(a.n:Int)<=140737488355328:=by omega
 refine PSpec.of_rn 40 ok137 rfl (by(try simp only[noRefs,Qbc,Qao,Qaq,Qab,Qal,Qaf,Qan,Qar,Qai,noRef,Bool.and_self,Bool.and_true])<;>rfl) (QpX _) ?_;simp(disch:=first|omega|(simp only[lenW]<;>omega))only[s137,wW,wV,simprocAttr];refine ch (HSpec.of_O (b:=83) (by(try simp only[noRefs,Qbc,Qao,Qaq,Qab,Qal,Qaf,Qan,Qar,Qai,noRef,Bool.and_self,Bool.and_true])<;>rfl) (clone56 a.al (by omega)) (by repeat(first|exact Fresh.e|exact Fresh.le (by assumption) (by omega)|refine Fresh.set ?_ (by omega) (by omega))) rfl) ?_;by_cases h0:a.n=0
 ·have N:(a.n:Int)=0:=by omega
  have e:sAll a tru=([],[]):=by unfold sAll;rw[h0];rfl
  have hr:restr a tru=⟨a.al,0,[],[]⟩:=by unfold restr;rw[e];rfl
  simp(disch:=first|omega|(simp only[lenW]<;>omega))only[N,wW,wV,simprocAttr];refine⟨.inr trivial,_,rfl,?_⟩;rw[hr];exact Rn.agg (RnL.cons (Rn.fz0 (g:=0) rfl (by simp[ints]) (RnL.same (Qab _))) (RnL.cons (Rn.same rfl) (RnL.cons Rn.nilK (RnL.cons Rn.nilK RnL.nil))))
 have N:¬(a.n:Int)=0:=by omega
 have L:0<a.n:=by omega
 have h0n:(0:Int)<(a.n:Int):=by omega
 simp(disch:=first|omega|(simp only[lenW]<;>omega))only[N,V,T,Qla,wW,wV,simprocAttr];refine Qay 100 (fun i:Nat=>[(1,.ptr 50 0 0),(2,.ptr 60 0 0),(3,.ptr 69 0 0),(4,.sl 78 0 0 a.n 1),(24,.int .i64 a.n),(25,.int .i64 i)]) (fun i=>[(50,.cells 0 (rsA a)),(60,.cells 0 rsN),(69,.cells 0 [.sl 83 0 0 a.al.length 1,.int .i64 0,.nilsl,.nilsl]),(83,.cells 0 (ints (nz a.al))),(78,.cells 0 (ints (List.replicate i (-1)++List.replicate (a.n-i) 0)))]) (fun i=>i<=a.n) (fun i=>a.n-i) 0 0 120 (fun _:Unit=>[(1,.ptr 50 0 0),(2,.ptr 60 0 0),(3,.ptr 69 0 0),(4,.sl 78 0 0 a.n 1)]) (fun _=>[(50,.cells 0 (rsA a)),(60,.cells 0 rsN),(69,.cells 0 [.sl 83 0 0 a.al.length 1,.int .i64 0,.nilsl,.nilsl]),(83,.cells 0 (ints (nz a.al))),(78,.cells 0 (ints (List.replicate a.n (-1))))]) (fun _=>True) ?_ (Nat.zero_le _) ?_ ?_;·exact⟨[(50,.blk 40 0),(60,.blk 41 0),(69,.blk 46 0),(83,.blk 83 0),(78,.blk 53 0)],rfl,au0,au9,au10⟩
 ·rintro i hi;by_cases k:i<a.n
  ·have h1:i+1<=i+(a.n-i):=by omega
   simp(disch:=first|omega|(simp only[lenW]<;>omega))only[k,h1,Qcv,Qjv k,wW,wV,simprocAttr];exact⟨i+1,by omega,by omega,⟨[(50,.blk 50 0),(60,.blk 60 0),(69,.blk 69 0),(83,.blk 83 0),(78,.blk 78 0)],rfl,au0,au9,au10⟩⟩
  have e:i=a.n:=by omega
  subst e;have e2:List.replicate a.n (-1:Int)++List.replicate (a.n-a.n) 0=List.replicate a.n (-1):=by simp
  simp(disch:=first|omega|(simp only[lenW]<;>omega))only[k,wW,wV,simprocAttr];refine⟨(),?_⟩;rw[e2];exact⟨[(50,.blk 50 0),(60,.blk 60 0),(69,.blk 69 0),(83,.blk 83 0),(78,.blk 78 0)],rfl,au0,au9,au10⟩
 rintro _ _;have u:1<=a.n:=L;have m:=Qp4 L;simp(disch:=first|omega|(simp only[lenW]<;>omega))only[h0n,u,Qcv,m,wW,wV,simprocAttr];have d:SI a.n a.es tru 0 (([0],[]):OE):=⟨⟨by simp,fun x hx=>by simp at hx;omega⟩,fun _ _=>rfl,Nat.zero_le _,fun j v hj=>by omega,by simp⟩;have hq0:sQ a.es tru (a.n+1) 0 ([0],[])=sAll a tru:=by unfold sAll;rw[if_pos (by simp[L])]
 refine Qay 180 (fun t:Nat×OE=>[(1,.ptr 50 0 0),(2,.ptr 60 0 0),(3,.ptr 69 0 0),(4,.sl 78 0 0 a.n 1),(6,.sl 75 0 0 t.2.1.length 1),(7,.int .i64 t.1)]) (fun t=>[(50,.cells 0 (rsA a)),(60,.cells 0 rsN),(69,.cells 0 (cnB a (mks a t.1 t.2.1).length t.2.2.length)),(83,.cells 0 (ints (nz a.al))),(78,.cells 0 (ints (pl a.n t.2.1))),(75,.cells 0 (ints (nz t.2.1))),(76,.cells 0 (t.2.2.flatMap edC)),(77,.cells 0 (ints (nz (mks a t.1 t.2.1))))]) (fun t=>t.1<=a.n/\SI a.n a.es tru t.1 t.2/\t.2.2.length<=t.1*1000000/\sQ a.es tru (a.n+1-t.1) t.1 t.2=sAll a tru) (fun t=>a.n+1-t.1) (0,([0],[])) 2 260 (fun _:Unit=>[(2,.ptr 60 0 0),(3,.ptr 69 0 0),(6,.sl 75 0 0 (sAll a tru).1.length 1)]) (fun _=>[(60,.cells 0 rsN),(69,.cells 0 (cnB a (restr a tru).ms.length (restr a tru).es.length)),(83,.cells 0 (ints (nz a.al))),(75,.cells 0 (ints (nz (sAll a tru).1))),(76,.cells 0 ((restr a tru).es.flatMap edC)),(77,.cells 0 (ints (nz (restr a tru).ms)))]) (fun _=>True) ?_ ⟨Nat.zero_le _,d,Nat.zero_le _,hq0⟩ ?_ ?_;·dsimp only;have Q:mks a 0 [0]=[]:=rfl;rw[Q];exact⟨[(50,.blk 50 0),(60,.blk 60 0),(69,.blk 69 0),(83,.blk 83 0),(78,.blk 78 0),(75,.blk 123 0),(76,.nil),(77,.nil)],rfl,au0,au9,au10⟩
 ·rintro⟨i,s⟩⟨hi,d,U,X⟩;dsimp only at hi d U X⊢;have hfl:=d.fi.len;have hile:=d.le;by_cases k:i<s.1.length
  ·obtain⟨v,B⟩:=Qav k;have hvn:=d.fi.lt v (List.mem_of_getElem? B);have F:i<a.n:=by omega
   have G:=d.step h.esn B;have O:sQ a.es tru (a.n+1-(i+1)) (i+1) (sRow a.es tru i v s)=sAll a tru:=by rw[<-X,show a.n+1-i=(a.n+1-(i+1))+1 by omega];simp only[sQ,B]
   have E:=fun j=>Qd8 (n:=a.n) (left:=tru) i ((sOut a.es tru v).take j) s (fun e he=>⟨(h.esn e (Qbs.1 (List.mem_of_mem_take he)).1).2,rfl⟩) d.fi d.lft;have hol:=Qea a.es tru v;have C:=Qle (a:=a) B;have hmsl:=@QmQ a i s.1;have y:mks a (i+1) (sRow a.es tru i v s).1=mks a (i+1) s.1:=by obtain⟨_,_,⟨t,ht⟩,_⟩:=Qd8 (n:=a.n) (left:=tru) i (sOut a.es tru v) s (fun e he=>⟨(h.esn e (Qbs.1 he).1).2,rfl⟩) d.fi d.lft;have ht:(sRow a.es tru i v s).1=s.1++t:=ht;rw[ht,QmR (by omega)]
   have hc:=find57 a.ms v P (by omega);have ho:=out58 a v h Z (by omega);generalize hM0:mks a i s.1=M0 at*;generalize hM:mks a (i+1) s.1=M at*;simp(disch:=first|omega|(simp only[lenW]<;>omega))only[k,Qce (nz_at B),wW,wV,simprocAttr];refine cp hc ?_;by_cases p:a.ms.contains v=true
   ·rw[if_pos p]at C;rw[p];simp(disch:=first|omega|(simp only[lenW]<;>omega))only[k,Qce (nz_at B),wW,wV,simprocAttr];refine cp ho ?_;simp(disch:=first|omega|(simp only[lenW]<;>omega))only[wW,wV,simprocAttr];refine Qay 300 (fun j:Nat=>[(1,.ptr 50 0 0),(2,.ptr 60 0 0),(3,.ptr 69 0 0),(4,.sl 78 0 0 a.n 1),(6,.sl 75 0 0 (((sOut a.es tru v).take j).foldl (sEd i) s).1.length 1),(7,.int .i64 i),(63,egsN (sOut a.es tru v)),(64,.int .i64 (sOut a.es tru v).length),(65,.int .i64 j)]) (fun j=>[(50,.cells 0 (rsA a)),(60,.cells 0 rsN),(69,.cells 0 (cnB a M.length (((sOut a.es tru v).take j).foldl (sEd i) s).2.length)),(83,.cells 0 (ints (nz a.al))),(78,.cells 0 (ints (pl a.n (((sOut a.es tru v).take j).foldl (sEd i) s).1))),(75,.cells 0 (ints (nz (((sOut a.es tru v).take j).foldl (sEd i) s).1))),(76,.cells 0 ((((sOut a.es tru v).take j).foldl (sEd i) s).2.flatMap edC)),(77,.cells 0 (ints (nz M)))]) (fun j=>j<=(sOut a.es tru v).length) (fun j=>(sOut a.es tru v).length-j) 0 4 400 (fun _:Unit=>[(1,.ptr 50 0 0),(2,.ptr 60 0 0),(3,.ptr 69 0 0),(4,.sl 78 0 0 a.n 1),(6,.sl 75 0 0 (sRow a.es tru i v s).1.length 1),(7,.int .i64 i)]) (fun _=>[(50,.cells 0 (rsA a)),(60,.cells 0 rsN),(69,.cells 0 (cnB a M.length (sRow a.es tru i v s).2.length)),(83,.cells 0 (ints (nz a.al))),(78,.cells 0 (ints (pl a.n (sRow a.es tru i v s).1))),(75,.cells 0 (ints (nz (sRow a.es tru i v s).1))),(76,.cells 0 ((sRow a.es tru i v s).2.flatMap edC)),(77,.cells 0 (ints (nz M)))]) (fun _=>True) ?_ (Nat.zero_le _) ?_ ?_;·rw[C,List.length_append,QaU,QaK];exact⟨[(50,.blk 50 0),(60,.blk 60 0),(69,.blk 69 0),(83,.blk 83 0),(78,.blk 78 0),(75,.blk 75 0),(76,.blk 76 0),(77,.blk 77 1)],rfl,au0,au9,au10⟩
    ·rintro j hj;by_cases f:j<(sOut a.es tru v).length
     ·obtain⟨e,he⟩:=Qav f;have H:=Qbs.1 (List.mem_of_getElem? he);have c:=(h.esn e H.1).2;obtain⟨Y,_,_,_,_⟩:=E j;have hfi:=Y.len;have b:=QfW (i:=i) (s:=s) he;have o:=QcK (i:=i) ((sOut a.es tru v).take j) s;rw[List.length_take]at o;generalize(((sOut a.es tru v).take j).foldl (sEd i) s)=t at*;have l:=Qd9 t.2;have hpl:=Qh5 (n:=a.n) (o:=t.1);have g:=Qh6 (o:=t.1) c;have A:e.2.2<(pl a.n t.1).length:=by omega
      have u:e.2.2+1<=(pl a.n t.1).length:=by omega
      by_cases hc:e.2.2∈t.1
      ·have J:sEd i t e=(t.1,t.2++[(i,e.2.1,SD.idx t.1 e.2.2)]):=if_pos (by simpa using hc);rw[J]at b;rw[if_pos (by simpa using hc)]at g;have K:¬((SD.idx t.1 e.2.2:Nat):Int)<0:=by omega
       generalize SD.idx t.1 e.2.2=q at*;simp(disch:=first|omega|(simp only[lenW]<;>omega))only[f,QaZ he,c,Qbj A,g,K,l,wW,wV,simprocAttr];refine⟨j+1,by omega,by omega,?_⟩;rw[b,List.flatMap_append,List.length_append];exact⟨[(50,.blk 50 0),(60,.blk 60 0),(69,.blk 69 0),(83,.blk 83 0),(78,.blk 78 0),(75,.blk 75 0),(76,.blk 76 1),(77,.blk 77 0)],rfl,au0,au9,au10⟩
      have J:sEd i t e=(t.1++[e.2.2],t.2++[(i,e.2.1,t.1.length)]):=if_neg (by simpa using hc);rw[J]at b;rw[if_neg (by simpa using hc)]at g;have m:=Qo1 (n:=a.n) hc;have K:(-1:Int)<0:=by decide
      have r:e.2.2<(pl a.n (t.1++[e.2.2])).length:=by rw[Qh5];exact c
      have w:(pl a.n (t.1++[e.2.2])).getD e.2.2 0=(t.1.length:Int):=by rw[Qh6 c,if_pos (by simp),SD.QeH hc]
      simp(disch:=first|omega|(simp only[lenW]<;>omega))only[f,QaZ he,c,Qbj A,g,K,l,u,Qcv,m,Qbj r,w,wW,wV,simprocAttr];refine⟨j+1,by omega,by omega,?_⟩;rw[b,List.flatMap_append,List.length_append];dsimp only;rw[List.length_append,QaU,QaK];exact⟨[(50,.blk 50 0),(60,.blk 60 0),(69,.blk 69 0),(83,.blk 83 0),(78,.blk 78 0),(75,.blk 75 1),(76,.blk 76 1),(77,.blk 77 0)],rfl,au0,au9,au10⟩
     have e:j=(sOut a.es tru v).length:=by omega
     subst e;simp(disch:=first|omega|(simp only[lenW]<;>omega))only[f,wW,wV,simprocAttr];refine⟨(),?_⟩;exact⟨[(50,.blk 50 0),(60,.blk 60 0),(69,.blk 69 0),(83,.blk 83 0),(78,.blk 78 0),(75,.blk 75 0),(76,.blk 76 0),(77,.blk 77 0)],rfl,au0,au9,au10⟩
    rintro _ _;have S:(sRow a.es tru i v s).2.length=s.2.length+(sOut a.es tru v).length:=QcK _ _;have R:=Qea a.es tru v;simp(disch:=first|omega|(simp only[lenW]<;>omega))only[wW,wV,simprocAttr];refine⟨(i+1,sRow a.es tru i v s),by dsimp only;omega,⟨F,G,by dsimp only;omega,O⟩,?_⟩;dsimp only;rw[y];exact⟨[(50,.blk 50 0),(60,.blk 60 0),(69,.blk 69 0),(83,.blk 83 0),(78,.blk 78 0),(75,.blk 75 0),(76,.blk 76 0),(77,.blk 77 0)],rfl,au0,au9,au10⟩
   rw[if_neg p,List.append_nil]at C;rw[Bool.not_eq_true]at p;rw[p];simp(disch:=first|omega|(simp only[lenW]<;>omega))only[k,Qce (nz_at B),wW,wV,simprocAttr];refine cp ho ?_;simp(disch:=first|omega|(simp only[lenW]<;>omega))only[wW,wV,simprocAttr];refine Qay 300 (fun j:Nat=>[(1,.ptr 50 0 0),(2,.ptr 60 0 0),(3,.ptr 69 0 0),(4,.sl 78 0 0 a.n 1),(6,.sl 75 0 0 (((sOut a.es tru v).take j).foldl (sEd i) s).1.length 1),(7,.int .i64 i),(63,egsN (sOut a.es tru v)),(64,.int .i64 (sOut a.es tru v).length),(65,.int .i64 j)]) (fun j=>[(50,.cells 0 (rsA a)),(60,.cells 0 rsN),(69,.cells 0 (cnB a M.length (((sOut a.es tru v).take j).foldl (sEd i) s).2.length)),(83,.cells 0 (ints (nz a.al))),(78,.cells 0 (ints (pl a.n (((sOut a.es tru v).take j).foldl (sEd i) s).1))),(75,.cells 0 (ints (nz (((sOut a.es tru v).take j).foldl (sEd i) s).1))),(76,.cells 0 ((((sOut a.es tru v).take j).foldl (sEd i) s).2.flatMap edC)),(77,.cells 0 (ints (nz M)))]) (fun j=>j<=(sOut a.es tru v).length) (fun j=>(sOut a.es tru v).length-j) 0 4 400 (fun _:Unit=>[(1,.ptr 50 0 0),(2,.ptr 60 0 0),(3,.ptr 69 0 0),(4,.sl 78 0 0 a.n 1),(6,.sl 75 0 0 (sRow a.es tru i v s).1.length 1),(7,.int .i64 i)]) (fun _=>[(50,.cells 0 (rsA a)),(60,.cells 0 rsN),(69,.cells 0 (cnB a M.length (sRow a.es tru i v s).2.length)),(83,.cells 0 (ints (nz a.al))),(78,.cells 0 (ints (pl a.n (sRow a.es tru i v s).1))),(75,.cells 0 (ints (nz (sRow a.es tru i v s).1))),(76,.cells 0 ((sRow a.es tru i v s).2.flatMap edC)),(77,.cells 0 (ints (nz M)))]) (fun _=>True) ?_ (Nat.zero_le _) ?_ ?_;·rw[C];exact⟨[(50,.blk 50 0),(60,.blk 60 0),(69,.blk 69 0),(83,.blk 83 0),(78,.blk 78 0),(75,.blk 75 0),(76,.blk 76 0),(77,.blk 77 0)],rfl,au0,au9,au10⟩
   ·rintro j hj;by_cases f:j<(sOut a.es tru v).length
    ·obtain⟨e,he⟩:=Qav f;have H:=Qbs.1 (List.mem_of_getElem? he);have c:=(h.esn e H.1).2;obtain⟨Y,_,_,_,_⟩:=E j;have hfi:=Y.len;have b:=QfW (i:=i) (s:=s) he;have o:=QcK (i:=i) ((sOut a.es tru v).take j) s;rw[List.length_take]at o;generalize(((sOut a.es tru v).take j).foldl (sEd i) s)=t at*;have l:=Qd9 t.2;have hpl:=Qh5 (n:=a.n) (o:=t.1);have g:=Qh6 (o:=t.1) c;have A:e.2.2<(pl a.n t.1).length:=by omega
     have u:e.2.2+1<=(pl a.n t.1).length:=by omega
     by_cases hc:e.2.2∈t.1
     ·have J:sEd i t e=(t.1,t.2++[(i,e.2.1,SD.idx t.1 e.2.2)]):=if_pos (by simpa using hc);rw[J]at b;rw[if_pos (by simpa using hc)]at g;have K:¬((SD.idx t.1 e.2.2:Nat):Int)<0:=by omega
      generalize SD.idx t.1 e.2.2=q at*;simp(disch:=first|omega|(simp only[lenW]<;>omega))only[f,QaZ he,c,Qbj A,g,K,l,wW,wV,simprocAttr];refine⟨j+1,by omega,by omega,?_⟩;rw[b,List.flatMap_append,List.length_append];exact⟨[(50,.blk 50 0),(60,.blk 60 0),(69,.blk 69 0),(83,.blk 83 0),(78,.blk 78 0),(75,.blk 75 0),(76,.blk 76 1),(77,.blk 77 0)],rfl,au0,au9,au10⟩
     have J:sEd i t e=(t.1++[e.2.2],t.2++[(i,e.2.1,t.1.length)]):=if_neg (by simpa using hc);rw[J]at b;rw[if_neg (by simpa using hc)]at g;have m:=Qo1 (n:=a.n) hc;have K:(-1:Int)<0:=by decide
     have r:e.2.2<(pl a.n (t.1++[e.2.2])).length:=by rw[Qh5];exact c
     have w:(pl a.n (t.1++[e.2.2])).getD e.2.2 0=(t.1.length:Int):=by rw[Qh6 c,if_pos (by simp),SD.QeH hc]
     simp(disch:=first|omega|(simp only[lenW]<;>omega))only[f,QaZ he,c,Qbj A,g,K,l,u,Qcv,m,Qbj r,w,wW,wV,simprocAttr];refine⟨j+1,by omega,by omega,?_⟩;rw[b,List.flatMap_append,List.length_append];dsimp only;rw[List.length_append,QaU,QaK];exact⟨[(50,.blk 50 0),(60,.blk 60 0),(69,.blk 69 0),(83,.blk 83 0),(78,.blk 78 0),(75,.blk 75 1),(76,.blk 76 1),(77,.blk 77 0)],rfl,au0,au9,au10⟩
    have e:j=(sOut a.es tru v).length:=by omega
    subst e;simp(disch:=first|omega|(simp only[lenW]<;>omega))only[f,wW,wV,simprocAttr];refine⟨(),?_⟩;exact⟨[(50,.blk 50 0),(60,.blk 60 0),(69,.blk 69 0),(83,.blk 83 0),(78,.blk 78 0),(75,.blk 75 0),(76,.blk 76 0),(77,.blk 77 0)],rfl,au0,au9,au10⟩
   rintro _ _;have S:(sRow a.es tru i v s).2.length=s.2.length+(sOut a.es tru v).length:=QcK _ _;have R:=Qea a.es tru v;simp(disch:=first|omega|(simp only[lenW]<;>omega))only[wW,wV,simprocAttr];refine⟨(i+1,sRow a.es tru i v s),by dsimp only;omega,⟨F,G,by dsimp only;omega,O⟩,?_⟩;dsimp only;rw[y];exact⟨[(50,.blk 50 0),(60,.blk 60 0),(69,.blk 69 0),(83,.blk 83 0),(78,.blk 78 0),(75,.blk 75 0),(76,.blk 76 0),(77,.blk 77 0)],rfl,au0,au9,au10⟩
  have B:s.1[i]?=none:=List.getElem?_eq_none (by omega);have I:s=sAll a tru:=by rw[<-X,show a.n+1-i=(a.n-i)+1 by omega];simp only[sQ,B]
  have hil:i=s.1.length:=by omega
  have hmf:mks a i s.1=(restr a tru).ms:=by rw[hil,I];rfl
  have hef:s.2=(restr a tru).es:=by rw[I];rfl
  simp(disch:=first|omega|(simp only[lenW]<;>omega))only[k,wW,wV,simprocAttr];refine⟨(),?_⟩;rw[hmf,hef,<-I];exact⟨[(60,.blk 60 0),(69,.blk 69 0),(83,.blk 83 0),(75,.blk 75 0),(76,.blk 76 0),(77,.blk 77 0)],rfl,au0,au9,au10⟩
 rintro _ _;have hra:(restr a tru).al=a.al:=rfl;have hrn2:(restr a tru).n=(sAll a tru).1.length:=rfl;simp(disch:=first|omega|(simp only[lenW]<;>omega))only[wW,wV,simprocAttr];refine⟨.inr trivial,_,rfl,?_⟩;exact Rn.agg (RnL.cons (Rn.fz0 (g:=0) rfl (by simp[ints,hra]) (RnL.same (Qab _))) (RnL.cons (Rn.same rfl) (RnL.cons (Rn.fz0 (g:=0) rfl (by simp[ints]) (RnL.same (Qab _))) (RnL.cons (Rn.fz0 (g:=0) rfl (Qd9 _) (RnL.same (Qaf _))) RnL.nil))))
end Go.AM.SE
namespace Go.AM.SO
open Go.Proofs Go.AM.SD Go.AM.SE
theorem check112(a:Aut)(h:WfA a)(b:a.es.length<=1000000):PSpec Tryz.prog 32 [aV a] (.int .i64 0):=by have:=check37 (au a) (WfA.auOk h b);rwa[QoJ]at this
end Go.AM.SO
namespace Go.AM.SO
open Go.Proofs Go.AM.SD Go.AM.SE
abbrev yes:List UInt8->AV:=fun _=>.bool true
theorem Qhn{x:List UInt8}:updS yes x (.bool true)=yes:=by funext y;simp[updS]
end Go.AM.SO
namespace Go.AM.SO
open Go.Proofs Go.AM.SD Go.AM.SE
def itC(ch:UInt8)(x:Nat×Aut):List AV:=[.str [ch,UInt8.ofNat (48+x.1)],sliN x.2.al,.int .i64 (x.2.n:Int),sliN x.2.ms,egsN x.2.es]
structure WfJ(a:Aut):Prop where
 wf:WfA a
 pos:0<a.n
 n10:a.n<=10
structure Pln where
 L:List Nat
 X:List Nat
 xn:Nat
 f0:Int
 f1:Int
 f2:Int
 bd:Int
variable(p:Pln)
variable{p}
end Go.AM.SO
namespace Go.AM.SO
open Go.Proofs Go.AM.SD Go.AM.SE
def stp(l:List Aut)(t:List Nat)(e:Nat):Nat->Option (List Nat)|0=>some t|k+1=>match stp l t e k with|none=>none|some n=>match l[k]? with|none=>some n|some a=>if e∈a.al then(match stepA a.es (t.getD k 0) e with|some to=>some (n.set k to)|none=>none)else some n
def stepT(l:List Aut)(t:List Nat)(e:Nat):Option (List Nat):=stp l t e l.length
def Stp(l:List Aut)(t:List Nat)(e:Nat)(n:List Nat)(k:Nat):Prop:=n.length=t.length/\(∀i,k<=i->n[i]?=t[i]?)/\∀i a,i<k->l[i]?=some a->if e∈a.al then stepA a.es (t.getD i 0) e=n[i]? else n[i]?=t[i]?
theorem Qe6{l:List Aut}{t n:List Nat}{e:Nat}:∀{k:Nat},k<=l.length->l.length<=t.length->(stp l t e k=some n↔Stp l t e n k)
 |0,_,_=>by
  unfold stp Stp;constructor;·simp_all
  rintro⟨_,h,_⟩;have:t=n:=List.ext_getElem? fun i=>(h i (Nat.zero_le _)).symm;rw[this]|k+1,hk,o=>by
  obtain⟨a,r⟩:=Qav (l:=l) (i:=k) (by omega);have s:k<t.length:=by omega
  unfold stp;rw[r];constructor;·intro h;cases hm:stp l t e k with|none=>rw[hm]at h;cases h|some m=>
   rw[hm]at h;dsimp only at h;obtain⟨h1,q,d⟩:=(Qe6 (n:=m) (by omega) o).1 hm;by_cases he:e∈a.al;·rw[if_pos he]at h;cases p:stepA a.es (t.getD k 0) e with|none=>rw[p]at h;cases h|some to=>
    rw[p]at h;cases h;refine⟨by simp_all,fun i hi=>by grind,fun i b hi c=>?_⟩;by_cases g:i=k;·simp_all
    rw[List.getElem?_set_ne (by omega)];exact d i b (by omega) c
   rw[if_neg he]at h;cases h;refine⟨h1,fun i hi=>q i (by omega),fun i b hi c=>?_⟩;by_cases g:i=k;·grind
   exact d i b (by omega) c
  rintro⟨h1,q,d⟩;have f:=d k a (Nat.lt_succ_self _) r;by_cases he:e∈a.al
  ·rw[if_pos he]at f;have j:Stp l t e (n.set k (t.getD k 0)) k:=by
    refine⟨by simp_all,fun i hi=>?_,fun i b hi c=>?_⟩;·grind
    rw[List.getElem?_set_ne (by omega)];exact d i b (by omega) c
   rw[(Qe6 (n:=n.set k (t.getD k 0)) (by omega) o).2 j];simp_all
  rw[if_neg he]at f;have j:Stp l t e n k:=⟨h1,fun i hi=>by grind,fun i b hi c=>d i b (by omega) c⟩;rw[(Qe6 (n:=n) (by omega) o).2 j];simp_all
theorem Qe7{l:List Aut}{t n:List Nat}{e:Nat}(a:l.length<=t.length):stepT l t e=some n↔Stp l t e n l.length:=Qe6 (Nat.le_refl _) a
def pEv(l:List Aut)(i:Nat)(t:List Nat)(s:List (List Nat)×List Ed)(e:Nat):List (List Nat)×List Ed:=match stepT l t e with|none=>s|some n=>(if n∈s.1 then s.1 else s.1++[n],s.2++[(i,e,s.1.findIdx (·==n))])
def pRow(l:List Aut)(ev:List Nat)(i:Nat)(t:List Nat)(s:List (List Nat)×List Ed):List (List Nat)×List Ed:=ev.foldl (pEv l i t) s
def pQ(l:List Aut)(ev:List Nat):Nat->Nat->List (List Nat)×List Ed->List (List Nat)×List Ed|0,_,s=>s|k+1,i,s=>match s.1[i]? with|some t=>pQ l ev k (i+1) (pRow l ev i t s)|none=>s
def orE(a b:Bool):Bool:=a||b
def evA(l:List Aut):List Nat:=l.foldl (fun out a=>mrg orE out a.al) []
def mkdT:List Aut->List Nat->Bool|[],_=>true|a::l,t=>a.ms.contains (t.headD 0)&&mkdT l t.tail
def box:List Aut->Nat|[]=>1|a::l=>a.n*box l
def sync0(l:List Aut):List (List Nat)×List Ed:=pQ l (evA l) (box l+1) 0 ([List.replicate l.length 0],[])
def syncA(l:List Aut):Aut:=⟨evA l,(sync0 l).1.length,(List.range (sync0 l).1.length).filter fun i=>mkdT l ((sync0 l).1.getD i []),(sync0 l).2⟩
def InT(l:List Aut)(t:List Nat):Prop:=t.length=l.length/\∀i a,l[i]?=some a->t.getD i 0<a.n
def allT:List Aut->List (List Nat)|[]=>[[]]|a::l=>(List.range a.n).flatMap fun x=>(allT l).map (x::·)
theorem Qli:∀{l:List Aut}{t:List Nat},InT l t->t∈allT l|[],t,⟨h,_⟩=>by simp_all[allT]|a::l,[],⟨h,_⟩=>by simp at h|a::l,x::t,⟨h,c⟩=>by unfold allT;refine List.mem_flatMap.2 ⟨x,List.mem_range.2 (by simpa using c 0 a rfl),List.mem_map.2 ⟨t,Qli ⟨by simpa using h,fun i b d=>?_⟩,rfl⟩⟩;simpa using c (i+1) b (by simpa using d)
theorem Qlj:∀(l:List Aut),(allT l).length=box l|[]=>rfl|a::l=>by unfold allT box;rw[List.length_flatMap];simp only[List.length_map,Qlj l];simp_all[List.map_const']
theorem QjE{α:Type}[DecidableEq α]:∀{l m:List α},l.Nodup->(∀x∈l,x∈m)->l.length<=m.length|[],m,_,_=>Nat.zero_le _|x::l,m,h,hm=>by rw[List.nodup_cons]at h;have h1:=hm x (by simp);have b:=QjE (l:=l) (m:=m.erase x) h.2 fun y a=>(List.mem_erase_of_ne (fun(e:y=x)=>h.1 (e▸a))).2 (hm y (by simp[a]));grind
theorem Qc7{l:List Aut}{T:List (List Nat)}(b:T.Nodup)(hi:∀t∈T,InT l t):T.length<=box l:=by rw[<-Qlj];exact QjE b fun t a=>Qli (hi t a)
theorem Qe8{l:List Aut}(hw:∀a∈l,∀e∈a.es,e.1<a.n/\e.2.2<a.n){t n:List Nat}{e:Nat}(c:InT l t)(h:stepT l t e=some n):InT l n:=by
 obtain⟨h1,j,g⟩:=(Qe7 (Nat.le_of_eq c.1.symm)).1 h;refine⟨by rw[h1,c.1],fun i a d=>?_⟩;have hi:i<l.length:=by grind
 have b:=g i a hi d;by_cases he:e∈a.al;·rw[if_pos he]at b;obtain⟨x,f⟩:=Qav (l:=n) (i:=i) (by rw[h1,c.1];exact hi);rw[f]at b;rw[List.getD_eq_getElem?_getD,f];exact Qk4 (hw a (List.mem_of_getElem? d)) b
 rw[if_neg he]at b;rw[List.getD_eq_getElem?_getD,b,<-List.getD_eq_getElem?_getD];exact c.2 i a d
structure PI(l:List Aut)(s:List (List Nat)×List Ed):Prop where
 nd:s.1.Nodup
 inT:∀t∈s.1,InT l t
theorem QrB{l:List Aut}(hw:∀a∈l,∀e∈a.es,e.1<a.n/\e.2.2<a.n){i e:Nat}{t:List Nat}{s:List (List Nat)×List Ed}(c:InT l t)(h:PI l s):PI l (pEv l i t s e):=by unfold pEv;cases d:stepT l t e with|none=>exact h|some n=>
 have f:=Qe8 hw c d;dsimp only;by_cases hm:n∈s.1;·simp only[if_pos hm];exact⟨h.nd,h.inT⟩
 simp only[if_neg hm];refine⟨List.nodup_append.2 ⟨h.nd,by simp,fun x b y g=>by grind⟩,fun x b=>?_⟩;rcases List.mem_append.1 b with b|b;·exact h.inT x b
 simp_all
theorem QdN{l:List Aut}(hw:∀a∈l,∀e∈a.es,e.1<a.n/\e.2.2<a.n){i:Nat}{t:List Nat}(b:InT l t):∀{ev:List Nat}{s:List (List Nat)×List Ed},PI l s->PI l (pRow l ev i t s)|[],s,h=>h|e::ev,s,h=>QdN hw b (ev:=ev) (QrB hw b h)
theorem QqM{l:List Aut}{i e:Nat}{t:List Nat}{s:List (List Nat)×List Ed}:s.1<+:(pEv l i t s e).1:=by grind[pEv]
theorem Qcx{l:List Aut}{i:Nat}{t:List Nat}:∀{ev:List Nat}{s:List (List Nat)×List Ed},s.1<+:(pRow l ev i t s).1|[],s=>List.prefix_refl _|e::ev,s=>List.IsPrefix.trans QqM (Qcx (ev:=ev))
theorem pQ_ok{l:List Aut}{ev:List Nat}(hw:∀a∈l,∀e∈a.es,e.1<a.n/\e.2.2<a.n):∀{k i:Nat}{s:List (List Nat)×List Ed},PI l s->PI l (pQ l ev k i s)|0,_,_,h=>h|k+1,i,s,h=>by unfold pQ;cases b:s.1[i]? with|none=>exact h|some t=>exact pQ_ok hw (QdN hw (h.inT t (List.mem_of_getElem? b)) h)
theorem Qh7{l:List Aut}{ev:List Nat}:∀{k i:Nat}{s:List (List Nat)×List Ed},s.1<+:(pQ l ev k i s).1|0,_,_=>List.prefix_refl _|k+1,i,s=>by unfold pQ;cases a:s.1[i]? with|none=>exact List.prefix_refl _|some t=>exact List.IsPrefix.trans Qcx Qh7
theorem Qe9{l:List Aut}(d:∀a∈l,0<a.n):PI l ([List.replicate l.length 0],[]):=by refine⟨by simp,fun t b=>?_⟩;simp at b;subst b;refine⟨by simp,fun i a c=>?_⟩;grind
theorem Qge{l:List Aut}(b:∀a∈l,0<a.n)(hw:∀a∈l,∀e∈a.es,e.1<a.n/\e.2.2<a.n):PI l (sync0 l):=pQ_ok hw (Qe9 b)
theorem Qlk{l:List Aut}(b:∀a∈l,0<a.n)(hw:∀a∈l,∀e∈a.es,e.1<a.n/\e.2.2<a.n):(sync0 l).1.length<=box l:=Qc7 (Qge b hw).nd (Qge b hw).inT
end Go.AM.SO
namespace Go.AM.SU
open Go.Proofs Go.AM.SD Go.AM.SE
theorem chc{P:Program}{N:NM}{r:List SOper}{dead:List Nat}{fs:List Fr}{n:Nat}{T:Tmps}{h h1:Heap}{Q:QC}{d:Option Nat}{f:Nat}{args a c:List AV}{v:AV}(hp:HSpec P f (a++args++c) h v h1)(k:wR P N r dead fs (n+1) (putD T d v) h1 Q):wCall P N .heap (.fn f a c) args d r dead fs n T h Q:=⟨v,h1,hp,k⟩
end Go.AM.SU
namespace Go.AM.SU
open Go.Proofs Go.AM.SD Go.AM.SE Go.AM.SO
section
variable{p:Pln}
theorem QfZ{ch:UInt8}(l:List (Nat×Aut)):noRefs (l.flatMap (itC ch))=true:=Qa9 (fun x=>by simp only[itC,noRefs,noRef,Qab,Qaf];rfl) l
theorem Qa8{x y:List AV}(a:noRefs x=true)(b:noRefs y=true):noRefs (x++y)=true:=by rw[Qah,a,b];rfl
end
end Go.AM.SU
namespace Go.AM.SQ
open Go.Proofs
set_option maxHeartbeats 4000000
noncomputable section
def cf:YA.Cf:={most:=.pure,always:=[96].map fun k=>(k,.heap)}
def s62:SFn:=by
 refine(?f:YA.Yt Tryz.prog cf 62 [[0,2],[15,16,17],[1,18],[2,18,19],[],[23,24,25],[4,26,27,28],[1,20,21,22,30,29,41,40,39,38,31],[2,31,32],[20,21,22,30,29,41,40,39,38,33,34,35,36,37],[1,42],[2,42,43],[],[47,48,49,50],[5,51],[7,52,53,54,55],[56],[1,44,45,46,6,8,57,58],[2,6,8,57,59,60,61],[62],[1,44,45,46,9,63,64],[2,9,63,65],[44,45,46,66],[],[70,71,72,73],[10,74],[12,75,76,77,78],[79],[1,67,68,69,11,13,80,81],[2,11,13,80,82,83,84],[85],[1,67,68,69,14,86,87],[2,14,86,88],[1,67,68,69]]) ?s ?h;case h=>exact YA.rr
 exact fun s _=>s
theorem ok62:okFn Tryz.prog 62 s62=true:=by kernel_rfl
end
end Go.AM.SQ
namespace Go.AM.SO
open Go.Proofs Go.AM.SD Go.AM.SE
theorem Qfa{α:Type}{f:α->List AV}(hf:∀x,(f x).all AV.one=true):∀l:List α,(l.flatMap f).all AV.one=true|[]=>rfl|x::l=>by rw[List.flatMap_cons,List.all_append,hf,Qfa hf l];rfl
theorem take_succ'{α:Type}{l:List α}{i:Nat}{x:α}(h:l[i]?=some x):l.take (i+1)=l.take i++[x]:=by rw[List.take_add_one,h];rfl
end Go.AM.SO
namespace Go.AM.SO
open Go.Proofs Go.AM.SD Go.AM.SE
def idxQ{α:Type}(q:α->Bool)(l:List α):Int:=if l.any q then(l.findIdx q:Int)else-1
theorem Qem{α:Type}{q:α->Bool}{l:List α}(h:∀x∈l,q x=false):idxQ q l=-1:=by unfold idxQ;rw[if_neg];rw[List.any_eq_true];rintro⟨x,b,a⟩;rw[h x b]at a;cases a
theorem Qgf{α:Type}{q:α->Bool}{l:List α}{i:Nat}{x:α}(b:l[i]?=some x)(c:q x=true)(d:∀(j:Nat)y,j<i->l[j]?=some y->q y=false):idxQ q l=i:=by
 have a:i<l.length:=by
  rcases Nat.lt_or_ge i l.length with h|h;·exact h
  rw[List.getElem?_eq_none h]at b;cases b
 have h1:l.any q=true:=List.any_eq_true.2 ⟨x,List.mem_of_getElem? b,c⟩;have g:l.findIdx q=i:=by rw[List.findIdx_eq a];refine⟨by rw[List.getElem?_eq_getElem a]at b;cases b;exact c,fun j f=>d j l[j] f (List.getElem?_eq_getElem (by omega))⟩
 unfold idxQ;rw[if_pos h1,g]
theorem QqN{α:Type}{q:α->Bool}{l:List α}:decide (0<=idxQ q l)=l.any q:=by
 unfold idxQ;cases h:l.any q;·simp
 simp
theorem QbG{K:Nat}{cap:List AV}(h:noRefs cap=true):noRef (.fn K [] cap)=true:=by simp only[noRef,noRefs,h];rfl
theorem QqO{l:List Nat}{i x:Nat}(h:l[i]?=some x):(ints (nz l)).drop (i*1)=.int .i64 (x:Int)::(ints (nz (l.drop (i+1)))):=by
 rw[Nat.mul_one];have hi:i<l.length:=by
  rcases Nat.lt_or_ge i l.length with h1|h1;·exact h1
  rw[List.getElem?_eq_none h1]at h;cases h
 rw[List.getElem?_eq_getElem hi]at h;cases h;rw[List.drop_eq_getElem_cons (by simp[ints];omega)];simp[ints,nz,List.map_drop]
theorem index110{K:Nat}{cap:List AV}(q:Nat->Bool)(l:List Nat)(s:l.length<=1000000)(hc:noRefs cap=true)(hk:∀x∈l,PSpec Tryz.prog K (.int .i64 (x:Int)::cap) (.bool (q x))):PSpec Tryz.prog 138 [sliN l,.fn K [] cap] (.int .i64 (idxQ q l)):=by
 refine PSpec.QaB 64 ok138 rfl (by rw[noRefs,noRefs,QbG hc,(Qaa _)];rfl) rfl ?_;have c:=QbG (K:=K) hc;have o:=(show(ints (nz l)).length=l.length*1 by simp[ints]);simp(disch:=first|omega|(simp only[lenW]<;>omega))only[s138,List.append_nil,wW,wV,simprocAttr];refine Qbh 100 (fun i:Nat=>[(0,sliN l),(1,.fn K [] cap),(7,.int .i64 l.length),(8,.int .i64 i)]) (fun _=>[]) (fun i=>i<=l.length/\∀(j:Nat)y,j<i->l[j]?=some y->q y=false) (fun i=>l.length-i) 0 ?_ ⟨Nat.zero_le _,fun j y k=>absurd k (Nat.not_lt_zero _)⟩ ?_;·exact⟨[],rfl,RO.zero,RB.nil,RT.cons (Rn.same (Qaa _)) (RT.cons (Rn.same c) (RT.cons (Rn.same rfl) (RT.cons (Rn.same rfl) RT.nil)))⟩
 rintro i⟨hi,m⟩;by_cases a:i<l.length
 ·obtain⟨x,b⟩:=Qav a;have h:=hk x (List.mem_of_getElem? b);have d:=QaW b;have f:1<=(List.drop (i*1) (ints (nz l))).length:=by rw[List.length_drop,o];omega
  cases g:q x
  ·rw[g]at h;simp(disch:=first|omega|(simp only[lenW]<;>omega))only[a,d,f,List.head?_cons,List.append_nil,wW,wV,simprocAttr];refine⟨_,by simpa using h,?_⟩;simp(disch:=first|omega|(simp only[lenW]<;>omega))only[List.append_nil,wW,wV,simprocAttr];refine⟨i+1,by omega,⟨by omega,fun j y k p=>?_⟩,?_⟩
   ·by_cases e:j=i;·subst e;rw[b]at p;cases p;exact g
    exact m j y (by omega) p
   exact⟨[],rfl,RO.zero,RB.nil,RT.cons (Rn.same (Qaa _)) (RT.cons (Rn.same c) (RT.cons (Rn.same rfl) (RT.cons (Rn.same rfl) RT.nil)))⟩
  rw[g]at h;simp(disch:=first|omega|(simp only[lenW]<;>omega))only[a,d,f,List.head?_cons,List.append_nil,wW,wV,simprocAttr];refine⟨_,by simpa using h,?_⟩;simp(disch:=first|omega|(simp only[lenW]<;>omega))only[List.append_nil,wW,wV,simprocAttr];refine⟨.inr trivial,_,rfl,?_⟩;rw[Qgf b g m];rfl
 simp(disch:=first|omega|(simp only[lenW]<;>omega))only[a,List.append_nil,wW,wV,simprocAttr];refine⟨.inr trivial,_,rfl,?_⟩;rw[Qem fun x b=>by obtain⟨j,k,r⟩:=List.getElem_of_mem b;exact m j x (by omega) (by rw[List.getElem?_eq_getElem k,r])];rfl
theorem contains36{K:Nat}{cap:List AV}(q:Nat->Bool)(l:List Nat)(a:l.length<=1000000)(hc:noRefs cap=true)(hk:∀x∈l,PSpec Tryz.prog K (.int .i64 (x:Int)::cap) (.bool (q x))):PSpec Tryz.prog 90 [sliN l,.fn K [] cap] (.bool (l.any q)):=by
 refine PSpec.QaB 64 ok90 rfl (by rw[noRefs,noRefs,QbG hc,Qaa];rfl) rfl ?_;simp(disch:=first|omega|(simp only[lenW]<;>omega))only[s90,List.append_nil,wW,wV,simprocAttr];refine cp (index110 q l a hc hk) ?_;have e:=@QqN Nat q l;cases h:l.any q;·rw[h,decide_eq_false_iff_not]at e;simp(disch:=first|omega|(simp only[lenW]<;>omega))only[e,List.append_nil,wW,wV,simprocAttr];exact⟨.inr trivial,_,rfl,rfl⟩
 rw[h,decide_eq_true_eq]at e;simp(disch:=first|omega|(simp only[lenW]<;>omega))only[e,List.append_nil,wW,wV,simprocAttr];exact⟨.inr trivial,_,rfl,rfl⟩
end Go.AM.SO
namespace Go.AM.SR
open Go.Proofs
set_option maxHeartbeats 4000000
noncomputable section
def cf:YA.Cf:={most:=.pure,always:=[90].map fun k=>(k,.heap)}
def s60:SFn:=by
 refine(?f:YA.Yt Tryz.prog cf 60 [[0,1,8],[11,12,13,14],[2,3,4,5,10],[10,16,17,18,19],[2,3,4,5,15],[8,3,15,20,21,22],[23,24,25],[26],[2,4,5,9,27,28],[8,9,27,30,31,32,33],[2,4,5,29],[29,35,36,37,38],[2,4,5,34],[5,34,40,41,42,43,44],[2,4,39],[2,4,39,46,47,48,49,50,51],[45],[45]]) ?s ?h;case h=>exact YA.rr
 exact fun s _=>s
theorem ok60:okFn Tryz.prog 60 s60=true:=by kernel_rfl
end
end Go.AM.SR
namespace Go.AM.SO
open Go.Proofs Go.AM.SD Go.AM.SE
theorem Qll{a:Aut}(h:WfA a):a.al.length<=32:=Qbb 32 a.al (by rw[List.nodup_iff_pairwise_ne];exact h.al.imp fun h=>by omega) h.al5
abbrev nmsB(l:List (List UInt8)):Blk:=.map 0 (mapS yes l)
end Go.AM.SO
namespace Go.AM.SO
open Go.Proofs Go.AM.SD Go.AM.SE
def uUp(l:List (Nat×Aut)):List Nat:=l.foldl (fun out x=>mrg (fun a b=>a||b) out x.2.al) []
theorem QmU:∀{l:List (Nat×Aut)}{out:List Nat},out.Pairwise (·<·)->(∀x∈l,x.2.al.Pairwise (·<·))->(l.foldl (fun out x=>mrg (fun a b=>a||b) out x.2.al) out).Pairwise (·<·)/\∀e,e∈l.foldl (fun out x=>mrg (fun a b=>a||b) out x.2.al) out↔e∈out\/∃y∈l,e∈y.2.al
 |[],out,h,_=>⟨h,fun e=>by simp⟩|x::l,out,h,f=>by
  have d:=f x (by simp);obtain⟨h1,g⟩:=QmU (l:=l) (Qcf (k:=fun a b=>a||b) h d) fun y i=>f y (by simp[i]);refine⟨h1,fun e=>?_⟩;rw[List.foldl_cons,g e,QbU h d];simp only[List.mem_cons,exists_eq_or_imp,Bool.or_eq_true,decide_eq_true_eq];constructor
  ·rintro(⟨c,_⟩|c)
   ·rcases c with c|c;·exact .inl c
    exact .inr (.inl c)
   exact .inr (.inr c)
  rintro(c|c|c);·exact .inl ⟨.inl c,.inl c⟩
  ·exact .inl ⟨.inr c,.inr c⟩
  exact .inr c
theorem Qgg{m:Nat}{π:Nat->Option Src}{h:Heap}:RnM m π h (mapS yes []) []:=trivial
end Go.AM.SO
namespace Go.AM.SO
open Go.Proofs Go.AM.SD Go.AM.SE
def auC(a:Aut):List AV:=[sliN a.al,.int .i64 (a.n:Int),sliN a.ms,egsN a.es]
abbrev auts(l:List Aut):AV:=.fsl (l.flatMap auC) l.length 4
theorem Qa1(l:List Aut):noRefs (l.flatMap auC)=true:=Qa9 (fun x=>by simp only[auC,noRefs,noRef,Qab,Qaf];rfl) l
theorem Qbl(l:List Aut):noRef (auts l)=true:=by simp only[noRef];exact Qa1 l
theorem Qf0(l:List Aut):(l.flatMap auC).length=l.length*4:=Qby (k:=4) (fun _=>rfl) l
theorem QdO{l:List Aut}{i:Nat}{x:Aut}(h:l[i]?=some x):(l.flatMap auC).drop (i*4)=sliN x.al::.int .i64 (x.n:Int)::sliN x.ms::egsN x.es::(l.drop (i+1)).flatMap auC:=Qbw (f:=auC) (k:=4) (fun _=>rfl) h
theorem _root_.Go.AM.au11{p:Prop}(h:p:=by repeat(first|exact RT.nil|(refine RT.cons ?_ ?_;·(first|exact Rn.any|exact Rn.x1 rfl rfl|exact Rn.x2 rfl rfl|exact Rn.x3 rfl rfl|exact Rn.x4 rfl rfl|exact Rn.x5 rfl|exact Rn.x6 rfl|exact Rn.x7 rfl|(refine Rn.slot ?_ ?_;(first|rfl|(rw[Int.natCast_add];rfl));(first|rfl|(simp only[noRef,noRefs,Qah,Bool.and_self,Bool.and_true,Bool.true_and,Qab,Qap,Qaa,Qak];done)))|(refine Rn.fn ?_ ?_<;>(repeat'(first|exact RnL.nil|refine RnL.cons ?_ ?_|exact Rn.same rfl|exact Rn.x6 rfl|exact Rn.x2 rfl rfl|exact Rn.x5 rfl|exact Rn.x1 rfl rfl))))))):p:=h
theorem _root_.Go.AM.au12{p:Prop}(h:p:=by repeat'(first|exact RB.nil|(refine RnL.same ?_;first|rfl|(simp only[noRef,noRefs,Qah,Bool.and_self,Bool.and_true,Bool.true_and,Qab,Qap,Qaa,Qak];done))|exact RnM.keyM rfl|exact RnL.nil|exact(True.intro:RnM _ _ _ [] [])|refine RnL.cons ?_ ?_|(refine Rn.same ?_;first|rfl|(simp only[noRef,noRefs,Qah,Bool.and_self,Bool.and_true,Bool.true_and,Qab,Qap,Qaa,Qak];done))|exact Rn.x1 rfl rfl|exact Rn.x2 rfl rfl|exact Rn.x3 rfl rfl|exact Rn.x4 rfl rfl|exact Rn.x5 rfl|exact Rn.x6 rfl|exact Rn.x7 rfl|refine RB.newnil rfl rfl ?_|refine RB.cells rfl rfl rfl ?_ ?_|refine RB.map rfl rfl rfl ?_ ?_|refine RB.cellsB rfl rfl ?_ ?_|refine RB.mapB rfl rfl ?_ ?_)):p:=h
theorem check95(l:List Aut)(h:∀a∈l,WfJ a)(k:l.length<=12):PSpec Tryz.prog 64 [auts l] (.int .i64 0):=by
 refine PSpec.QaB 64 TP.ok64 rfl (by rw[noRefs,Qbl];rfl) rfl ?_;have g1:¬(12:Int)<(l.length:Int):=by omega
 have c:=Qbl l;simp(disch:=first|omega|exact PairsOK.mk rfl|(simp only[lenW]<;>omega))only[TP.s64,g1,wW,wV,simprocAttr];refine Qay 100 (fun i:Nat=>[(9,auts l),(10,.int .i64 l.length),(11,.int .i64 i)]) (fun _=>[]) (fun i=>i<=l.length) (fun i=>l.length-i) 0 0 140 (fun _:Unit=>[]) (fun _=>[]) (fun _=>True) ?_ (Nat.zero_le _) ?_ ?_;·exact⟨[],rfl,RO.zero,RB.nil,RT.cons (Rn.same c) au11⟩
 ·rintro i hi;by_cases b:i<l.length
  ·obtain⟨x,j⟩:=Qav b;have d:=h x (List.mem_of_getElem? j);have f:=QdO j;have g:4<=((l.flatMap auC).drop (i*4)).length:=by rw[f];simp
   have hc:=check112 x d.wf (by have:=WfA.el1 d.wf;omega);simp(disch:=first|omega|exact PairsOK.mk rfl|(simp only[lenW]<;>omega))only[b,f,g,wW,wV,simprocAttr];refine cp hc ?_;simp(disch:=first|omega|exact PairsOK.mk rfl|(simp only[lenW]<;>omega))only[wW,wV,simprocAttr];exact⟨i+1,by omega,by omega,[],rfl,RO.zero,RB.nil,RT.cons (Rn.same c) au11⟩
  simp(disch:=first|omega|exact PairsOK.mk rfl|(simp only[lenW]<;>omega))only[b,wW,wV,simprocAttr];exact⟨(),⟨[],rfl,au0,au12,au11⟩⟩
 rintro _ _;simp(disch:=first|omega|exact PairsOK.mk rfl|(simp only[lenW]<;>omega))only[wW,wV,simprocAttr];exact⟨.inr trivial,_,rfl,rfl⟩
theorem Qp5{l:List Aut}{i:Nat}{x:Aut}(h:l[i]?=some x):evA (l.take (i+1))=mrg (fun a b=>a||b) (evA (l.take i)) x.al:=by unfold evA;rw[take_succ' h,List.foldl_append];rfl
theorem QqP(l:List Aut):evA l=uUp (l.map fun a=>(0,a)):=by unfold evA uUp;rw[List.foldl_map];rfl
theorem Qdm{l:List Aut}(h:∀a∈l,WfJ a):(evA l).Pairwise (·<·)/\∀e,e∈evA l↔∃a∈l,e∈a.al:=by
 have:=QmU (l:=l.map fun a=>(0,a)) (out:=[]) (by simp) (fun x c=>by obtain⟨a,b,rfl⟩:=List.mem_map.1 c;exact(h a b).wf.al);rw[QqP];refine⟨this.1,fun e=>(this.2 e).trans ?_⟩;constructor
 ·rintro(h|⟨y,d,he⟩);·cases h
  obtain⟨a,b,rfl⟩:=List.mem_map.1 d;exact⟨a,b,he⟩
 rintro⟨a,b,c⟩;exact .inr ⟨_,List.mem_map.2 ⟨a,b,rfl⟩,c⟩
theorem QmV{l:List Aut}(h:∀a∈l,WfJ a):(evA l).length<=32:=by refine Qbb 32 _ (by rw[List.nodup_iff_pairwise_ne];exact(Qdm h).1.imp fun h=>by omega) fun x c=>?_;obtain⟨a,b,he⟩:=((Qdm h).2 x).1 c;exact(h a b).wf.al5 x he
theorem events187(l:List Aut)(h:∀a∈l,WfJ a)(p:l.length<=12):PSpec Tryz.prog 102 [auts l] (sliN (evA l)):=by
 refine PSpec.of_rn 64 TP.ok102 rfl (by rw[noRefs,Qbl];rfl) (Qaa _) ?_;have d:=Qbl l;simp(disch:=first|omega|exact PairsOK.mk rfl|(simp only[lenW]<;>omega))only[TP.s102,wW,wV,simprocAttr];refine Qay 100 (fun i:Nat=>[(3,sliN (evA (l.take i))),(6,auts l),(7,.int .i64 l.length),(8,.int .i64 i)]) (fun _=>[]) (fun i=>i<=l.length) (fun i=>l.length-i) 0 0 140 (fun _:Unit=>[(3,sliN (evA l))]) (fun _=>[]) (fun _=>True) ?_ (Nat.zero_le _) ?_ ?_;·exact⟨[],rfl,RO.zero,RB.nil,RT.cons Rn.nilK (RT.cons (Rn.same d) au11)⟩
 ·rintro i hi;by_cases c:i<l.length
  ·obtain⟨x,g⟩:=Qav c;have j:=h x (List.mem_of_getElem? g);have f:=QdO g;have k:4<=((l.flatMap auC).drop (i*4)).length:=by rw[f];simp
   have b:(evA (l.take i)).length<=1000000:=by have:=QmV (l:=l.take i) fun y o=>h y (List.mem_of_mem_take o);omega
   have m:=union84 (evA (l.take i)) x.al b (by have:=Qll j.wf;omega);rw[<-Qp5 g]at m;simp(disch:=first|omega|exact PairsOK.mk rfl|(simp only[lenW]<;>omega))only[c,f,k,wW,wV,simprocAttr];refine cp m ?_;simp(disch:=first|omega|exact PairsOK.mk rfl|(simp only[lenW]<;>omega))only[wW,wV,simprocAttr];exact⟨i+1,by omega,by omega,[],rfl,RO.zero,RB.nil,RT.cons (Rn.same (Qaa _)) (RT.cons (Rn.same d) au11)⟩
  have e:i=l.length:=by omega
  subst e;simp(disch:=first|omega|exact PairsOK.mk rfl|(simp only[lenW]<;>omega))only[c,List.take_length,wW,wV,simprocAttr];exact⟨(),⟨[],rfl,au0,au12,au11⟩⟩
 rintro _ _;simp(disch:=first|omega|exact PairsOK.mk rfl|(simp only[lenW]<;>omega))only[wW,wV,simprocAttr];exact⟨.inr trivial,_,rfl,Rn.same (Qaa _)⟩
theorem has189(l:List Nat)(t:Nat)(a:l.Pairwise (·<·))(b:l.length<=1000000):PSpec Tryz.prog 104 [sliN l,.int .i64 (t:Int)] (.bool (l.contains t)):=by refine PSpec.QaB 64 TP.ok104 rfl (by(try simp only[noRefs,Qab,noRef,noRefs,Bool.and_self,Bool.and_true])<;>rfl) rfl ?_;have h:=find57 l t (a.imp fun h=>Nat.le_of_lt h) b;simp(disch:=first|omega|exact PairsOK.mk rfl|(simp only[lenW]<;>omega))only[TP.s104,wW,wV,simprocAttr];refine cp h ?_;simp(disch:=first|omega|exact PairsOK.mk rfl|(simp only[lenW]<;>omega))only[wW,wV,simprocAttr];exact⟨.inr trivial,_,rfl,rfl⟩
end Go.AM.SO
namespace Go.AM.SO
open Go.Proofs Go.AM.SD Go.AM.SE
theorem Qax{α:Type}{f:α->AV}(h:∀x,noRef (f x)=true)(l:List α):noRefs (l.map f)=true:=by induction l with|nil=>rfl|cons x l a=>simp only[List.map_cons,noRefs,h,a];rfl
def pE(e:Ed):Nat×Nat:=(e.1,e.2.1)
def vE(es:List Ed)(p:Nat×Nat):AV:=.int .i64 (((stepA es p.1 p.2).getD 0:Nat):Int)
abbrev emV(a:Aut):AV:=fmapG kP (vE a.es) (a.es.map pE)
theorem Qcy(a:Aut):noRef (emV a)=true:=by rw[emV,fmapG,noRef,Qax (fun _=>rfl),Qax (fun _=>rfl)];rfl
theorem Qac{x y:List AV}:(AV.fmap x y).cells=[.fmap x y]:=rfl
theorem Qad{x y:List AV}:(AV.fmap x y).one=true:=rfl
theorem Qae{x y:List AV}:(AV.fmap x y).boxable=true:=rfl
abbrev macV(l:List Aut):AV:=.agg [auts l,sliN (evA l),.fsl (l.map emV) l.length 1]
theorem QcU(l:List Aut):noRef (macV l)=true:=by rw[macV,noRef,noRefs,noRefs,noRefs,Qbl,Qaa,noRef,Qax Qcy];rfl
theorem Qh8{e:Ed}{es:List Ed}{s v:Nat}:stepA (e::es) s v=if e.1=s/\e.2.1=v then some e.2.2 else stepA es s v:=by unfold stepA;rw[List.find?_cons];by_cases h1:e.1=s<;>by_cases a:e.2.1=v<;>simp[h1,a,beq_eq_false_iff_ne.2]
theorem Qho:∀{es:List Ed},es.Pairwise (fun x y=>x.1<y.1\/(x.1=y.1/\x.2.1<y.2.1))->∀{e:Ed},e∈es->stepA es e.1 e.2.1=some e.2.2
 |x::es,h,e,he=>by
  rw[List.pairwise_cons]at h;rw[Qh8];rcases List.mem_cons.1 he with rfl|he;·rw[if_pos ⟨rfl,rfl⟩]
  have :=h.1 e he;rw[if_neg (by omega)];exact Qho h.2 he
theorem Qh9:∀{es:List Ed}{s v:Nat},(s,v)∉es.map pE->stepA es s v=none|[],s,v,_=>rfl|x::es,s,v,h=>by rw[List.map_cons,List.mem_cons,not_or]at h;rw[Qh8,if_neg fun a=>h.1 (by unfold pE;rw[a.1,a.2])];exact Qh9 h.2
theorem QoY{es:List Ed}{s v t:Nat}(h:stepA es s v=some t):(s,v)∈es.map pE:=by refine Decidable.byContradiction fun a=>?_;rw[Qh9 a]at h;cases h
theorem Qp6{es:List Ed}(h:es.Pairwise (fun x y=>x.1<y.1\/(x.1=y.1/\x.2.1<y.2.1))){j:Nat}{e:Ed}(he:es[j]?=some e):(e.1,e.2.1)∉(es.take j).map pE:=by
 intro hm;obtain⟨y,d,b⟩:=List.mem_map.1 hm;obtain⟨k,hk⟩:=List.mem_iff_getElem?.1 d;have a:k<j:=by
  rcases Nat.lt_or_ge k j with h|h;·exact h
  rw[List.getElem?_eq_none (by rw[List.length_take];omega)]at hk;cases hk
 rw[List.getElem?_take_of_lt a]at hk;obtain⟨c,f⟩:=List.getElem?_eq_some_iff.1 hk;obtain⟨i,g⟩:=List.getElem?_eq_some_iff.1 he;have:=List.pairwise_iff_getElem.1 h k j c i a;rw[f,g]at this;unfold pE at b;simp only[Prod.mk.injEq]at b;omega
theorem QrC{es:List Ed}(h:es.Pairwise (fun x y=>x.1<y.1\/(x.1=y.1/\x.2.1<y.2.1))){e:Ed}(he:e∈es):updG (vE es) (e.1,e.2.1) (.int .i64 (e.2.2:Int))=vE es:=by
 funext p;unfold updG;split;·rename_i hp;subst hp;unfold vE;rw[Qho h he];rfl
 rfl
theorem _root_.Go.AM.au13{p:Prop}(h:p:=by repeat(first|exact RT.nil|(refine RT.cons ?_ ?_;·(first|exact Rn.any|exact Rn.x1 rfl rfl|exact Rn.x2 rfl rfl|exact Rn.x3 rfl rfl|exact Rn.x4 rfl rfl|exact Rn.x5 rfl|exact Rn.x6 rfl|exact Rn.x7 rfl|(refine Rn.slot ?_ ?_;(first|rfl|(rw[Int.natCast_add];rfl));(first|rfl|(simp only[noRef,noRefs,Qah,Bool.and_self,Bool.and_true,Bool.true_and,Qab,Qap,Qaa,Qak,Qa1,Qaf];done)))|(refine Rn.fn ?_ ?_<;>(repeat'(first|exact RnL.nil|refine RnL.cons ?_ ?_|exact Rn.same rfl|exact Rn.x6 rfl|exact Rn.x2 rfl rfl|exact Rn.x5 rfl|exact Rn.x1 rfl rfl))))))):p:=h
theorem open96(l:List Aut)(h:∀a∈l,WfJ a)(w:l.length<=12):PSpec Tryz.prog 65 [auts l] (macV l):=by
 refine PSpec.of_rn 64 TP.ok65 rfl (by rw[noRefs,Qbl];rfl) (QcU l) ?_;have s:=events187 l h w;have b:=Qbl l;have hlen:(l.map emV).length=l.length:=List.length_map ..;simp(disch:=first|omega|exact PairsOK.mk rfl|(simp only[lenW]<;>omega))only[TP.s65,Qac,Qad,Qae,wW,wV,simprocAttr];refine cp s ?_;simp(disch:=first|omega|exact PairsOK.mk rfl|(simp only[lenW]<;>omega))only[Qac,Qad,Qae,wW,wV,simprocAttr];refine Qay 120 (fun i:Nat=>[(2,.ptr 51 0 0),(3,.ptr 52 0 0),(13,auts l),(14,.int .i64 l.length),(15,.int .i64 i)]) (fun i=>[(51,.cells 0 [.nilsl,.nilsl,.nilsl]),(52,.cells 0 [auts l,sliN (evA l),.sl 76 0 0 i 1]),(76,.cells 0 ((l.take i).map emV))]) (fun i=>i<=l.length) (fun i=>l.length-i) 0 0 300 (fun _:Unit=>[(2,.ptr 51 0 0),(3,.ptr 52 0 0)]) (fun _=>[(51,.cells 0 [.nilsl,.nilsl,.nilsl]),(52,.cells 0 [auts l,sliN (evA l),.fsl (l.map emV) l.length 1])]) (fun _=>True) ⟨[(51,.blk 64 0),(52,.blk 69 0),(76,.nil)],rfl,au0,?_,au13⟩ (Nat.zero_le _) ?_ ?_;·exact RB.cells rfl rfl gg (RnL.same rfl) (RB.cells rfl rfl gg (RnL.cons (Rn.same b) (RnL.cons (Rn.same (Qaa _)) (RnL.cons (Rn.x4 rfl rfl) RnL.nil))) (RB.newnil rfl rfl RB.nil))
 ·rintro i hi;by_cases c:i<l.length
  ·obtain⟨x,t⟩:=Qav c;have d:=h x (List.mem_of_getElem? t);have o:=QdO t;have v:4<=((l.flatMap auC).drop (i*4)).length:=by rw[o];simp
   have m:=take_succ' t;have r:(l.take i).length=i:=by rw[List.length_take];omega
   have u:((l.take i).map emV).length=i:=by rw[List.length_map,r]
   have y:=WfA.el1 d.wf;simp(disch:=first|omega|exact PairsOK.mk rfl|(simp only[lenW]<;>omega))only[c,o,v,Qac,Qad,Qae,wW,wV,simprocAttr];refine Qay 220 (fun j:Nat=>[(2,.ptr 51 0 0),(3,.ptr 52 0 0),(13,auts l),(14,.int .i64 l.length),(15,.int .i64 i),(6,.map 77 0),(21,egsN x.es),(22,.int .i64 x.es.length),(23,.int .i64 j)]) (fun j=>[(51,.cells 0 [.nilsl,.nilsl,.nilsl]),(52,.cells 0 [auts l,sliN (evA l),.sl 76 0 0 i 1]),(76,.cells 0 ((l.take i).map emV)),(77,.map 0 (mapG kP (vE x.es) ((x.es.take j).map pE)))]) (fun j=>j<=x.es.length) (fun j=>x.es.length-j) 0 2 280 (fun _:Unit=>[(2,.ptr 51 0 0),(3,.ptr 52 0 0),(13,auts l),(14,.int .i64 l.length),(15,.int .i64 i),(6,emV x)]) (fun _=>[(51,.cells 0 [.nilsl,.nilsl,.nilsl]),(52,.cells 0 [auts l,sliN (evA l),.sl 76 0 0 i 1]),(76,.cells 0 ((l.take i).map emV))]) (fun _=>True) ⟨[(51,.blk 51 0),(52,.blk 52 0),(76,.blk 76 0),(77,.blk 125 0)],rfl,au0,?_,au13⟩ (Nat.zero_le _) ?_ ?_;·exact RB.cells rfl rfl gg (RnL.same rfl) (RB.cells rfl rfl gg (RnL.cons (Rn.same b) (RnL.cons (Rn.same (Qaa _)) (RnL.cons (Rn.x1 rfl rfl) RnL.nil))) (RB.cells rfl rfl gg (RnL.same (Qax Qcy _)) (RB.map rfl rfl gg (RnM.mapG fun _ _=>⟨rfl,rfl⟩) RB.nil)))
   ·rintro j B;by_cases f:j<x.es.length
    ·obtain⟨e,he⟩:=Qav f;have p:=QaZ he;have g:3<=((x.es.flatMap edC).drop (j*3)).length:=by rw[p];simp
     have k:=Qp6 d.wf.es he;have q:=QrC d.wf.es (List.mem_of_getElem? he);simp(disch:=first|omega|exact PairsOK.mk rfl|(simp only[lenW]<;>omega))only[f,p,g,Qac,Qad,Qae,wW,wV,simprocAttr];refine Qcu (c:=kP) (f:=vE x.es) (x:=(e.1,e.2.1)) (l:=(x.es.take j).map pE) (g:=0) gg Qk2 k (by omega) ?_;rw[q];simp(disch:=first|omega|exact PairsOK.mk rfl|(simp only[lenW]<;>omega))only[Qac,Qad,Qae,wW,wV,simprocAttr];refine⟨j+1,by omega,by omega,?_⟩;rw[take_succ' he,List.map_append];refine⟨[(51,.blk 51 0),(52,.blk 52 0),(76,.blk 76 0),(77,.blk 77 0)],rfl,au0,?_,au13⟩;exact RB.cells rfl rfl gg (RnL.same rfl) (RB.cells rfl rfl gg (RnL.cons (Rn.same b) (RnL.cons (Rn.same (Qaa _)) (RnL.cons (Rn.x1 rfl rfl) RnL.nil))) (RB.cells rfl rfl gg (RnL.same (Qax Qcy _)) (RB.map rfl rfl gg (RnM.mapG fun _ _=>⟨rfl,rfl⟩) RB.nil)))
    have e:j=x.es.length:=by omega
    subst e;simp(disch:=first|omega|exact PairsOK.mk rfl|(simp only[lenW]<;>omega))only[f,List.take_length,Qac,Qad,Qae,wW,wV,simprocAttr];refine⟨(),[(51,.blk 51 0),(52,.blk 52 0),(76,.blk 76 0)],rfl,RO.zero,?_,?_⟩;·exact RB.cells rfl rfl gg (RnL.same rfl) (RB.cells rfl rfl gg (RnL.cons (Rn.same b) (RnL.cons (Rn.same (Qaa _)) (RnL.cons (Rn.x1 rfl rfl) RnL.nil))) (RB.cells rfl rfl gg (RnL.same (Qax Qcy _)) RB.nil))
    exact RT.cons (Rn.x2 rfl rfl) (RT.cons (Rn.x2 rfl rfl) (RT.cons (Rn.same b) (RT.cons (Rn.same rfl) (RT.cons (Rn.same rfl) (RT.cons (Rn.fzM (b:=77) (g:=0) gg rfl rfl fun _ _=>⟨rfl,rfl⟩) RT.nil)))))
   rintro _ _;have A:=Qcy x;simp(disch:=first|omega|exact PairsOK.mk rfl|(simp only[lenW]<;>omega))only[u,Qac,Qad,Qae,wW,wV,simprocAttr];refine⟨i+1,by omega,by omega,?_⟩;rw[m,List.map_append];refine⟨[(51,.blk 51 0),(52,.blk 52 0),(76,.blk 76 1)],rfl,au0,?_,au13⟩;exact RB.cells rfl rfl gg (RnL.same rfl) (RB.cells rfl rfl gg (RnL.cons (Rn.same b) (RnL.cons (Rn.same (Qaa _)) (RnL.cons (Rn.x1 rfl rfl) RnL.nil))) (RB.cells rfl rfl gg (RnL.same (SU.Qa8 (Qax Qcy _) (Qax Qcy [x]))) RB.nil))
  have e:i=l.length:=by omega
  subst e;simp(disch:=first|omega|exact PairsOK.mk rfl|(simp only[lenW]<;>omega))only[c,List.take_length,Qac,Qad,Qae,wW,wV,simprocAttr];refine⟨(),?_⟩;refine⟨[(51,.blk 51 0),(52,.blk 52 0)],rfl,au0,?_,au13⟩;exact RB.cells rfl rfl gg (RnL.same rfl) (RB.cells rfl rfl gg (RnL.cons (Rn.same b) (RnL.cons (Rn.same (Qaa _)) (RnL.cons (Rn.fzm rfl rfl rfl rfl (by simp) (RnL.same (Qax Qcy _))) RnL.nil))) RB.nil)
 rintro _ _;simp(disch:=first|omega|exact PairsOK.mk rfl|(simp only[lenW]<;>omega))only[Qac,Qad,Qae,wW,wV,simprocAttr];refine⟨.inr trivial,_,rfl,?_⟩;exact Rn.same (QcU l)
end Go.AM.SO
namespace Go.AM.SO
open Go.Proofs Go.AM.SD Go.AM.SE
theorem QdG(l:List Aut):noRefs [auts l,sliN (evA l),.fsl (l.map emV) l.length 1]=true:=by have:=QcU l;rwa[macV,noRef]at this
theorem Qo2(n:Nat)(x:Int):(List.replicate n [AV.int .i64 x]).flatten=ints (List.replicate n x):=by induction n with|zero=>rfl|succ n a=>rw[List.replicate_succ,List.flatten_cons,a];rfl
theorem QrD(n:Nat):nz (List.replicate n 0)=List.replicate n 0:=by simp[nz]
theorem initial97(l:List Aut)(h:∀a∈l,WfJ a)(p:0<l.length)(q:l.length<=12):PSpec Tryz.prog 66 [macV l] (.tup [sliN (List.replicate l.length 0),.bool true]):=by
 refine PSpec.of_rn 64 TP.ok66 rfl (by rw[noRefs,QcU];rfl) (by rw[noRef,noRefs,Qaa];rfl) ?_;have o:=Qbl l;have b:=QdG l;have j:(l.length:Int)<=140737488355328:=by omega
 have g:(8:Int)*l.length<=140737488355328:=by omega
 simp(disch:=first|omega|exact PairsOK.mk rfl|(simp only[lenW]<;>omega))only[TP.s66,Qac,Qad,Qae,wW,wV,simprocAttr];refine Qay 100 (fun i:Nat=>[(1,.ptr 51 0 0),(7,auts l),(8,.int .i64 l.length),(9,.int .i64 i)]) (fun _=>[(51,.cells 0 [auts l,sliN (evA l),.fsl (l.map emV) l.length 1])]) (fun i=>i<=l.length) (fun i=>l.length-i) 0 0 140 (fun _:Unit=>[(1,.ptr 51 0 0)]) (fun _=>[(51,.cells 0 [auts l,sliN (evA l),.fsl (l.map emV) l.length 1])]) (fun _=>True) ⟨[(51,.blk 64 0)],rfl,au0,?_,au13⟩ (Nat.zero_le _) ?_ ?_;·exact RB.cells rfl rfl gg (RnL.same b) RB.nil
 ·rintro i hi;by_cases c:i<l.length
  ·obtain⟨x,m⟩:=Qav c;have k:=h x (List.mem_of_getElem? m);have d:=QdO m;have f:4<=((l.flatMap auC).drop (i*4)).length:=by rw[d];simp
   have hp:¬(x.n:Int)=0:=by have:=k.pos;omega
   simp(disch:=first|omega|exact PairsOK.mk rfl|(simp only[lenW]<;>omega))only[c,d,f,hp,Qac,Qad,Qae,wW,wV,simprocAttr];refine⟨i+1,by omega,by omega,?_⟩;refine⟨[(51,.blk 51 0)],rfl,au0,?_,au13⟩;exact RB.cells rfl rfl gg (RnL.same b) RB.nil
  simp(disch:=first|omega|exact PairsOK.mk rfl|(simp only[lenW]<;>omega))only[c,Qac,Qad,Qae,wW,wV,simprocAttr];refine⟨(),?_⟩;refine⟨[(51,.blk 51 0)],rfl,au0,?_,au13⟩;exact RB.cells rfl rfl gg (RnL.same b) RB.nil
 rintro _ _;simp(disch:=first|omega|exact PairsOK.mk rfl|(simp only[lenW]<;>omega))only[j,g,Qo2,Qac,Qad,Qae,wW,wV,simprocAttr];refine⟨.inr trivial,_,rfl,?_⟩;refine Rn.tup (RnL.cons ?_ (RnL.same rfl));have e:sliN (List.replicate l.length 0)=.fsl (ints (List.replicate l.length 0)) l.length 1:=by rw[sliN,QrD,List.length_replicate]
 rw[e];exact Rn.fz0 (b:=143) rfl (by simp[ints]) (RnL.same (Qab _))
theorem _root_.Go.AM.au14{p:Prop}(h:p:=by repeat'(first|exact RB.nil|(refine RnL.same ?_;first|rfl|(simp only[noRef,noRefs,Qah,Bool.and_self,Bool.and_true,Bool.true_and,Qab,Qap,Qaa,Qak,Qa1,Qaf];done))|exact RnM.keyM rfl|exact RnL.nil|exact(True.intro:RnM _ _ _ [] [])|refine RnL.cons ?_ ?_|(refine Rn.same ?_;first|rfl|(simp only[noRef,noRefs,Qah,Bool.and_self,Bool.and_true,Bool.true_and,Qab,Qap,Qaa,Qak,Qa1,Qaf];done))|exact Rn.x1 rfl rfl|exact Rn.x2 rfl rfl|exact Rn.x3 rfl rfl|exact Rn.x4 rfl rfl|exact Rn.x5 rfl|exact Rn.x6 rfl|exact Rn.x7 rfl|refine RB.newnil rfl rfl ?_|refine RB.cells rfl rfl rfl ?_ ?_|refine RB.map rfl rfl rfl ?_ ?_|refine RB.cellsB rfl rfl ?_ ?_|refine RB.mapB rfl rfl ?_ ?_)):p:=h
theorem marked99(l:List Aut)(t:List Nat)(h:∀a∈l,WfJ a)(w:l.length<=12)(v:t.length=l.length):PSpec Tryz.prog 68 [macV l,sliN t] (.bool (mkdT l t)):=by
 refine PSpec.of_rn 64 TP.ok68 rfl (by rw[noRefs,QcU,noRefs,Qaa];rfl) rfl ?_;have q:=Qbl l;have s:=QdG l;simp(disch:=first|omega|exact PairsOK.mk rfl|(simp only[lenW]<;>omega))only[TP.s68,Qac,Qad,Qae,wW,wV,simprocAttr];refine Qay 100 (fun i:Nat=>[(1,sliN t),(8,auts l),(9,.int .i64 l.length),(10,.int .i64 i)]) (fun _=>[]) (fun i=>i<=l.length/\mkdT l t=mkdT (l.drop i) (t.drop i)) (fun i=>l.length-i) 0 0 140 (fun _:Unit=>[]) (fun _=>[]) (fun _=>mkdT l t=true) ⟨[],rfl,au0,au14,au13⟩ ⟨Nat.zero_le _,rfl⟩ ?_ ?_
 ·rintro i⟨hi,hm⟩;by_cases b:i<l.length
  ·obtain⟨x,m⟩:=Qav b;obtain⟨y,o⟩:=Qav (l:=t) (i:=i) (by omega);have d:=h x (List.mem_of_getElem? m);have g:=QdO m;have j:4<=((l.flatMap auC).drop (i*4)).length:=by rw[g];simp
   have f:i<t.length:=by omega
   have c:mkdT (l.drop i) (t.drop i)=(x.ms.contains y&&mkdT (l.drop (i+1)) (t.drop (i+1))):=by obtain⟨h1,r⟩:=List.getElem?_eq_some_iff.1 m;obtain⟨u,p⟩:=List.getElem?_eq_some_iff.1 o;rw[List.drop_eq_getElem_cons h1,List.drop_eq_getElem_cons u,r,p];rfl
   have hc:=has189 x.ms y d.wf.ms (by have:=Qbb x.n x.ms d.wf.nd d.wf.msn;have:=d.n10;omega);cases k:x.ms.contains y;·rw[k]at hc c;simp(disch:=first|omega|exact PairsOK.mk rfl|(simp only[lenW]<;>omega))only[b,f,g,j,QaW o,Qac,Qad,Qae,wW,wV,simprocAttr];refine cp hc ?_;simp(disch:=first|omega|exact PairsOK.mk rfl|(simp only[lenW]<;>omega))only[Qac,Qad,Qae,wW,wV,simprocAttr];refine⟨.inr trivial,_,rfl,?_⟩;rw[hm,c];exact Rn.same rfl
   rw[k,Bool.true_and]at c;rw[k]at hc;simp(disch:=first|omega|exact PairsOK.mk rfl|(simp only[lenW]<;>omega))only[b,f,g,j,QaW o,Qac,Qad,Qae,wW,wV,simprocAttr];refine cp hc ?_;simp(disch:=first|omega|exact PairsOK.mk rfl|(simp only[lenW]<;>omega))only[Qac,Qad,Qae,wW,wV,simprocAttr];exact⟨i+1,by omega,⟨by omega,by rw[hm,c]⟩,⟨[],rfl,au0,au14,au13⟩⟩
  have e:i=l.length:=by omega
  subst e;simp(disch:=first|omega|exact PairsOK.mk rfl|(simp only[lenW]<;>omega))only[b,Qac,Qad,Qae,wW,wV,simprocAttr];refine⟨(),by rw[hm,List.drop_eq_nil_of_le (Nat.le_refl _)];rfl,?_⟩;exact⟨[],rfl,au0,au14,au13⟩
 rintro _ hm;simp(disch:=first|omega|exact PairsOK.mk rfl|(simp only[lenW]<;>omega))only[Qac,Qad,Qae,wW,wV,simprocAttr];refine⟨.inr trivial,_,rfl,?_⟩;rw[hm];exact Rn.same rfl
def stV:Option (List Nat)->AV|some n=>.tup [sliN n,.bool true]|none=>.tup [.nilsl,.bool false]
theorem Qo3(o:Option (List Nat)):noRef (stV o)=true:=by cases o with|none=>rfl|some n=>rw[stV,noRef,noRefs,Qaa];rfl
theorem Qlm{l:List Aut}{t:List Nat}{e:Nat}{k:Nat}(h:stp l t e k=none):∀m,stp l t e (k+m)=none|0=>h|m+1=>by have:=Qlm h m;show stp l t e (k+m+1)=none;unfold stp;rw[this]
theorem QrE{l:List Nat}{i x:Nat}:(ints (nz l)).set i (.int .i64 (x:Int))=ints (nz (l.set i x)):=by simp[ints,nz,List.map_set]
theorem QqQ{l:List Aut}{i:Nat}{x:Aut}(h:l[i]?=some x):((l.map emV).drop i).head?=some (emV x):=by rw[List.head?_drop,List.getElem?_map,h];rfl
theorem step100(l:List Aut)(t:List Nat)(e:Nat)(h:∀a∈l,WfJ a)(M:0<l.length)(N:l.length<=12)(L:t.length=l.length):PSpec Tryz.prog 69 [macV l,sliN t,.int .i64 (e:Int)] (stV (stepT l t e)):=by
 refine PSpec.of_rn 64 TP.ok69 rfl (by rw[noRefs,QcU,noRefs,Qaa];rfl) (Qo3 _) ?_;have I:=Qbl l;have m:=QdG l;have A:(l.map emV).length=l.length:=List.length_map ..;have C:=clone56 t (by omega);simp(disch:=first|omega|exact PairsOK.mk rfl|(simp only[lenW]<;>omega))only[TP.s69,Qac,Qad,Qae,wW,wV,simprocAttr];refine ch (HSpec.of_O (b:=83) (by rw[noRefs,Qaa];rfl) C (by repeat(first|exact Fresh.e|exact Fresh.le (by assumption) (by omega)|refine Fresh.set ?_ (by omega) (by omega))) rfl) ?_;simp(disch:=first|omega|exact PairsOK.mk rfl|(simp only[lenW]<;>omega))only[Qac,Qad,Qae,wW,wV,simprocAttr];refine Qay 120 (fun s:Nat×List Nat=>[(1,sliN t),(2,.int .i64 (e:Int)),(3,.ptr 51 0 0),(8,.sl 60 0 0 t.length 1),(16,auts l),(17,.int .i64 l.length),(18,.int .i64 s.1)]) (fun s=>[(51,.cells 0 [auts l,sliN (evA l),.fsl (l.map emV) l.length 1]),(60,.cells 0 (ints (nz s.2)))]) (fun s=>s.1<=l.length/\s.2.length=t.length/\stp l t e s.1=some s.2) (fun s=>l.length-s.1) (0,t) 0 200 (fun n:List Nat=>[(8,.sl 60 0 0 t.length 1)]) (fun n=>[(60,.cells 0 (ints (nz n)))]) (fun n=>n.length=t.length/\stepT l t e=some n) ?_ ⟨Nat.zero_le _,rfl,rfl⟩ ?_ ?_;·refine⟨[(51,.blk 64 0),(60,.blk 83 0)],rfl,au0,?_,au13⟩;exact RB.cells rfl rfl gg (RnL.same m) (RB.cells rfl rfl gg (RnL.same (Qab _)) RB.nil)
 ·rintro⟨i,n⟩⟨hi,p,u⟩;dsimp only at hi p u⊢;by_cases g:i<l.length
  ·obtain⟨x,w⟩:=Qav g;obtain⟨y,F⟩:=Qav (l:=t) (i:=i) (by omega);have E:t.getD i 0=y:=by rw[List.getD_eq_getElem?_getD,F];rfl
   have j:=h x (List.mem_of_getElem? w);have k:=QdO w;have r:4<=((l.flatMap auC).drop (i*4)).length:=by rw[k];simp
   have c:i<t.length:=by omega
   have B:i+1<=n.length:=by omega
   have hc:=has189 x.al e j.wf.al (by have:=Qll j.wf;omega);have b:stp l t e (i+1)=if e∈x.al then(match stepA x.es y e with|some to=>some (n.set i to)|none=>none)else some n:=by unfold stp;rw[u,w,E];try rfl
   by_cases v:e∈x.al
   ·rw[List.contains_iff_mem.2 v]at hc;rw[if_pos v]at b;simp(disch:=first|omega|exact PairsOK.mk rfl|(simp only[lenW]<;>omega))only[g,c,k,r,Qac,Qad,Qae,wW,wV,simprocAttr]
    refine cp hc ?_;simp(disch:=first|omega|exact PairsOK.mk rfl|(simp only[lenW]<;>omega))only[g,c,QqQ w,QaW F,A,Qac,Qad,Qae,wW,wV,simprocAttr];cases f:stepA x.es y e with|none=>
     rw[f]at b;have hk:(y,e)∉x.es.map pE:=fun hm=>by obtain⟨d,H,o⟩:=List.mem_map.1 hm;have G:=Qho j.wf.es H;unfold pE at o;simp only[Prod.mk.injEq]at o;rw[o.1,o.2,f]at G;cases G
     have q:stepT l t e=none:=by have:=Qlm b (l.length-(i+1));rwa[show i+1+(l.length-(i+1))=l.length by omega]at this
     refine QjX (c:=kP) (f:=vE x.es) (x:=(y,e)) (l:=x.es.map pE) Qk2 hk ?_;simp(disch:=first|omega|exact PairsOK.mk rfl|(simp only[lenW]<;>omega))only[Qac,Qad,Qae,wW,wV,simprocAttr];refine⟨.inr trivial,_,rfl,?_⟩;rw[q];exact Rn.same rfl|some to=>
     rw[f]at b;have K:vE x.es (y,e)=.int .i64 (to:Int):=by unfold vE;rw[f];rfl
     refine QfT (c:=kP) (f:=vE x.es) (x:=(y,e)) (l:=x.es.map pE) Qk2 (QoY f) ?_;rw[K];simp(disch:=first|omega|exact PairsOK.mk rfl|(simp only[lenW]<;>omega))only[c,B,QrE,Qac,Qad,Qae,wW,wV,simprocAttr];refine⟨(i+1,n.set i to),by dsimp only;omega,⟨by dsimp only;omega,by rw[List.length_set];exact p,b⟩,?_⟩;refine⟨[(51,.blk 51 0),(60,.blk 60 0)],rfl,au0,?_,au13⟩;exact RB.cells rfl rfl gg (RnL.same m) (RB.cells rfl rfl gg (RnL.same (Qab _)) RB.nil)
   rw[show x.al.contains e=false by rw[Bool.eq_false_iff];exact fun J=>v (List.contains_iff_mem.1 J)]at hc;rw[if_neg v]at b;simp(disch:=first|omega|exact PairsOK.mk rfl|(simp only[lenW]<;>omega))only[g,c,k,r,Qac,Qad,Qae,wW,wV,simprocAttr];refine cp hc ?_;simp(disch:=first|omega|exact PairsOK.mk rfl|(simp only[lenW]<;>omega))only[Qac,Qad,Qae,wW,wV,simprocAttr];refine⟨(i+1,n),by dsimp only;omega,⟨by dsimp only;omega,p,b⟩,?_⟩;refine⟨[(51,.blk 51 0),(60,.blk 60 0)],rfl,au0,?_,au13⟩;exact RB.cells rfl rfl gg (RnL.same m) (RB.cells rfl rfl gg (RnL.same (Qab _)) RB.nil)
  have o:i=l.length:=by omega
  subst o;simp(disch:=first|omega|exact PairsOK.mk rfl|(simp only[lenW]<;>omega))only[g,Qac,Qad,Qae,wW,wV,simprocAttr];refine⟨n,⟨p,u⟩,?_⟩;refine⟨[(60,.blk 60 0)],rfl,au0,?_,au13⟩;exact RB.cells rfl rfl gg (RnL.same (Qab _)) RB.nil
 rintro n⟨p,u⟩;simp(disch:=first|omega|exact PairsOK.mk rfl|(simp only[lenW]<;>omega))only[Qac,Qad,Qae,wW,wV,simprocAttr];refine⟨.inr trivial,_,rfl,?_⟩;rw[u];refine Rn.tup (RnL.cons ?_ (RnL.same rfl));rw[<-p];exact Rn.fz0 gg (by simp[ints]) (RnL.same (Qab _))
end Go.AM.SO
namespace Go.AM.TK
open Go.Proofs
set_option maxHeartbeats 4000000
noncomputable section
def cf:YA.Cf:={}
noncomputable def ft:FT2:=YA.tre Tryz.prog cf 20 [38,42,67,73,76,77,103,106,118,144]
theorem ft_ok:ft.OK Tryz.prog:=YA.QeC _ _ (YA.Qd6 (by kernel_rfl))
end
end Go.AM.TK
namespace Go.AM.SO
open Go.Proofs Go.AM.SD
noncomputable section
def keyT(t:List Nat):List UInt8:=t.flatMap fun x=>[UInt8.ofNat (48+x),32]
theorem Qln:∀{s t:List Nat},s.length=t.length->(∀x∈s,x<10)->(∀x∈t,x<10)->keyT s=keyT t->s=t
 |[],[],_,_,_,_=>rfl|x::s,y::t,d,b,c,h=>by
  have g:keyT (x::s)=UInt8.ofNat (48+x)::32::keyT s:=rfl;have f:keyT (y::t)=UInt8.ofNat (48+y)::32::keyT t:=rfl;rw[g,f]at h;simp only[List.cons.injEq,true_and]at h;have j:=b x (by simp);have i:=c y (by simp);have h1:x=y:=by have:=congrArg UInt8.toNat h.1;grind[UInt8.toNat_ofNat']
  subst h1;rw[Qln (by simpa using d) (fun z a=>b z (by simp[a])) (fun z a=>c z (by simp[a])) h.2]
end
end Go.AM.SO
