/- Lemmas on the way to ExplainEventsCardSaid. Conditions: none of ours. -/
import Derived.Shelf.Slices.Reverse
import Derived.KernelRfl
import Derived.Test.YtgfnbkngfedlkaaGreatDoorProg
import Derived.Test.YtgfnbkngfedlkaaGreatDoorAmW17
set_option linter.unusedSectionVars false
set_option maxHeartbeats 32000000
set_option maxRecDepth 100000
set_option linter.unusedVariables false
set_option linter.unusedSimpArgs false
set_option linter.unusedSectionVars false
namespace Go.AM
open Go.Proofs Go.Shelf Go.Sort
variable{P:Program}{ρ:Ren}
theorem HSpec.revI{f b γ:Nat}(L:Lays.n112 P ρ)(hf:ρ.f 112=f)(d:Callable P f)(l:List Int)(m:l.length<=9223372036854775807){h:Heap}(k:h.get b=some (.cells γ (l.map (AV.int .i64))))(g:b<1099511627775):HSpec P f [.sl b γ 0 l.length 1] h (.tup []) (h.set b (.cells γ (l.reverse.map (AV.int .i64)))):=by subst hf;refine HSpec.rowI d l _ (by simp) _ (fun _ _=>.tuple #[]) (fun _ a cap w=>Any.slices_Reverse_int_empty L a cap w) (fun _ i off cap w hH hblk _=>(Any.slices_Reverse_int L i off cap l w hH m).mono fun e r h=>⟨h.1,?_⟩) (fun _ _ c w a cap _=>by simp[VRel,VRels]) (fun c w s base cap C e p _ _ _ _=>by simp[VRel,VRels]) k g;obtain⟨_,q,o⟩:=h;refine⟨q,#[],?_⟩;rw[o,grow_empty]
end Go.AM
namespace Go.Proofs
open Go.Shelf
def Tryz.QsR:Go.Shelf.Ren:=⟨fun|112=>220|n=>n,fun|28=>30|3=>3|4=>4|0=>0|n=>n,fun|n=>n⟩
theorem Tryz.revI:Go.Proofs.Lays.n112 Tryz.prog Tryz.QsR:={
 mixed:=by kernel_rfl
 f112:=Tryz.func220.trans (congrArg some (by kernel_rfl))
 t0:=Tryz.underlying0
 a0:=Tryz.isAgg0
 z0:=Tryz.sizeOf0
 v0:=Tryz.zeroValue0
 t3:=Tryz.underlying3
 a3:=Tryz.isAgg3
 z3:=Tryz.sizeOf3
 v3:=Tryz.zeroValue3
 t4:=Tryz.underlying4
 a4:=Tryz.isAgg4
 z4:=Tryz.sizeOf4
 v4:=Tryz.zeroValue4
 t28:=Tryz.underlying30
 a28:=Tryz.isAgg30
 z28:=Tryz.sizeOf30
 v28:=Tryz.zeroValue30}
end Go.Proofs
namespace Go.AM.SO
open Go.Proofs Go.AM.SD Go.AM.SE
theorem call220:Callable Tryz.prog 220:=⟨_,Tryz.func220,by kernel_rfl,by kernel_rfl⟩
theorem Qvh(l:List Nat):(nz l).reverse=nz l.reverse:=by simp[nz]
theorem rev220{b:Nat}(l:List Nat)(f:l.length<=1000000){h:Heap}(d:h.get b=some (.cells 0 (ints (nz l))))(a:b<1099511627775):HSpec Tryz.prog 220 [.sl b 0 0 l.length 1] h (.tup []) (h.set b (.cells 0 (ints (nz l.reverse)))):=by
 have c:(nz l).length=l.length:=by simp[nz]
 have:=HSpec.revI Tryz.revI rfl call220 (nz l) (by omega) (b:=b) (γ:=0) (h:=h) d a;rw[c,Qvh]at this;exact this
end Go.AM.SO
namespace Go.AM.SO
open Go.Proofs Go.AM.SD Go.AM.SE
abbrev stdY(c:Cel)(p q:Aut)(TA TB:List (List Nat))(X:List Nat)(F:List (Nat×Int×Int×Int))(r:Res)(u:List Nat):List AV:=stdX c p q (tuV TA) (tuV TB) (sliN X) (rss F) r (remM r.rem) (sliN u)
theorem Qc2(F:List (Nat×Int×Int×Int)):noRef (rss F)=true:=by rw[noRef];exact Qbj _
theorem nrY{c:Cel}{p q:Aut}{TA TB:List (List Nat)}{X:List Nat}{F:List (Nat×Int×Int×Int)}{r:Res}{u:List Nat}:noRefs (stdY c p q TA TB X F r u)=true:=Qh2 (Qe8 (Qa8 _) (Qa8 _) (Qae _) (Qc2 _)) (Qju _) (Qae _)
theorem nrY1{c:Cel}{p q:Aut}{TA TB:List (List Nat)}{X:List Nat}{F:List (Nat×Int×Int×Int)}{r:Res}{u:List Nat}:noRef (.fptr (stdY c p q TA TB X F r u))=true:=by rw[noRef];exact nrY
theorem Qde(c:Cel):stdC c=stdY c (plA c) (spQ c) (spA c (sync0 (allA c)).1) (spB c (sync0 (allA c)).1) (spP c (sync0 (auL c.cs)).1 (sync0 (allA c)).1) (forb c (sync0 (allA c)).1.length) (resC c) (uncL c.ev 5):=rfl
theorem Qha{R:List Rm}{s:Nat}:remAt R s=none↔s∉R.map (·.st):=by
 unfold remAt;rw[Za6,Zan];constructor;·rintro h⟨x,a,rfl⟩;exact h x a (by simp)
 intro h x a e;exact h ⟨x,a,by simpa using e⟩
theorem QrF{R:List Rm}{s:Nat}{x:Rm}(h:remAt R s=some x):rmF R s=.agg (rmC x):=by rw[rmF,h];rfl
theorem QrG{R:List Rm}{s:Nat}{x:Rm}(h:remAt R s=some x):s∈R.map (·.st):=by rw[<-Decidable.not_not (p:=s∈_),<-Qha,h];simp
abbrev rmV(x:Rm):AV:=.agg [.int .i64 (x.st:Int),.int .i64 x.rank,.int .i64 (x.reason:Int),.int .i64 x.ev]
section
variable{P:Program}{N:NM}{n:Nat}{d:Option Nat}{dead:List Nat}{ops:List SOper}{T:Tmps}{h:Heap}{Q:QC}{fs:List Fr}
theorem QnV{R:List Rm}{s:Nat}(hk:wR P N ops dead fs (n+1) (putD T d (rmV (rmD R s))) h Q):wM P N (aLookup false [.i] (.agg [.int .i64 0,.int .i64 0,.int .i64 0,.int .i64 0]) false (remM R) (.int .i64 (s:Int))) d ops dead fs n T h Q:=by cases hm:remAt R s with|none=>refine Qd1 (c:=kI) (f:=rmF R) (x:=s) (l:=R.map (·.st)) Qck (Qha.1 hm) ?_;unfold rmD at hk;rw[hm]at hk;exact hk|some x=>refine Qda (c:=kI) (f:=rmF R) (x:=s) (l:=R.map (·.st)) Qck (QrG hm) ?_;unfold rmD at hk;rw[hm]at hk;rw[QrF hm];exact hk
theorem Qhb{R:List Rm}{s:Nat}(hk:wR P N ops dead fs (n+1) (putD T d (.tup [rmV (rmD R s),.bool (remAt R s).isSome])) h Q):wM P N (aLookup false [.i] (.agg [.int .i64 0,.int .i64 0,.int .i64 0,.int .i64 0]) true (remM R) (.int .i64 (s:Int))) d ops dead fs n T h Q:=by cases hm:remAt R s with|none=>refine Qd1 (c:=kI) (f:=rmF R) (x:=s) (l:=R.map (·.st)) Qck (Qha.1 hm) ?_;unfold rmD at hk;rw[hm]at hk;exact hk|some x=>refine Qda (c:=kI) (f:=rmF R) (x:=s) (l:=R.map (·.st)) Qck (QrG hm) ?_;unfold rmD at hk;rw[hm]at hk;rw[QrF hm];exact hk
end
theorem kept81{c:Cel}{p q:Aut}{TA TB:List (List Nat)}{X:List Nat}{F:List (Nat×Int×Int×Int)}{r:Res}{u:List Nat}(s:Nat):Pq 81 [.fptr (stdY c p q TA TB X F r u),.int .i64 (s:Int)] (.bool (remAt r.rem s).isNone):=by refine Zcu 64 XA.ok81 rfl (by rw[noRefs,nrY1];rfl) rfl ?_;unfold XA.s81;refine ZcV ?_;refine Qhb ?_;cases remAt r.rem s with|none=>refine ZcV ?_;exact⟨.inr trivial,_,rfl,rfl⟩|some x=>refine ZcV ?_;exact⟨.inr trivial,_,rfl,rfl⟩
def vsC(v:Vs):List AV:=[.int .i64 (v.st:Int),.int .i64 v.bf,.int .i64 (v.ev:Int)]
theorem Qo2{l:List Vs}{i:Nat}{v:Vs}(h:l[i]?=some v):(l.flatMap vsC).drop (i*3)=.int .i64 (v.st:Int)::.int .i64 v.bf::.int .i64 (v.ev:Int)::(l.drop (i+1)).flatMap vsC:=Qa7 (f:=vsC) (k:=3) (fun _=>rfl) h
theorem vs_at{l:List Vs}{i:Nat}{v:Vs}(h:l[i]?=some v):(l.flatMap vsC)[i*3]?=some (.int .i64 (v.st:Int))/\(l.flatMap vsC)[i*3+1]?=some (.int .i64 v.bf)/\(l.flatMap vsC)[i*3+2]?=some (.int .i64 (v.ev:Int)):=by
 have a:=Qo2 h;refine⟨?_,?_,?_⟩;·have :=congrArg (fun L:List AV=>L[0]?) a;simpa using this
 ·have :=congrArg (fun L:List AV=>L[1]?) a;simpa using this
 have :=congrArg (fun L:List AV=>L[2]?) a;simpa using this
theorem Qvi(l:List Vs):(l.flatMap vsC).length=l.length*3:=Qa9 (k:=3) (fun _=>rfl) l
theorem Qbp(l:List Vs):noRefs (l.flatMap vsC)=true:=Qa1 (fun x=>rfl) l
abbrev seenM(l:List Vs):List (AV×AV):=mapG kI (fun _=>.bool true) (l.map (·.st))
theorem QiC{l:List Vs}{v:Vs}:mapG kI (updG (fun _=>AV.bool true) v.st (.bool true)) (l.map (·.st)++[v.st])=seenM (l++[v]):=by
 have:updG (fun _:Nat=>AV.bool true) v.st (.bool true)=fun _=>.bool true:=by funext y;unfold updG;split<;>rfl
 rw[this,seenM,ZaK];rfl
theorem Qb6{m:Nat}{π:Nat->Option Src}{h:Heap}(l:List Vs):RnM m π h (seenM l) (seenM l):=ZcQ fun z _=>⟨rfl,rfl⟩
theorem Qj3{a:Aut}{i k:Nat}{v w:Vs}{es:List Nat}{l:List Vs}(h:l[k]?=some w):(extL a i v l es)[k]?=some w:=by induction es generalizing l with|nil=>exact h|cons e es b=>obtain⟨r,c⟩:=QsP (a:=a) (i:=i) (v:=v) (l:=l) (e:=e);exact b (by rw[c];exact Qho h)
theorem Qlq{a:Aut}{i j e:Nat}{v:Vs}{es:List Nat}{l:List Vs}(h:es[j]?=some e):extL a i v l (es.take (j+1))=ext1 a i v (extL a i v l (es.take j)) e:=by unfold extL;rw[take_succ' h,Za4];rfl
theorem Qlr{R:List Rm}{s:Nat}{x:Rm}(h:remAt R s=some x):badS R s=!Nat.beq x.reason 2:=by unfold badS;rw[h]
theorem badEnd145{c:Cel}{p q:Aut}{TA TB:List (List Nat)}{X:List Nat}{F:List (Nat×Int×Int×Int)}{r:Res}{u:List Nat}(hw:WfA q)(hu:u.Pairwise (·<·))(hul:u.length<=1000000){s:Nat}(hs:s<q.n){rn:List Nat}{t:Nat}(Q:bres q u r.rem s=some (rn,t)):Pq 145 [.fptr (stdY c p q TA TB X F r u),.int .i64 (s:Int)] (.tup [sliN rn,.int .i64 (t:Int)]):=by
 have o:=@nrY1 c p q TA TB X F r u;refine Zct 64 XA.ok145 rfl (by rw[noRefs,o];rfl) (by simp only[noRef,noRefs,Qad];rfl) ?_;have hn:=hw.n5;have hE:=fun v h=>enabled161 q v hw h;have hI:=fun A hA=>inter109 A u hA hul;have hM:=fun v=>QtU hw hu v;have hT:=fun v e h he=>step208 q v e hw h he;have V:∀l:List Vs,l.length<=q.n->(l.flatMap vsC).length=l.length*3:=fun l _=>Qvi l;unfold XA.s145;refine ZcV ?_;refine Qbs (c:=kI) (f:=fun _=>.bool true) (x:=s) (l:=[]) (v:=.bool true) (g:=0) gg Qck (by simp) (by omega) ?_;rw[show mapG kI (updG (fun _=>AV.bool true) s (.bool true)) ([]++[s])=seenM [v0 s]from QiC (l:=[]) (v:=v0 s)];refine ZcV ?_;refine QaL 100 (fun z:Nat×List Vs=>[(0,.fptr (stdY c p q TA TB X F r u)),(4,.nilsl),(6,.sl 60 0 0 z.2.length 3),(7,.map 61 0),(8,.int .i64 (z.1:Int))]) (fun z=>[(60,.cells 0 (z.2.flatMap vsC)),(61,.map 0 (seenM z.2))]) (fun z=>LOk q.n z.2/\∃k,bgo q u r.rem k z.1 z.2=some (rn,t)) (fun z=>q.n+1-z.1) (0,[v0 s]) ?_ ⟨LOk.one hs,_,Q⟩ ?_;·exact⟨[(60,.blk 68 0),(61,.blk 69 0)],rfl,Zcx,ZcB rfl rfl gg (Zcr rfl) (ZcD rfl rfl gg (Qb6 [v0 s]) ZcA),Zcz (Zcq o) au29⟩
 rintro⟨i,l⟩⟨Z,k,hk⟩;dsimp only at*;obtain⟨k',rfl⟩:∃k',k=k'+1:=by cases k with|zero=>cases hk|succ k=>exact⟨k,rfl⟩
 rw[bgo]at hk;cases h:l[i]? with|none=>rw[h]at hk;cases hk|some v=>
 rw[h]at hk;dsimp only at hk;have H:=(Zag.1 h).1;have hdr:=Qo2 h;have hdl:3<=((l.flatMap vsC).drop (i*3)).length:=by rw[hdr];simp
 have R:=Z.st v (Zae h);have hll:=Z.len;have hcl:=V l hll;obtain⟨M,hg1,hg2⟩:=vs_at h;refine ZcW H ?_;refine Qbr [(35,[])] rfl rfl ?_;refine ZcW (Zc1 H M) ?_;refine Qhb ?_;by_cases a:badS r.rem v.st=true;·rw[if_pos a]at hk;cases hk;unfold badS at a;cases Y:remAt r.rem v.st with|none=>rw[Y]at a;cases a|some z=>
  rw[Y]at a;replace a:(!Nat.beq z.reason 2)=true:=a;have h2:¬(z.reason:Int)=2:=fun e=>by rw[show z.reason=2 by omega]at a;exact absurd a (by decide)
  have hD:rmD r.rem v.st=z:=by unfold rmD;rw[Y];rfl
  rw[hD];dsimp only[Option.isSome_some];refine ZcW h2 ?_;refine⟨⟨⟨_,rfl,fun b Q=>Q⟩,trivial⟩,?_⟩;refine Qaq 160 (fun y:Nat×List Nat=>[(4,.sl 62 0 0 y.2.length 1),(6,.sl 60 0 0 l.length 3),(8,.int .i64 (i:Int)),(11,.int .i64 (y.1:Int))]) (fun y=>[(60,.cells 0 (l.flatMap vsC)),(62,.cells 0 (ints (nz y.2)))]) (fun y=>∃w,l[y.1]?=some w/\w.run++y.2.reverse=v.run/\y.2.length+y.1<=i) (fun y=>y.1) (i,[]) 2 220 (fun _:Unit=>[(4,.sl 62 0 0 v.run.reverse.length 1),(6,.sl 60 0 0 l.length 3),(8,.int .i64 (i:Int))]) (fun _=>[(60,.cells 0 (l.flatMap vsC)),(62,.cells 0 (ints (nz v.run.reverse)))]) (fun _=>True) ?_ ⟨v,h,by simp,by simp⟩ ?_ ?_;·exact⟨[(60,.blk 60 0),(62,.nil)],rfl,Zcx,ZcB rfl rfl gg (Zcr (Qbp _)) (ZcC rfl rfl ZcA),au29⟩
  ·rintro⟨k,rr⟩⟨w,K,S,hkl⟩;dsimp only at K S hkl⊢;have P:=(Zag.1 K).1;obtain⟨hw0,N,hw2⟩:=vs_at K;have hc1:(ints (nz rr)).length=rr.length:=by simp[ints]
   rcases Z.bf k w K with⟨b1,b2⟩|⟨b,z',b1,b2,b3,b4⟩
   ·rw[b1]at N;have hrv:rr=v.run.reverse:=by rw[<-S,b2];simp
    refine ZcW (Zc1 P N) ?_;refine⟨(),?_⟩;rw[hrv];exact⟨[(60,.blk 60 0),(62,.blk 62 0)],rfl,Zcx,ZcB rfl rfl gg (Zcr (Qbp _)) (ZcB rfl rfl gg (Zcr (Qad _)) ZcA),au29⟩
   rw[b1]at N;have hb0:(0:Int)<=(b:Int):=by omega
   refine ZcW (Zc4 P N hw2 hb0 hc1) ?_;refine⟨(b,rr++[w.ev]),by dsimp only;omega,⟨z',b3,by dsimp only;rw[<-S,b4];simp,by dsimp only;rw[List.length_append,List.length_singleton];omega⟩,?_⟩;dsimp only;rw[QaF,Qay,Zaf];exact⟨[(60,.blk 60 0),(62,.blk 62 1)],rfl,Zcx,ZcB rfl rfl gg (Zcr (Qbp _)) (ZcB rfl rfl gg (Zcr (SU.Qav (Qad _) rfl)) ZcA),au29⟩
  rintro _ _;have hrl:v.run.reverse.length<=1000000:=by
   have:∀(j:Nat)w,l[j]?=some w->w.run.length<=j:=by intro j;induction j using Nat.strongRecOn with|_ j ih=>
    intro w hw;rcases Z.bf j w hw with⟨_,b2⟩|⟨b,z',_,b2,b3,b4⟩;·rw[b2];simp
    have :=ih b b2 z' b3;rw[b4,Zaf,Zbk];omega
   have:=this i v h;rw[List.length_reverse];omega
  have hR:=rev220 (b:=62) v.run.reverse hrl (h:=hp [(60,.cells 0 (l.flatMap vsC)),(62,.cells 0 (ints (nz v.run.reverse)))]) gg (by omega);refine ZcV ?_;refine ch hR ?_;rw[List.reverse_reverse];refine ZcW (Zc1 H M) ?_;refine⟨.inr trivial,_,rfl,Rn.tup (ZcH ?_ (Zcr rfl))⟩;rw[List.length_reverse];exact Rn.fz0 (b:=62) rfl (by simp[ints]) (Zcr (Qad _))
 rw[if_neg a]at hk;have hol:(evO q v.st).length<=1000000:=by rw[Qnc hw];have:=Qb4 hw;exact Zaw (ZaI ..) (by omega)
 have m:=Qae (ucE q u v.st);have hEv:=fun(e:Nat)(he:e∈ucE q u v.st)=>QsQ he;have hEl:(ucE q u v.st).length<=1000000:=by have:=Qb4 hw;exact Zaw (ZaI ..) (by omega)
 have L:=fun j=>Z.exts (a:=q) (i:=i) (v:=v) (es:=(ucE q u v.st).take j) h fun e he=>Qjq hw (ZaQ he);have hMv:=hM v.st;have T:=hI _ hol;rw[hMv]at T;have hEn:=hE v.st R;clear hE hI hM hMv;generalize ucE q u v.st=E at*;generalize evO q v.st=O at*;cases Y:remAt r.rem v.st with|none=>
  dsimp only[Option.isSome_none];refine ZcV ?_;refine⟨⟨⟨_,rfl,fun b Q=>Q⟩,trivial⟩,?_⟩;refine ZcW (Zc1 H M) ?_;refine cp hEn ?_;refine ZcV ?_;refine cp T ?_;refine ZcV ?_;refine Qaq 160 (fun j:Nat=>[(0,.fptr (stdY c p q TA TB X F r u)),(4,.nilsl),(6,.sl 60 0 0 (extL q i v l (E.take j)).length 3),(7,.map 61 0),(8,.int .i64 (i:Int)),(97,sliN E),(98,.int .i64 E.length),(99,.int .i64 j)]) (fun j=>[(60,.cells 0 ((extL q i v l (E.take j)).flatMap vsC)),(61,.map 0 (seenM (extL q i v l (E.take j))))]) (fun j=>j<=E.length) (fun j=>E.length-j) 0 4 300 (fun _:Unit=>[(0,.fptr (stdY c p q TA TB X F r u)),(4,.nilsl),(6,.sl 60 0 0 (extL q i v l E).length 3),(7,.map 61 0),(8,.int .i64 (i:Int))]) (fun _=>[(60,.cells 0 ((extL q i v l E).flatMap vsC)),(61,.map 0 (seenM (extL q i v l E)))]) (fun _=>True) ?_ (Zah _) ?_ ?_;·exact⟨[(60,.blk 60 0),(61,.blk 61 0)],rfl,Zcx,ZcB rfl rfl gg (Zcr (Qbp _)) (ZcD rfl rfl gg (Qb6 l) ZcA),Zcz (Zcq o) (Zcz (Zcq rfl) (Zcz (Rn.x1 rfl rfl) (Zcz (Rn.x3 rfl rfl) (Zcz (Zcq rfl) (Zcz (Zcq m) au29)))))⟩
  ·rintro j hj;by_cases g:j<E.length
   ·obtain⟨e,he⟩:=Qap g;have U:=Zae he;obtain⟨e1,e2,e3⟩:=hEv e U;have f:=hT v.st e R e3;rw[e1]at f;dsimp only[Option.getD_some,Option.isSome_some]at f;have C:(extL q i v l (E.take j))[i]?=some v:=Qj3 h;obtain⟨J,_⟩:=L j;have B:=Qlq (a:=q) (i:=i) (v:=v) (l:=l) he;generalize extL q i v l (E.take j)=d at*;have I:=(Zag.1 C).1;obtain⟨G,_,_⟩:=vs_at C;have x:=V d J.len;have hl'l:=J.len;refine ZcW (Zc3 g I G (Qaz he)) ?_;refine cp f ?_;refine ZcV ?_;by_cases hm:toA q v.st e∈d.map (·.st);·refine QdK (c:=kI) (f:=fun _=>.bool true) (x:=toA q v.st e) (l:=d.map (·.st)) (g:=0) gg Qck hm ?_;refine ZcV ?_;refine⟨j+1,by omega,by omega,?_⟩;rw[B];unfold ext1;rw[if_pos hm];exact⟨[(60,.blk 60 0),(61,.blk 61 0)],rfl,Zcx,ZcB rfl rfl gg (Zcr (Qbp _)) (ZcD rfl rfl gg (Qb6 d) ZcA),Zcz (Zcq o) (Zcz (Zcq rfl) (Zcz (Rn.x1 rfl rfl) (Zcz (Rn.x3 rfl rfl) (Zcz (Zcq rfl) (Zcz (Zcq m) au29)))))⟩
    refine Qb3 (c:=kI) (f:=fun _=>.bool true) (x:=toA q v.st e) (l:=d.map (·.st)) (g:=0) gg Qck hm ?_;refine ZcW x ?_;refine Qbs (c:=kI) (f:=fun _=>.bool true) (x:=toA q v.st e) (l:=d.map (·.st)) (v:=.bool true) (g:=0) gg Qck hm (by omega) ?_;rw[show mapG kI (updG (fun _=>AV.bool true) (toA q v.st e) (.bool true)) (d.map (·.st)++[toA q v.st e])=seenM (d++[⟨toA q v.st e,i,e,v.run++[e]⟩])from QiC (l:=d) (v:=⟨toA q v.st e,i,e,v.run++[e]⟩)];refine ZcV ?_;refine⟨j+1,by omega,by omega,?_⟩;rw[B];unfold ext1;rw[if_neg hm,Zaq,Zaf];exact⟨[(60,.blk 60 1),(61,.blk 61 0)],rfl,Zcx,ZcB rfl rfl gg (Zcr (SU.Qav (Qbp _) rfl)) (ZcD rfl rfl gg (Qb6 _) ZcA),Zcz (Zcq o) (Zcz (Zcq rfl) (Zcz (Rn.x1 rfl rfl) (Zcz (Rn.x3 rfl rfl) (Zcz (Zcq rfl) (Zcz (Zcq m) au29)))))⟩
   have e:j=E.length:=by omega
   subst e;refine ZcY g ?_;exact⟨(),[(60,.blk 60 0),(61,.blk 61 0)],rfl,Zcx,ZcB rfl rfl gg (Zcr (Qbp _)) (ZcD rfl rfl gg (Qb6 _) ZcA),Zcz (Zcq o) (Zcz (Zcq rfl) (Zcz (Rn.x1 rfl rfl) (Zcz (Rn.x3 rfl rfl) (Zcz (Zcq rfl) Zcy))))⟩
  rintro _ _;refine ZcV ?_;have hle:=L E.length;rw[Zar]at hle;refine⟨(i+1,extL q i v l E),by dsimp only;have:=hle.1.len;omega,⟨hle.1,_,hk⟩,?_⟩;exact⟨[(60,.blk 60 0),(61,.blk 61 0)],rfl,Zcx,ZcB rfl rfl gg (Zcr (Qbp _)) (ZcD rfl rfl gg (Qb6 _) ZcA),Zcz (Zcq o) (Zcz (Zcq rfl) (Zcz (Rn.x1 rfl rfl) (Zcz (Rn.x3 rfl rfl) au29)))⟩|some z=>
  have hD:rmD r.rem v.st=z:=by unfold rmD;rw[Y];rfl
  have h2:(z.reason:Int)=2:=by
   rw[Qlr Y]at a;have:z.reason=2:=by simpa using a
   omega
  rw[hD];dsimp only[Option.isSome_some];refine ZcW h2 ?_;refine⟨⟨⟨_,rfl,fun b Q=>Q⟩,trivial⟩,?_⟩;refine ZcW (Zc1 H M) ?_;refine cp hEn ?_;refine ZcV ?_;refine cp T ?_;refine ZcV ?_;refine Qaq 160 (fun j:Nat=>[(0,.fptr (stdY c p q TA TB X F r u)),(4,.nilsl),(6,.sl 60 0 0 (extL q i v l (E.take j)).length 3),(7,.map 61 0),(8,.int .i64 (i:Int)),(97,sliN E),(98,.int .i64 E.length),(99,.int .i64 j)]) (fun j=>[(60,.cells 0 ((extL q i v l (E.take j)).flatMap vsC)),(61,.map 0 (seenM (extL q i v l (E.take j))))]) (fun j=>j<=E.length) (fun j=>E.length-j) 0 4 300 (fun _:Unit=>[(0,.fptr (stdY c p q TA TB X F r u)),(4,.nilsl),(6,.sl 60 0 0 (extL q i v l E).length 3),(7,.map 61 0),(8,.int .i64 (i:Int))]) (fun _=>[(60,.cells 0 ((extL q i v l E).flatMap vsC)),(61,.map 0 (seenM (extL q i v l E)))]) (fun _=>True) ?_ (Zah _) ?_ ?_;·exact⟨[(60,.blk 60 0),(61,.blk 61 0)],rfl,Zcx,ZcB rfl rfl gg (Zcr (Qbp _)) (ZcD rfl rfl gg (Qb6 l) ZcA),Zcz (Zcq o) (Zcz (Zcq rfl) (Zcz (Rn.x1 rfl rfl) (Zcz (Rn.x3 rfl rfl) (Zcz (Zcq rfl) (Zcz (Zcq m) au29)))))⟩
  ·rintro j hj;by_cases g:j<E.length
   ·obtain⟨e,he⟩:=Qap g;have U:=Zae he;obtain⟨e1,e2,e3⟩:=hEv e U;have f:=hT v.st e R e3;rw[e1]at f;dsimp only[Option.getD_some,Option.isSome_some]at f;have C:(extL q i v l (E.take j))[i]?=some v:=Qj3 h;obtain⟨J,_⟩:=L j;have B:=Qlq (a:=q) (i:=i) (v:=v) (l:=l) he;generalize extL q i v l (E.take j)=d at*;have I:=(Zag.1 C).1;obtain⟨G,_,_⟩:=vs_at C;have x:=V d J.len;have hl'l:=J.len;refine ZcW (Zc3 g I G (Qaz he)) ?_;refine cp f ?_;refine ZcV ?_;by_cases hm:toA q v.st e∈d.map (·.st);·refine QdK (c:=kI) (f:=fun _=>.bool true) (x:=toA q v.st e) (l:=d.map (·.st)) (g:=0) gg Qck hm ?_;refine ZcV ?_;refine⟨j+1,by omega,by omega,?_⟩;rw[B];unfold ext1;rw[if_pos hm];exact⟨[(60,.blk 60 0),(61,.blk 61 0)],rfl,Zcx,ZcB rfl rfl gg (Zcr (Qbp _)) (ZcD rfl rfl gg (Qb6 d) ZcA),Zcz (Zcq o) (Zcz (Zcq rfl) (Zcz (Rn.x1 rfl rfl) (Zcz (Rn.x3 rfl rfl) (Zcz (Zcq rfl) (Zcz (Zcq m) au29)))))⟩
    refine Qb3 (c:=kI) (f:=fun _=>.bool true) (x:=toA q v.st e) (l:=d.map (·.st)) (g:=0) gg Qck hm ?_;refine ZcW x ?_;refine Qbs (c:=kI) (f:=fun _=>.bool true) (x:=toA q v.st e) (l:=d.map (·.st)) (v:=.bool true) (g:=0) gg Qck hm (by omega) ?_;rw[show mapG kI (updG (fun _=>AV.bool true) (toA q v.st e) (.bool true)) (d.map (·.st)++[toA q v.st e])=seenM (d++[⟨toA q v.st e,i,e,v.run++[e]⟩])from QiC (l:=d) (v:=⟨toA q v.st e,i,e,v.run++[e]⟩)];refine ZcV ?_;refine⟨j+1,by omega,by omega,?_⟩;rw[B];unfold ext1;rw[if_neg hm,Zaq,Zaf];exact⟨[(60,.blk 60 1),(61,.blk 61 0)],rfl,Zcx,ZcB rfl rfl gg (Zcr (SU.Qav (Qbp _) rfl)) (ZcD rfl rfl gg (Qb6 _) ZcA),Zcz (Zcq o) (Zcz (Zcq rfl) (Zcz (Rn.x1 rfl rfl) (Zcz (Rn.x3 rfl rfl) (Zcz (Zcq rfl) (Zcz (Zcq m) au29)))))⟩
   have e:j=E.length:=by omega
   subst e;refine ZcY g ?_;exact⟨(),[(60,.blk 60 0),(61,.blk 61 0)],rfl,Zcx,ZcB rfl rfl gg (Zcr (Qbp _)) (ZcD rfl rfl gg (Qb6 _) ZcA),Zcz (Zcq o) (Zcz (Zcq rfl) (Zcz (Rn.x1 rfl rfl) (Zcz (Rn.x3 rfl rfl) (Zcz (Zcq rfl) Zcy))))⟩
  rintro _ _;refine ZcV ?_;have hle:=L E.length;rw[Zar]at hle;refine⟨(i+1,extL q i v l E),by dsimp only;have:=hle.1.len;omega,⟨hle.1,_,hk⟩,?_⟩;exact⟨[(60,.blk 60 0),(61,.blk 61 0)],rfl,Zcx,ZcB rfl rfl gg (Zcr (Qbp _)) (ZcD rfl rfl gg (Qb6 _) ZcA),Zcz (Zcq o) (Zcz (Zcq rfl) (Zcz (Rn.x1 rfl rfl) (Zcz (Rn.x3 rfl rfl) au29)))⟩
end Go.AM.SO
namespace Go.AM.TU
open Go.Proofs
set_option maxHeartbeats 4000000
noncomputable section
def cf:YA.Cf:={most:=.pure,always:=[156,41].map fun k=>(k,.heap)}
def s40:SFn:=by
 refine(?f:YA.Yt Tryz.prog cf 40 [[0,4,5],[9,10],[11],[1,2,6,12,13],[4,5,1,2,6,12,15,16,17,14,18,19,7],[8,20]]) ?s ?h;case h=>exact YA.rr
 exact fun s _=>s
def s92:SFn:=by
 refine(?f:YA.Yt Tryz.prog cf 92 [[0,4,5],[8,9],[1,2,10],[4,5,2,10,12,13,14,11,15,16],[1,6,7,17,18,19,20,21]]) ?s ?h;case h=>exact YA.rr
 exact fun s _=>s
def s163:SFn:=by
 refine(?f:YA.Yt Tryz.prog cf 163 [[0,6,7],[],[],[14,15,16,17],[9,18,19,20,21],[22],[1,2,3,11,12,13,8,10,23,24,25],[6,7,8,10,23,26],[27],[1,2,3,11,12,13,28,29,30]]) ?s ?h;case h=>exact YA.rr
 exact fun s _=>s
theorem ok40:Kq 40 s40=true:=by kernel_rfl
theorem ok92:Kq 92 s92=true:=by kernel_rfl
theorem ok163:Kq 163 s163=true:=by kernel_rfl
end
end Go.AM.TU
namespace Go.AM.SO
open Go.Proofs Go.AM.SD Go.AM.SE
abbrev expC(x:Exp):List AV:=[.int .i64 x.kind,.int .i64 x.st,.int .i64 x.nx,.int .i64 x.req,sliN x.run,.int .i64 x.en,.int .i64 (x.rm.st:Int),.int .i64 x.rm.rank,.int .i64 (x.rm.reason:Int),.int .i64 x.rm.ev,.int .i64 (x.rs.1:Int),.int .i64 x.rs.2.1,.int .i64 x.rs.2.2.1,.int .i64 x.rs.2.2.2]
abbrev expV(x:Exp):AV:=.agg (expC x)
theorem Qch(x:Exp):noRefs (expC x)=true:=by simp only[noRefs,noRef,Qad];rfl
theorem Qa5(x:Exp):noRef (expV x)=true:=by rw[noRef];exact Qch x
abbrev rsE(y:Nat×Int×Int×Int):AV:=.agg [.int .i64 (y.1:Int),.int .i64 y.2.1,.int .i64 y.2.2.1,.int .i64 y.2.2.2]
theorem lead147(y:Nat×Int×Int×Int)(x:Exp){t:Nat}(a:x.en=(t:Int)):Pq 147 [rsE y,.fptr (expC x)] (.bool (y.1==t)):=by refine Zcu 64 XA.ok147 rfl (by rw[noRefs,noRefs,noRef,noRef,Qch];rfl) rfl ?_;unfold XA.s147;refine ZcW a ?_;refine⟨.inr trivial,_,rfl,?_⟩;exact congrArg AV.bool (by rw[Zby];simp)
theorem index146R{K:Nat}{cap:List AV}(q:Nat×Int×Int×Int->Bool)(l:List (Nat×Int×Int×Int))(s:l.length<=1000000)(hc:noRefs cap=true)(hk:∀x∈l,Pq K (rsE x::cap) (.bool (q x))):Pq 146 [rss l,.fn K [] cap] (.int .i64 (idxQ q l)):=by
 refine Zcu 64 XA.ok146 rfl (by rw[noRefs,noRefs,Qbc hc,Qc2];rfl) rfl ?_;have c:=Qbc (K:=K) hc;have o:=Qng l;unfold XA.s146;refine ZcV ?_;refine QaL 100 (fun i:Nat=>[(0,rss l),(1,.fn K [] cap),(7,.int .i64 l.length),(8,.int .i64 i)]) (fun _=>[]) (fun i=>i<=l.length/\∀(j:Nat)y,j<i->l[j]?=some y->q y=false) (fun i=>l.length-i) 0 ?_ ⟨Zah _,fun j y k=>absurd k (ZaC _)⟩ ?_;·exact⟨[],rfl,Zcx,ZcA,Zcz (Zcq (Qc2 _)) (Zcz (Zcq c) (Zcz (Zcq rfl) (Zcz (Zcq rfl) Zcy)))⟩
 rintro i⟨hi,m⟩;by_cases a:i<l.length
 ·obtain⟨x,b⟩:=Qap a;have h:=hk x (Zae b);have d:=Qf9 b;have f:4<=(List.drop (i*4) (l.flatMap rsC)).length:=by rw[Za3,o];omega
  cases g:q x
  ·rw[g]at h;refine Zc0 (Zc6 a d f @Zbc @Qaa @Qab @Qac) ?_;refine⟨_,by simpa using h,?_⟩;refine ZcV ?_;refine⟨i+1,by omega,⟨by omega,fun j y k p=>?_⟩,?_⟩
   ·by_cases e:j=i;·subst e;rw[b]at p;cases p;exact g
    exact m j y (by omega) p
   exact⟨[],rfl,Zcx,ZcA,Zcz (Zcq (Qc2 _)) (Zcz (Zcq c) (Zcz (Zcq rfl) (Zcz (Zcq rfl) Zcy)))⟩
  rw[g]at h;refine Zc0 (Zc6 a d f @Zbc @Qaa @Qab @Qac) ?_;refine⟨_,by simpa using h,?_⟩;refine ZcV ?_;refine⟨.inr trivial,_,rfl,?_⟩;rw[QcI b g m];rfl
 refine ZcW a ?_;refine⟨.inr trivial,_,rfl,?_⟩;rw[QbV fun x b=>by obtain⟨j,k,r⟩:=Zbg b;exact m j x (by omega) (by rw[Zal k,r])];rfl
structure StOk(c:Cel)(q:Aut)(left:Nat->Bool)(F:List (Nat×Int×Int×Int))(r:Res)(u:List Nat):Prop where
 w:WfA q
 u1:u.Pairwise (·<·)ul:u.length<=1000000
 R:RemOk q u left r.rem
 F1:(fbs F).Pairwise (·<·)Fl:F.length<=1000000
 fb:∀x∈r.rem,x.reason=1->x.st∈fbs F
 rl:r.rem.length<=1000000
theorem leads82{c:Cel}{p q:Aut}{TA TB:List (List Nat)}{X:List Nat}{F:List (Nat×Int×Int×Int)}{r:Res}{u:List Nat}{left:Nat->Bool}(h:StOk c q left F r u){s n:Nat}{b:Rm}(P:remAt r.rem n=some b):Pq 82 [.fptr (stdY c p q TA TB X F r u),.int .i64 (s:Int),.int .i64 (n:Int)] (expV (leadsG q u r.rem F s n)):=by
 obtain⟨o,rfl⟩:=QcA P;obtain⟨d,t,B⟩:=Qll h.w h.R o;have G:=(h.R.st b o).1;have M:=@badEnd145 c p q TA TB X F r u h.w h.u1 h.ul b.st G d t B;have a:=QoX _ _ _ B;have Q:=@nrY1 c p q TA TB X F r u;have e:leadsG q u r.rem F s b.st=ldx r.rem F s b.st d t:=by unfold leadsG;rw[B]
 rw[e];unfold badS at a;cases w:remAt r.rem t with|none=>rw[w]at a;cases a|some z=>
  have I:rmD r.rem t=z:=by unfold rmD;rw[w];rfl
  refine Zct 64 XA.ok82 rfl (by rw[noRefs,Q];rfl) (Qa5 _) ?_;unfold ldx;rw[I];unfold XA.s82;refine ZcV ?_;refine cp M ?_;refine ZcV ?_;refine QnV ?_;rw[I];by_cases h1:z.reason=1
  ·have f:(z.reason:Int)=1:=by omega
   obtain⟨L,z2⟩:=QcA w;obtain⟨y,N,l,g⟩:=Qt3 (h.fb z L h1);rw[z2]at g l;have C:=index146R (K:=147) (cap:=[.fptr (expC ⟨4,s,b.st,-1,d,t,z,rs00⟩)]) (fun y=>y.1==t) F h.Fl (by simp only[noRefs,noRef,Qad];rfl) fun y _=>lead147 y ⟨4,s,b.st,-1,d,t,z,rs00⟩ rfl;have m:F.any (fun y=>y.1==t)=true:=ZbR.2 ⟨y,N,by simp[l]⟩;have R:=@QdB _ (fun y:Nat×Int×Int×Int=>y.1==t) F;have A:idxQ (fun y:Nat×Int×Int×Int=>y.1==t) F=((F.findIdx fun y=>y.1==t:Nat):Int):=by unfold idxQ;rw[if_pos m]
   rw[A]at C;have k:F[F.findIdx fun y=>y.1==t]?=some y:=by rw[<-Qf6];exact g
   have E:rsnAt F t=y:=by unfold rsnAt;rw[g];rfl
   rw[if_pos h1,E];generalize(F.findIdx fun y=>y.1==t)=j at*;have x:=(Zag.1 k).1;have i:=Qf9 k;have v:4<=((F.flatMap rsC).drop (j*4)).length:=by rw[i];simp
   obtain⟨K,J,S,H⟩:=z;dsimp only at h1 f C⊢;subst h1;refine ZcV ?_;refine SU.chc (ZcL (ZcO (Zcv _) (ZcO (FrzTo.fn ZcN (ZcO (ZcK (g:=0) (cs:=expC ⟨4,s,b.st,-1,d,t,⟨K,J,1,H⟩,rs00⟩) gg (Zcw _)) ZcN)) ZcN)) C rfl) ?_;refine ZcW (Zc2 x i v) ?_;refine⟨.inr trivial,_,rfl,Zcq ?_⟩;exact Qa5 ⟨4,s,b.st,-1,d,t,⟨K,J,1,H⟩,y⟩
  have f:¬(z.reason:Int)=1:=by omega
  rw[if_neg h1];refine ZcW f ?_;refine⟨.inr trivial,_,rfl,Zcq ?_⟩;exact Qa5 ⟨4,s,b.st,-1,d,t,z,rs00⟩
theorem _root_.Go.AM.au30{p:Prop}(h:p:=by repeat'(first|exact ZcA|(refine Zcr ?_;first|rfl|(simp only[noRef,noRefs,Qag,Zad,Zac,Zai,QaH,Qad,Qan,Qae,Qai,QaT,Qaf,QdZ,Qbj];done))|exact ZcM rfl|exact ZcG|exact(True.intro:RnM _ _ _ [] [])|refine ZcH ?_ ?_|(refine Zcq ?_;first|rfl|(simp only[noRef,noRefs,Qag,Zad,Zac,Zai,QaH,Qad,Qan,Qae,Qai,QaT,Qaf,QdZ,Qbj];done))|exact Rn.x1 rfl rfl|exact Rn.x2 rfl rfl|exact Rn.x3 rfl rfl|exact Rn.x4 rfl rfl|exact Rn.x5 rfl|exact Rn.x6 rfl|exact Rn.x7 rfl|refine ZcC rfl rfl ?_|refine ZcB rfl rfl rfl ?_ ?_|refine ZcD rfl rfl rfl ?_ ?_|refine ZcE rfl rfl ?_ ?_|refine ZcF rfl rfl ?_ ?_)):p:=h
theorem refuser144{c:Cel}{p q:Aut}{TA TB:List (List Nat)}{X:List Nat}{F:List (Nat×Int×Int×Int)}{r:Res}{u:List Nat}(Q:c.rs.length<=2)(L:∀x∈c.rs,WfI x.2){v:Nat}(e:Nat){t:List Nat}(P:TB[v]?=some t)(T:t.length=c.rs.length)(hrn:∀(i:Nat)y,c.rs[i]?=some y->t.getD i 0<y.2.n):Pq 144 [.fptr (stdY c p q TA TB X F r u),.int .i64 (v:Int),.int .i64 (e:Int)] (.int .i64 (rfI c t e)):=by
 have E:=@nrY1 c p q TA TB X F r u;refine Zcu 64 XA.ok144 rfl (by rw[noRefs,E];rfl) rfl ?_;have g:=@SU.QaC 114 c.rs;have H:=(Zag.1 P).1;have K:=Qfr P;unfold XA.s144;refine ZcV ?_;refine Qaq 100 (fun i:Nat=>[(0,.fptr (stdY c p q TA TB X F r u)),(1,.int .i64 (v:Int)),(2,.int .i64 (e:Int)),(16,its 114 c.rs),(17,.int .i64 c.rs.length),(18,.int .i64 i)]) (fun _=>[]) (fun i=>i<=c.rs.length/\∀(j:Nat)y,j<i->(List.range c.rs.length)[j]?=some y->rfQ c t e y=false) (fun i=>c.rs.length-i) 0 0 200 (fun _:Unit=>[]) (fun _=>[]) (fun _=>∀x∈List.range c.rs.length,rfQ c t e x=false) ?_ ⟨Zah _,fun j y M=>absurd M (ZaC _)⟩ ?_ ?_;·exact⟨[],rfl,Zcx,ZcA,Zcz (Zcq E) (Zcz (Zcq rfl) (Zcz (Zcq rfl) (Zcz (Zcq g) au29)))⟩
 ·rintro i⟨hi,A⟩;by_cases b:i<c.rs.length
  ·obtain⟨x,k⟩:=Qap b;have f:=L x (Zae k);have h:=SU.Qcq (ch:=114) k;have C:5<=((c.rs.flatMap (itC 114)).drop (i*5)).length:=by rw[h];simp
   have o:i<t.length:=by omega
   obtain⟨w,N⟩:=Qap o;have z:t.getD i 0=w:=by rw[Zak,N];rfl
   have B:=hrn i x k;rw[z]at B;have d:(List.range c.rs.length)[i]?=some i:=by simp[b]
   have G:=has189 x.2.al e f.wf.al (by have:=Qb4 f.wf;omega);have a:rfQ c t e i=(x.2.al.contains e&&(stepA x.2.es w e).isNone):=by unfold rfQ;rw[k];dsimp only;rw[z]
   have s:∀q:rfQ c t e i=false,i+1<=c.rs.length/\∀(j:Nat)y,j<i+1->(List.range c.rs.length)[j]?=some y->rfQ c t e y=false:=fun q=>⟨by omega,fun j y M I=>by
    by_cases R:j=i;·subst R;rw[d]at I;cases I;exact q
    exact A j y (by omega) I⟩;cases m:x.2.al.contains e;·rw[m,Zcd]at a;rw[m]at G;refine ZcW (Zc2 b h C) ?_;refine cp G ?_;refine ZcV ?_;refine⟨i+1,by omega,s a,?_⟩;exact⟨[],rfl,Zcx,ZcA,Zcz (Zcq E) (Zcz (Zcq rfl) (Zcz (Zcq rfl) (Zcz (Zcq g) au29)))⟩
   have J:=step208 x.2 w e f.wf B (ZaG.1 m);rw[m,Zai]at a;rw[m]at G;refine ZcW (Zc2 b h C) ?_;refine cp G ?_;refine ZcW (Zc3 H K o (Qaz N)) ?_;refine cp J ?_;cases l:stepA x.2.es w e with|none=>rw[l]at a;refine ZcV ?_;refine⟨.inr trivial,_,rfl,?_⟩;unfold rfI;rw[QcI d a A];rfl|some S=>rw[l]at a;refine ZcV ?_;refine⟨i+1,by omega,s a,?_⟩;exact⟨[],rfl,Zcx,ZcA,Zcz (Zcq E) (Zcz (Zcq rfl) (Zcz (Zcq rfl) (Zcz (Zcq g) au29)))⟩
  refine ZcW b ?_;refine⟨(),fun x k=>?_,⟨[],rfl,au0,au30,au29⟩⟩;have:=Zat.1 k;exact A x x (by omega) (by simp[this])
 rintro _ A;refine ZcV ?_;refine⟨.inr trivial,_,rfl,?_⟩;unfold rfI;rw[QbV A];rfl
theorem event79{c:Cel}{p q:Aut}{TA TB:List (List Nat)}{X:List Nat}{F:List (Nat×Int×Int×Int)}{r:Res}{u:List Nat}{left:Nat->Bool}(h:StOk c q left F r u)(hp:WfA p)(G:c.rs.length<=2)(H:∀x∈c.rs,WfI x.2){v k:Nat}(e:Nat){t:List Nat}(I:X[v]?=some k)(hk:k<p.n)(K:v<q.n)(R:TB[v]?=some t)(N:t.length=c.rs.length)(hrn:∀(i:Nat)y,c.rs[i]?=some y->t.getD i 0<y.2.n)(A:p.al.contains e=true->(stepA p.es k e).isSome=true->rfI c t e<0->(stepA q.es v e).isSome=true):Pq 79 [.fptr (stdY c p q TA TB X F r u),.int .i64 (v:Int),.int .i64 (e:Int)] (expV (eventG q u r.rem F (p.al.contains e&&(stepA p.es k e).isSome) (rfI c t e) v e)):=by
 have Q:=@nrY1 c p q TA TB X F r u;refine Zct 64 XA.ok79 rfl (by rw[noRefs,Q];rfl) (Qa5 _) ?_;have z:=has189 p.al e hp.al (by have:=Qb4 hp;omega);have m:=(Zag.1 I).1;have l:=Qaz I;have w:=@refuser144 c p q TA TB X F r u G H v e t R N hrn;have C:=fun s=>@kept81 c p q TA TB X F r u s;unfold eventG;cases hc:p.al.contains e;·rw[hc]at z;unfold XA.s79;refine ZcV ?_;refine cp z ?_;refine ZcV ?_;refine⟨.inr trivial,_,rfl,?_⟩;rw[Zcd,if_neg (by simp)];exact Rn.agg (ZcH (Zcq rfl) (ZcH (Zcq rfl) (ZcH (Zcq rfl) (ZcH (Zcq rfl) (ZcH Rn.frznil (Zcr rfl))))))
 rw[hc]at z;have a:=step208 p k e hp hk (ZaG.1 hc);cases o:(stepA p.es k e).isSome with|false=>rw[o]at a;unfold XA.s79;refine ZcV ?_;refine cp z ?_;refine ZcW (Zc1 m l) ?_;refine cp a ?_;refine ZcV ?_;refine⟨.inr trivial,_,rfl,?_⟩;exact Rn.agg (ZcH (Zcq rfl) (ZcH (Zcq rfl) (ZcH (Zcq rfl) (ZcH (Zcq rfl) (ZcH Rn.frznil (Zcr rfl))))))|true=>
  rw[o]at a;rw[Zad,if_pos rfl];have B:=A hc o;clear A;by_cases hf:0<=rfI c t e;·rw[if_pos hf];generalize rfI c t e=f at*;unfold XA.s79;refine ZcV ?_;refine cp z ?_;refine ZcW (Zc1 m l) ?_;refine cp a ?_;refine ZcV ?_;refine cp w ?_;refine ZcW hf ?_;refine⟨.inr trivial,_,rfl,?_⟩;exact Rn.agg (ZcH (Zcq rfl) (ZcH (Zcq rfl) (ZcH (Zcq rfl) (ZcH (Zcq rfl) (ZcH Rn.frznil (Zcr rfl))))))
  rw[if_neg hf];obtain⟨n,J⟩:=Za9.1 (B (by omega));obtain⟨x,M,x1,x2,x3⟩:=Qga J;have g:=step208 q v e h.w K (by rw[<-x2];exact h.w.ev x M);rw[J]at g⊢;dsimp only[Option.getD_some,Option.isSome_some]at g⊢;have b:=C n;generalize rfI c t e=f at*;by_cases d:(remAt r.rem n).isSome=true;·obtain⟨y,hm⟩:=Za9.1 d;rw[if_pos d];rw[hm]at b;dsimp only[Option.isNone_some,Option.isSome_some]at b;have P:=@leads82 c p q TA TB X F r u left h v n y hm;generalize leadsG q u r.rem F v n=L at*;have E:=Qa5 L;unfold XA.s79;refine ZcV ?_;refine cp z ?_;refine ZcW (Zc1 m l) ?_;refine cp a ?_;refine ZcV ?_;refine cp w ?_;refine ZcW hf ?_;refine cp g ?_;refine ZcV ?_;refine cp b ?_;refine ZcV ?_;refine cp P ?_;refine ZcV ?_;exact⟨.inr trivial,_,rfl,Zcq E⟩
  have hm:remAt r.rem n=none:=by cases A:remAt r.rem n with|none=>rfl|some y=>rw[A]at d;exact absurd rfl d
  rw[if_neg d];rw[hm]at b;dsimp only[Option.isNone_none]at b;unfold XA.s79;refine ZcV ?_;refine cp z ?_;refine ZcW (Zc1 m l) ?_;refine cp a ?_;refine ZcV ?_;refine cp w ?_;refine ZcW hf ?_;refine cp g ?_;refine ZcV ?_;refine cp b ?_;refine ZcV ?_;refine⟨.inr trivial,_,rfl,?_⟩;exact Rn.agg (ZcH (Zcq rfl) (ZcH (Zcq rfl) (ZcH (Zcq rfl) (ZcH (Zcq rfl) (ZcH Rn.frznil (Zcr rfl))))))
end Go.AM.SO
namespace Go.AM.XK
open Go.Proofs
set_option maxHeartbeats 4000000
noncomputable section
def cf:YA.Cf:={most:=.pure,always:=[41,93].map fun k=>(k,.heap),value:=.pure}
def s28:SFn:=by
 refine(?f:YA.Yt Tryz.prog cf 28 [[0,2],[1,3,4,5]]) ?s ?h;case h=>exact YA.rr
 exact fun s _=>s
def s33:SFn:=by
 refine(?f:YA.Yt Tryz.prog cf 33 [[0,3],[1,8,9],[11,12,10,13,14,15],[4,5,6,7,16,17,18,19,20,21]]) ?s ?h;case h=>exact YA.rr
 exact fun s _=>s
def s34:SFn:=by
 refine(?f:YA.Yt Tryz.prog cf 34 [[0,4,5],[],[],[1],[],[17,18,19],[],[20,21,22],[],[26,27,28],[29,30,31],[12,32,33,34,35,36],[12,32,37],[23,24,25,38,39],[6,9,10,40,41,42,43,44,45,46,47,48],[13,49,50,51,52,53,54,55],[56],[14,15,16,57,58,59,60],[2,6,7,61],[2,6,7,61,62,63,64,65,66,67,68]] [(4,[(3,6),(4,6)])]) ?s ?h;case h=>exact YA.rr
 exact fun s _=>s
def s35:SFn:=by
 refine(?f:YA.Yt Tryz.prog cf 35 [[0],[15,16],[],[17,18],[],[22,23,24,25],[26,27,28,29],[30],[10,9,31,32,33,34,35,36,37,38,39,40,41,42,43],[1,2,3,8,19,20,21,80,79,68,77,78,76,74,75,73,71,72,70,69,67,44,45],[7,46],[44,10,9,30,47],[8,19,20,21,48],[1,2,3,80,79,68,77,78,76,74,75,73,71,72,70,69,67,49,50],[7,51],[49,52,53],[],[57,58,59,60],[12,61,62,63,64,65,66],[1,2,3,80,79,68,77,78,76,74,75,73,71,72,70,69,67,54,55,56,11,81,82,83,84],[7,85],[11,81,86],[2,80,79,68,77,78,76,74,75,73,71,72,70,69,67,54,55,56,87,88,89,90,91,92,93],[95,96,97,98,94,99,100,13],[14,101],[1,3,102,103],[7,104],[1,3,7,102,105,106,107,108,109]]) ?s ?h;case h=>exact YA.rr
 exact fun s _=>s
def s36:SFn:=by
 refine(?f:YA.Yt Tryz.prog cf 36 [[4],[6,7,8,9],[0,1,10],[4,10,11],[],[14,15],[5,16,17,18,19,20,21,22,23],[0,1,12,13,24],[4,24,25],[0,1,12,13]]) ?s ?h;case h=>exact YA.rr
 exact fun s _=>s
def s37:SFn:=by
 refine(?f:YA.Yt Tryz.prog cf 37 [[0,1,4],[7,8,9,10],[2,3,5,6,11,12,13,14,15,16,17,18,19,20,21,22,23,24,25,26,27,28,29,30,31,32,33,34,35,36,37,38,39,40,41,42,43,44,45,46,47,48,49,50,51,52,53,54,55,56,57,58,59,60,61,62]]) ?s ?h;case h=>exact YA.rr
 exact fun s _=>s
def s38:SFn:=by
 refine(?f:YA.Yt Tryz.prog cf 38 [[0,6],[3,9],[],[13,14,15],[16,17,18,19,20],[1,2,10,11,12,24,22,23,21,8,25,26,27],[6,8,25,28],[1,2,10,11,12,24,22,23,21]]) ?s ?h;case h=>exact YA.rr
 exact fun s _=>s
def s43:SFn:=by
 refine(?f:YA.Yt Tryz.prog cf 43 [[0,5],[2,8,9,10],[],[14,15,16],[17,18,19],[1,11,12,13,7,20,21],[5,7,20,22],[1,11,12,13,23]]) ?s ?h;case h=>exact YA.rr
 exact fun s _=>s
def s44:SFn:=by
 refine(?f:YA.Yt Tryz.prog cf 44 [[0],[1,17,18,19],[2,20,21,22],[],[23,24,25],[26,30,31,32,33,34,35,36,29,37,38,11],[39,40,41,42],[8,9,94,92,93,89,88,87,85,86,84,83,45,44,43,10,46,47,48,49,50,51,52,53,54,55,56,57,58,59,60],[10,46,61,62,63],[],[67,68,69],[70,71,72,73,74,75,76,77,78,79],[80,81,82,90,91],[13,14,95,96,97,98,99,100,101,102,103,104,105,106,107,108,109],[110],[64,65,66,27,28],[8,9,94,92,93,89,88,87,85,86,84,83,45,44,43,111,112,113],[3,114,115,116],[],[120,121,122],[123,124,125,126],[16,127,128,129],[16,127,130],[7,117,118,119,3,114,131]] [(18,[(6,10)]),(16,[(9,12),(10,12),(10,14)]),(12,[(9,10)]),(10,[(1,7),(1,9),(6,9),(7,9),(1,10)])]) ?s ?h;case h=>exact YA.rr
 exact fun s _=>s
def s93:SFn:=by
 refine(?f:YA.Yt Tryz.prog cf 93 [[4],[0,1,5,6,7,8]]) ?s ?h;case h=>exact YA.rr
 exact fun s _=>s
def s94:SFn:=by
 refine(?f:YA.Yt Tryz.prog cf 94 [[0,3],[1,2,4,5,6,7]]) ?s ?h;case h=>exact YA.rr
 exact fun s _=>s
def s164:SFn:=by
 refine(?f:YA.Yt Tryz.prog cf 164 [[4],[6],[],[9,10],[11,12,13,14,15],[0,1,7,8,5,16,17],[4,5,16,18],[0,1,7,8]]) ?s ?h;case h=>exact YA.rr
 exact fun s _=>s
theorem ok28:Kq 28 s28=true:=by kernel_rfl
theorem ok33:Kq 33 s33=true:=by kernel_rfl
theorem ok34:Kq 34 s34=true:=by kernel_rfl
theorem ok35:Kq 35 s35=true:=by kernel_rfl
theorem ok36:Kq 36 s36=true:=by kernel_rfl
theorem ok37:Kq 37 s37=true:=by kernel_rfl
theorem ok38:Kq 38 s38=true:=by kernel_rfl
theorem ok43:Kq 43 s43=true:=by kernel_rfl
theorem ok44:Kq 44 s44=true:=by kernel_rfl
theorem ok93:Kq 93 s93=true:=by kernel_rfl
theorem ok94:Kq 94 s94=true:=by kernel_rfl
theorem ok164:Kq 164 s164=true:=by kernel_rfl
end
end Go.AM.XK
