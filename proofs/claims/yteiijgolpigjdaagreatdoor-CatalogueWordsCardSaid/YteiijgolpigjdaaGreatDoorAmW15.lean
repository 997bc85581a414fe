/- A part of the proof of CatalogueWordsCardSaid: lemmas on the way (AnCq, AnGe, AnGf, AnRz, AnRa, AnRb, AnRc, AnRe, AnRf, AnRg, AnRh, AmTp, AnRi, AnRj). Conditions: none of ours. -/
import Derived.Test.YteiijgolpigjdaaGreatDoorProg
import Derived.KernelRfl
import Derived.Test.YteiijgolpigjdaaGreatDoorAmW14
set_option linter.unusedSectionVars false
set_option maxHeartbeats 32000000
set_option maxRecDepth 100000
set_option linter.unusedVariables false
set_option linter.unusedSimpArgs false
namespace Go.AM.SO
open Go.Proofs Go.AM.SD Go.AM.SE
abbrev ixT(T:List (List Nat))(n:List Nat):Nat:=T.findIdx (·==n)
theorem Qgh{A B:List (List Nat)}{n:List Nat}(h:A<+:B)(a:n∈A):ixT A n=ixT B n:=by obtain⟨C,rfl⟩:=h;grind
theorem Qiy{A:List (List Nat)}{n:List Nat}(a:n∉A):ixT A n=A.length:=by grind
theorem QqR{A:List (List Nat)}{n:List Nat}(a:n∉A):ixT A n=ixT (A++[n]) n:=by grind
theorem QmW{A:List (List Nat)}{n:List Nat}(a:n∈A):A[ixT A n]?=some n:=by grind
theorem Qia{A:List (List Nat)}{n:List Nat}(a:n∈A):ixT A n<A.length:=List.findIdx_lt_length_of_exists ⟨n,a,by simp⟩
theorem Qo4{A:List (List Nat)}{n:List Nat}{i:Nat}(a:A.Nodup)(h:A[i]?=some n):ixT A n=i:=by grind[QmW,List.getElem?_inj]
def rowE(l:List Aut)(ev:List Nat)(T:List (List Nat))(j:Nat)(t:List Nat):List Ed:=ev.filterMap fun e=>(stepT l t e).map fun n=>(j,e,ixT T n)
theorem QnE{l:List Aut}{ev:List Nat}{A B:List (List Nat)}{j:Nat}{t:List Nat}(h:A<+:B)(hc:∀e∈ev,∀n,stepT l t e=some n->n∈A):rowE l ev A j t=rowE l ev B j t:=by unfold rowE;refine a fun e he=>?_;cases b:stepT l t e with|none=>rfl|some n=>simp only[Option.map_some,Qgh h (hc e he n b)]where a{α β:Type}{f g:α->Option β}:∀{l:List α},(∀x∈l,f x=g x)->l.filterMap f=l.filterMap g|[],_=>rfl|x::l,h=>by rw[List.filterMap_cons,List.filterMap_cons,h x (by simp),a (l:=l) fun y c=>h y (by simp[c])]
theorem QjF{l:List Aut}{i:Nat}{t:List Nat}:∀{ev:List Nat}{s:List (List Nat)×List Ed},(pRow l ev i t s).2=s.2++rowE l ev (pRow l ev i t s).1 i t/\∀e∈ev,∀n,stepT l t e=some n->n∈(pRow l ev i t s).1|[],s=>by simp_all[pRow,rowE]|e::ev,s=>by have h:=QjF (l:=l) (i:=i) (t:=t) (ev:=ev) (s:=pEv l i t s e);have hp:=Qcx (l:=l) (i:=i) (t:=t) (ev:=ev) (s:=pEv l i t s e);have h1:pRow l (e::ev) i t s=pRow l ev i t (pEv l i t s e):=rfl;rw[h1];obtain⟨d,i2⟩:=h;cases o:stepT l t e with
 |none=>
  have b:pEv l i t s e=s:=by grind[pEv]
  rw[b]at d i2 hp⊢;refine⟨?_,fun g c n j=>?_⟩;·simp_all[rowE]
  grind|some n=>
  have b:pEv l i t s e=(if n∈s.1 then s.1 else s.1++[n],s.2++[(i,e,ixT s.1 n)]):=by grind[pEv]
  rw[b]at d i2 hp⊢;have a:n∈(if n∈s.1 then s.1 else s.1++[n]):=by grind
  have k:ixT s.1 n=ixT (if n∈s.1 then s.1 else s.1++[n]) n:=by grind
  have f:=Qgh hp a;refine⟨?_,fun g c m j=>?_⟩;·generalize pRow l ev i t (if n∈s.1 then s.1 else s.1++[n],s.2++[(i,e,ixT s.1 n)])=R at*;simp_all[rowE]
  grind
structure PE(l:List Aut)(ev:List Nat)(i:Nat)(s:List (List Nat)×List Ed):Prop where
 ed:s.2=(List.range i).flatMap fun j=>rowE l ev s.1 j (s.1.getD j [])cl:∀j t,j<i->s.1[j]?=some t->∀e∈ev,∀n,stepT l t e=some n->n∈s.1
 le:i<=s.1.length
theorem Qhp{A B:List (List Nat)}(h:A<+:B){j:Nat}(a:j<A.length):B.getD j []=A.getD j []:=by obtain⟨C,rfl⟩:=h;grind
theorem Qgi{A B:List (List Nat)}(h:A<+:B){j:Nat}(a:j<A.length):B[j]?=A[j]?:=by obtain⟨C,rfl⟩:=h;grind
theorem flatMap_congr'{α β:Type}{f g:α->List β}:∀{l:List α},(∀x∈l,f x=g x)->l.flatMap f=l.flatMap g|[],_=>rfl|x::l,h=>by rw[List.flatMap_cons,List.flatMap_cons,h x (by simp),flatMap_congr' (l:=l) fun y a=>h y (by simp[a])]
theorem PE.row{l:List Aut}{ev:List Nat}{i:Nat}{s:List (List Nat)×List Ed}{t:List Nat}(h:PE l ev i s)(f:s.1[i]?=some t):PE l ev (i+1) (pRow l ev i t s):=by
 have hp:=Qcx (l:=l) (i:=i) (t:=t) (ev:=ev) (s:=s);obtain⟨h1,g⟩:=QjF (l:=l) (i:=i) (t:=t) (ev:=ev) (s:=s);have hi:i<s.1.length:=by grind
 refine⟨?_,fun j u a hu e he n b=>?_,Nat.le_trans hi hp.length_le⟩
 ·rw[h1,List.range_succ,List.flatMap_append,List.flatMap_cons,List.flatMap_nil,List.append_nil];have d:(pRow l ev i t s).1.getD i []=t:=by rw[Qhp hp hi,List.getD_eq_getElem?_getD,f];rfl
  rw[d];congr 1;rw[h.ed];refine flatMap_congr' fun j a=>?_;have c:=List.mem_range.1 a;obtain⟨u,hu⟩:=Qav (l:=s.1) (i:=j) (by omega);rw[Qhp hp (by omega)];refine QnE hp fun e he n b=>?_;rw[List.getD_eq_getElem?_getD,hu]at b;exact h.cl j u c hu e he n b
 rcases Nat.lt_succ_iff_lt_or_eq.1 a with a|rfl;·rw[Qgi hp (by omega)]at hu;exact hp.subset (h.cl j u a hu e he n b)
 grind[Qgi]
theorem QmX{l:List Aut}{ev:List Nat}(hw:∀a∈l,∀e∈a.es,e.1<a.n/\e.2.2<a.n):∀{k i:Nat}{s:List (List Nat)×List Ed},PI l s->box l<k+i->PE l ev i s->PE l ev (pQ l ev k i s).1.length (pQ l ev k i s)|0,i,s,h,hk,he=>by have h1:=Qc7 h.nd h.inT;have c:=he.le;omega|k+1,i,s,h,hk,he=>by unfold pQ;cases b:s.1[i]? with
 |none=>
  have c:=he.le;have:i=s.1.length:=by grind
  rwa[this]at he|some t=>exact QmX hw (QdN hw (h.inT t (List.mem_of_getElem? b)) h) (by omega) (he.row b)
theorem QjG{l:List Aut}(c:∀a∈l,0<a.n)(hw:∀a∈l,∀e∈a.es,e.1<a.n/\e.2.2<a.n):PE l (evA l) (sync0 l).1.length (sync0 l):=QmX hw (Qe9 c) (by omega) ⟨rfl,fun j t b=>absurd b (Nat.not_lt_zero _),Nat.zero_le _⟩
theorem sync_pre{l:List Aut}:[List.replicate l.length 0]<+:(sync0 l).1:=Qh7 (s:=([List.replicate l.length 0],[]))
end Go.AM.SO
namespace Go.AM.SO
open Go.Proofs Go.AM.SD Go.AM.SE
def keyC(t:List Nat):AV:=.str (keyT t)
def ixV(T:List (List Nat))(t:List Nat):AV:=.int .i64 ((ixT T t:Nat):Int)
abbrev tuV(T:List (List Nat)):AV:=.fsl (T.map sliN) T.length 1
theorem Qbo(T:List (List Nat)):noRef (tuV T)=true:=by rw[tuV,noRef];exact Qax Qaa _
theorem InT.ltJ{l:List Aut}(h:∀a∈l,WfJ a){t:List Nat}(d:InT l t){x:Nat}(f:x∈t):x<10:=by obtain⟨i,hi,b⟩:=Qh1 f;obtain⟨a,c⟩:=Qav (l:=l) (i:=i) (by rw[<-d.1];exact b);have h1:=d.2 i a c;rw[List.getD_eq_getElem?_getD,hi]at h1;have g:=(h a (List.mem_of_getElem? c)).n10;simp only[Option.getD_some]at h1;omega
theorem Qf1{l:List Aut}(h:∀a∈l,WfJ a){x:List Nat}{T:List (List Nat)}(f:InT l x)(g:∀t∈T,InT l t):KeyG false [.s] keyC x T:=by
 have key:∀y,InT l y->keyEq false [.s] (keyC x) (keyC y)=some (decide (x=y)):=by
  intro y b;have e:keyEq false [.s] (keyC x) (keyC y)=some (decide (keyT x=keyT y)):=Qej;rw[e];congr 1;refine decide_eq_decide.2 ⟨fun c=>Qln (by rw[f.1,b.1]) (fun z d=>?_) (fun z d=>?_) c,fun c=>by rw[c]⟩;·have:=f.ltJ h d;omega
  have:=b.ltJ h d;omega
 refine⟨?_,fun y b=>key y (g y b)⟩;unfold keyOK;rw[key x f]
theorem QmY{T:List (List Nat)}{n:List Nat}(b:n∉T):mapG keyC (updG (ixV T) n (.int .i64 ((T.length:Nat):Int))) (T++[n])=mapG keyC (ixV (T++[n])) (T++[n]):=by
 refine QhZ fun x a=>?_;unfold updG;split;·rename_i e;subst e;unfold ixV;rw[<-QqR b,Qiy b]
 rename_i e;unfold ixV;rw[Qgh (List.prefix_append T [n]) (by
  rcases List.mem_append.1 a with a|a;·exact a
  simp at a;exact absurd a e)]
def marks(l:List Aut)(T:List (List Nat))(i:Nat):List Nat:=(List.range i).filter fun j=>mkdT l (T.getD j [])
theorem QnF{l:List Aut}{T:List (List Nat)}{i:Nat}{t:List Nat}(a:T[i]?=some t):marks l T (i+1)=if mkdT l t=true then marks l T i++[i]else marks l T i:=by
 have e:T.getD i []=t:=by rw[List.getD_eq_getElem?_getD,a];rfl
 unfold marks;rw[List.range_succ,List.filter_append];by_cases hm:mkdT l t=true;·rw[if_pos hm,List.filter_cons_of_pos (by rw[e];exact hm),List.filter_nil]
 rw[if_neg hm,List.filter_cons_of_neg (by rw[e];exact hm),List.filter_nil,List.append_nil]
theorem QjH{l:List Aut}{A B:List (List Nat)}(h:A<+:B){i:Nat}(hi:i<=A.length):marks l B i=marks l A i:=by unfold marks;refine List.filter_congr fun j a=>?_;rw[Qhp h (by have:=List.mem_range.1 a;omega)]
theorem Qo5{l:List Aut}{T:List (List Nat)}{i:Nat}:(marks l T i).length<=i:=by have:=List.length_filter_le (fun j=>mkdT l (T.getD j [])) (List.range i);rwa[List.length_range]at this
theorem QqS{l:List Aut}{i e:Nat}{t:List Nat}{s:List (List Nat)×List Ed}:(pEv l i t s e).2.length<=s.2.length+1:=by unfold pEv;cases stepT l t e with|none=>exact Nat.le_succ _|some n=>simp
theorem Qfb{l:List Aut}{i:Nat}{t:List Nat}:∀{ev:List Nat}{s:List (List Nat)×List Ed},(pRow l ev i t s).2.length<=s.2.length+ev.length|[],s=>Nat.le_refl _|e::ev,s=>by have h1:=Qfb (l:=l) (i:=i) (t:=t) (ev:=ev) (s:=pEv l i t s e);have a:=@QqS l i e t s;show(pRow l ev i t (pEv l i t s e)).2.length<=_;rw[List.length_cons];omega
theorem QjI{l:List Aut}{ev:List Nat}{i j e:Nat}{t:List Nat}{s:List (List Nat)×List Ed}(h:ev[j]?=some e):pRow l (ev.take (j+1)) i t s=pEv l i t (pRow l (ev.take j) i t s) e:=by unfold pRow;rw[take_succ' h,List.foldl_append];rfl
theorem Qeb{T:List (List Nat)}{i:Nat}{t:List Nat}(h:T[i]?=some t):(T.map sliN)[i]?=some (sliN t):=by rw[List.getElem?_map,h];rfl
theorem QqT{l:List Aut}{ev:List Nat}{k i:Nat}{s:List (List Nat)×List Ed}(h:s.1[i]?=none):pQ l ev k i s=s:=by cases k with|zero=>rfl|succ k=>unfold pQ;rw[h]
theorem Qfl{l:List Aut}{ev:List Nat}{i k:Nat}{t:List Nat}{s:List (List Nat)×List Ed}:(pRow l (ev.take k) i t s).1<+:(pRow l ev i t s).1:=by
 have e:pRow l ev i t s=pRow l (ev.drop k) i t (pRow l (ev.take k) i t s):=by unfold pRow;rw[<-List.foldl_append,List.take_append_drop]
 rw[e];exact Qcx
def synV(l:List Aut):AV:=if(sync0 l).1.length<=4096 then .tup [aV (syncA l),tuV (sync0 l).1,.int .i64 0]else .tup [.agg [.nilsl,.int .i64 0,.nilsl,.nilsl],.nilsl,.int .i64 3]
theorem sync28J(l:List Aut)(h:∀a∈l,WfJ a)(h0:0<l.length)(hl:l.length<=12)(G:∀t,InT l t->PSpec Tryz.prog 67 [sliN t] (.str (keyT t))):PSpec Tryz.prog 30 [auts l] (synV l):=by
 have hno:=Qbl l;have c:=QdG l;have R:noRef (.tup [aV (syncA l),tuV (sync0 l).1,.int .i64 0])=true:=by rw[noRef,noRefs,noRefs,Qbo,noRef,noRefs,noRefs,noRefs,noRefs,Qaa,Qaa,Qak];rfl
 have hnr:noRef (synV l)=true:=by
  unfold synV;split;·exact R
  rfl
 have U:(sync0 l).1.length<=4096->synV l=.tup [aV (syncA l),tuV (sync0 l).1,.int .i64 0]:=fun h=>if_pos h;have J:¬(sync0 l).1.length<=4096->synV l=.tup [.agg [.nilsl,.int .i64 0,.nilsl,.nilsl],.nilsl,.int .i64 3]:=fun h=>if_neg h;generalize synV l=V at*;refine PSpec.of_rn 64 TP.ok30 rfl (by rw[noRefs,hno];rfl) hnr ?_;have hw:∀a∈l,∀e∈a.es,e.1<a.n/\e.2.2<a.n:=fun a ha=>(h a ha).wf.esn;have hpos:∀a∈l,0<a.n:=fun a ha=>(h a ha).pos;have hc:=check95 l h (by omega);have ho:=open96 l h (by omega);have hi:=initial97 l h h0 (by omega);have S:=Qe9 (l:=l) hpos;have Q:InT l (List.replicate l.length 0):=S.inT _ (by simp);have hk0:=G _ Q;have hev5:=QmV h;have hml:(l.map emV).length=l.length:=List.length_map ..;simp(disch:=first|omega|exact PairsOK.mk rfl|(simp only[lenW]<;>omega))only[TP.s30,Qac,Qad,Qae,wW,wV,simprocAttr];refine cp hc ?_;simp(disch:=first|omega|exact PairsOK.mk rfl|(simp only[lenW]<;>omega))only[Qac,Qad,Qae,wW,wV,simprocAttr];refine cp ho ?_;simp(disch:=first|omega|exact PairsOK.mk rfl|(simp only[lenW]<;>omega))only[Qac,Qad,Qae,wW,wV,simprocAttr];refine cp hi ?_;simp(disch:=first|omega|exact PairsOK.mk rfl|(simp only[lenW]<;>omega))only[Qac,Qad,Qae,wW,wV,simprocAttr];refine cp hk0 ?_;simp(disch:=first|omega|exact PairsOK.mk rfl|(simp only[lenW]<;>omega))only[Qac,Qad,Qae,wW,wV,simprocAttr];refine Qcu (c:=keyC) (f:=fun _=>.nilsl) (x:=List.replicate l.length 0) (l:=[]) (g:=0) gg (Qf1 h Q fun t O=>by cases O) (by simp) (by omega) ?_;have hm0:mapG keyC (updG (fun _=>.nilsl) (List.replicate l.length 0) (.int .i64 0)) ([]++[List.replicate l.length 0])=mapG keyC (ixV [List.replicate l.length 0]) [List.replicate l.length 0]:=by
  refine QhZ fun x hx=>?_;have hx:x=List.replicate l.length 0:=by simpa using hx
  subst hx;unfold updG ixV;rw[if_pos rfl];simp[ixT]
 rw[hm0];simp(disch:=first|omega|exact PairsOK.mk rfl|(simp only[lenW]<;>omega))only[Qac,Qad,Qae,wW,wV,simprocAttr];refine Qay 320 (fun q:Nat×(List (List Nat)×List Ed)=>[(2,.ptr 51 0 0),(6,.ptr 52 0 0),(3,.sl 60 0 0 q.2.1.length 1),(9,.map 53 0),(10,.int .i64 (q.1))]) (fun q=>[(51,.cells 0 [sliN (evA l),.int .i64 0,.sl 70 0 0 (marks l q.2.1 q.1).length 1,.sl 71 0 0 q.2.2.length 3]),(52,.cells 0 [auts l,sliN (evA l),.fsl (l.map emV) l.length 1]),(53,.map 0 (mapG keyC (ixV q.2.1) q.2.1)),(60,.cells 0 (q.2.1.map sliN)),(70,.cells 0 (ints (nz (marks l q.2.1 q.1)))),(71,.cells 0 (q.2.2.flatMap edC))]) (fun q=>q.1<=q.2.1.length/\PI l q.2/\q.2.2.length<=q.1*32/\q.2.1.length<=4096/\pQ l (evA l) (box l+1-q.1) q.1 q.2=sync0 l) (fun q=>box l+1-q.1) (0,([List.replicate l.length 0],[])) 0 900 (fun _:Unit=>[(2,.ptr 51 0 0),(3,tuV (sync0 l).1)]) (fun _=>[(51,.cells 0 [sliN (evA l),.int .i64 0,sliN (marks l (sync0 l).1 (sync0 l).1.length),egsN (sync0 l).2])]) (fun _=>(sync0 l).1.length<=4096) ?_ ⟨Nat.zero_le _,S,Nat.zero_le _,by show[List.replicate l.length 0].length<=4096;simp,rfl⟩ ?_ ?_;·refine⟨[(51,.blk 64 0),(52,.blk 74 0),(53,.blk 92 0),(60,.blk 90 0),(70,.nil),(71,.nil)],rfl,au0,?_,au13⟩;exact RB.cells rfl rfl gg (RnL.cons (Rn.same (Qaa _)) (RnL.cons (Rn.same rfl) (RnL.cons (Rn.x4 rfl rfl) (RnL.cons (Rn.x4 rfl rfl) RnL.nil)))) (RB.cells rfl rfl gg (RnL.same c) (RB.map rfl rfl gg (RnM.mapG fun _ _=>⟨rfl,rfl⟩) (RB.cells rfl rfl gg (RnL.eq (by simp) (Qax Qaa _)) (RB.newnil rfl rfl (RB.newnil rfl rfl RB.nil)))))
 ·rintro⟨i,s⟩⟨hi,hp,hel,N,hq⟩;dsimp only at hi hp hel N hq⊢;have hsb:=Qc7 hp.nd hp.inT;have hsml:(s.1.map sliN).length=s.1.length:=List.length_map ..;by_cases d:i<s.1.length
  ·obtain⟨t,O⟩:=Qav d;have v:=hp.inT t (List.mem_of_getElem? O);have M:=marked99 l t h (by omega) v.1;have y:=QnF (l:=l) O;have hml5:=@Qo5 l s.1 i;have L:=Qcx (l:=l) (i:=i) (t:=t) (ev:=evA l) (s:=s);have hpo:=QdN (i:=i) (ev:=evA l) hw v hp;have hpn:=Qfb (l:=l) (i:=i) (t:=t) (ev:=evA l) (s:=s);have P:pQ l (evA l) (box l+1-(i+1)) (i+1) (pRow l (evA l) i t s)=sync0 l:=by rw[<-hq,show box l+1-i=(box l+1-(i+1))+1 by omega];simp only[pQ,O]
   cases hmb:mkdT l t
   ·rw[hmb]at M y;rw[if_neg (by simp)]at y;simp(disch:=first|omega|exact PairsOK.mk rfl|(simp only[lenW]<;>omega))only[d,Qeb O,Qac,Qad,Qae,wW,wV,simprocAttr];refine cp M ?_;simp(disch:=first|omega|exact PairsOK.mk rfl|(simp only[lenW]<;>omega))only[Qac,Qad,Qae,wW,wV,simprocAttr];have hmk:marks l s.1 (i+1)=marks l s.1 i:=y;refine Qay 420 (fun j:Nat=>[(2,.ptr 51 0 0),(6,.ptr 52 0 0),(3,.sl 60 0 0 (pRow l ((evA l).take j) i t s).1.length 1),(9,.map 53 0),(10,.int .i64 (i)),(61,sliN (evA l)),(62,.int .i64 (evA l).length),(63,.int .i64 j)]) (fun j=>[(51,.cells 0 [sliN (evA l),.int .i64 0,.sl 70 0 0 (marks l s.1 (i+1)).length 1,.sl 71 0 0 (pRow l ((evA l).take j) i t s).2.length 3]),(52,.cells 0 [auts l,sliN (evA l),.fsl (l.map emV) l.length 1]),(53,.map 0 (mapG keyC (ixV (pRow l ((evA l).take j) i t s).1) (pRow l ((evA l).take j) i t s).1)),(60,.cells 0 ((pRow l ((evA l).take j) i t s).1.map sliN)),(70,.cells 0 (ints (nz (marks l s.1 (i+1))))),(71,.cells 0 ((pRow l ((evA l).take j) i t s).2.flatMap edC))]) (fun j=>j<=(evA l).length/\(pRow l ((evA l).take j) i t s).1.length<=4096) (fun j=>(evA l).length-j) 0 2 700 (fun _:Unit=>[(2,.ptr 51 0 0),(6,.ptr 52 0 0),(3,.sl 60 0 0 (pRow l (evA l) i t s).1.length 1),(9,.map 53 0),(10,.int .i64 (i))]) (fun _=>[(51,.cells 0 [sliN (evA l),.int .i64 0,.sl 70 0 0 (marks l s.1 (i+1)).length 1,.sl 71 0 0 (pRow l (evA l) i t s).2.length 3]),(52,.cells 0 [auts l,sliN (evA l),.fsl (l.map emV) l.length 1]),(53,.map 0 (mapG keyC (ixV (pRow l (evA l) i t s).1) (pRow l (evA l) i t s).1)),(60,.cells 0 ((pRow l (evA l) i t s).1.map sliN)),(70,.cells 0 (ints (nz (marks l s.1 (i+1))))),(71,.cells 0 ((pRow l (evA l) i t s).2.flatMap edC))]) (fun _=>(pRow l (evA l) i t s).1.length<=4096) ?_ ⟨Nat.zero_le _,N⟩ ?_ ?_;·show Rec _ _ [(51,.cells 0 [sliN (evA l),.int .i64 0,.sl 70 0 0 (marks l s.1 (i+1)).length 1,.sl 71 0 0 s.2.length 3]),(52,.cells 0 [auts l,sliN (evA l),.fsl (l.map emV) l.length 1]),(53,.map 0 (mapG keyC (ixV s.1) s.1)),(60,.cells 0 (s.1.map sliN)),(70,.cells 0 (ints (nz (marks l s.1 (i+1))))),(71,.cells 0 (s.2.flatMap edC))] _ _;rw[hmk];refine⟨[(51,.blk 51 0),(52,.blk 52 0),(53,.blk 53 0),(60,.blk 60 0),(70,.blk 70 0),(71,.blk 71 0)],rfl,au0,?_,au13⟩;exact RB.cells rfl rfl gg (RnL.cons (Rn.same (Qaa _)) (RnL.cons (Rn.same rfl) (RnL.cons (Rn.x1 rfl rfl) (RnL.cons (Rn.x1 rfl rfl) RnL.nil)))) (RB.cells rfl rfl gg (RnL.same c) (RB.map rfl rfl gg (RnM.mapG fun _ _=>⟨rfl,rfl⟩) (RB.cells rfl rfl gg (RnL.same (Qax Qaa _)) (RB.cells rfl rfl gg (RnL.same (Qab _)) (RB.cells rfl rfl gg (RnL.same (Qaf _)) RB.nil)))))
    ·rintro j⟨hj,o⟩;by_cases m:j<(evA l).length
     ·obtain⟨e,he⟩:=Qav m;have w:=QdN (i:=i) (ev:=(evA l).take j) hw v hp;have E:=Qcx (l:=l) (i:=i) (t:=t) (ev:=(evA l).take j) (s:=s);have Y:=Qfb (l:=l) (i:=i) (t:=t) (ev:=(evA l).take j) (s:=s);have X:=Qfl (l:=l) (ev:=evA l) (i:=i) (k:=j+1) (t:=t) (s:=s);have b:=QjI (l:=l) (i:=i) (t:=t) (s:=s) he;rw[List.length_take]at Y;generalize pRow l ((evA l).take j) i t s=u at*;have I:i<u.1.length:=Nat.lt_of_lt_of_le d E.length_le;have C:u.1[i]?=some t:=by rw[Qgi E d];exact O
      have hub:=Qc7 w.nd w.inT;have F:(u.1.map sliN).length=u.1.length:=List.length_map ..;have r:(u.2.flatMap edC).length=u.2.length*3:=Qby (k:=3) (fun _=>rfl) u.2;have p:=step100 l t e h h0 (by omega) v.1;cases A:stepT l t e with|none=>
       rw[A]at p;have g:pEv l i t u e=u:=by unfold pEv;rw[A]
       rw[g]at b;simp(disch:=first|omega|exact PairsOK.mk rfl|(simp only[lenW]<;>omega))only[m,I,QaW he,Qeb C,Qac,Qad,Qae,wW,wV,simprocAttr];refine cp p ?_;simp(disch:=first|omega|exact PairsOK.mk rfl|(simp only[lenW]<;>omega))only[stV,Qac,Qad,Qae,wW,wV,simprocAttr];refine⟨j+1,by omega,⟨by omega,by rw[b];exact o⟩,?_⟩;rw[b];refine⟨[(51,.blk 51 0),(52,.blk 52 0),(53,.blk 53 0),(60,.blk 60 0),(70,.blk 70 0),(71,.blk 71 0)],rfl,au0,?_,au13⟩;exact RB.cells rfl rfl gg (RnL.cons (Rn.same (Qaa _)) (RnL.cons (Rn.same rfl) (RnL.cons (Rn.x1 rfl rfl) (RnL.cons (Rn.x1 rfl rfl) RnL.nil)))) (RB.cells rfl rfl gg (RnL.same c) (RB.map rfl rfl gg (RnM.mapG fun _ _=>⟨rfl,rfl⟩) (RB.cells rfl rfl gg (RnL.same (Qax Qaa _)) (RB.cells rfl rfl gg (RnL.same (Qab _)) (RB.cells rfl rfl gg (RnL.same (Qaf _)) RB.nil)))))|some n=>
       rw[A]at p;have H:=Qe8 hw v A;have K:=G n H;have k:=Qf1 h H w.inT;simp(disch:=first|omega|exact PairsOK.mk rfl|(simp only[lenW]<;>omega))only[m,I,QaW he,Qeb C,Qac,Qad,Qae,wW,wV,simprocAttr];refine cp p ?_;simp(disch:=first|omega|exact PairsOK.mk rfl|(simp only[lenW]<;>omega))only[stV,Qac,Qad,Qae,wW,wV,simprocAttr];refine cp K ?_;simp(disch:=first|omega|exact PairsOK.mk rfl|(simp only[lenW]<;>omega))only[Qac,Qad,Qae,wW,wV,simprocAttr];by_cases hm:n∈u.1
       ·have g:pEv l i t u e=(u.1,u.2++[(i,e,ixT u.1 n)]):=by unfold pEv;rw[A];simp only[if_pos hm]
        rw[g]at b;refine QgU (c:=keyC) (f:=ixV u.1) (x:=n) (l:=u.1) (g:=0) gg k hm ?_;simp(disch:=first|omega|exact PairsOK.mk rfl|(simp only[lenW]<;>omega))only[ixV,r,Qac,Qad,Qae,wW,wV,simprocAttr];refine⟨j+1,by omega,⟨by omega,by rw[b];exact o⟩,?_⟩;rw[b,List.length_append,List.flatMap_append];refine⟨[(51,.blk 51 0),(52,.blk 52 0),(53,.blk 53 0),(60,.blk 60 0),(70,.blk 70 0),(71,.blk 71 1)],rfl,au0,?_,au13⟩;exact RB.cells rfl rfl gg (RnL.cons (Rn.same (Qaa _)) (RnL.cons (Rn.same rfl) (RnL.cons (Rn.x1 rfl rfl) (RnL.cons (Rn.x1 rfl rfl) RnL.nil)))) (RB.cells rfl rfl gg (RnL.same c) (RB.map rfl rfl gg (RnM.mapG fun _ _=>⟨rfl,rfl⟩) (RB.cells rfl rfl gg (RnL.same (Qax Qaa _)) (RB.cells rfl rfl gg (RnL.same (Qab _)) (RB.cells rfl rfl gg (RnL.same (SU.Qa8 (Qaf _) rfl)) RB.nil)))))
       have g:pEv l i t u e=(u.1++[n],u.2++[(i,e,u.1.length)]):=by unfold pEv;rw[A];simp only[if_neg hm];rw[show u.1.findIdx (·==n)=u.1.length from Qiy hm]
       rw[g]at b;have T:=QmY hm;by_cases h4:u.1.length=4096
       ·have f:((u.1.length:Nat):Int)=4096:=by omega
        have B:¬(sync0 l).1.length<=4096:=by have q1:=X.length_le;rw[b,List.length_append,List.length_singleton]at q1;have q2:=(Qh7 (l:=l) (ev:=evA l) (k:=box l+1-(i+1)) (i:=i+1) (s:=pRow l (evA l) i t s)).length_le;rw[P]at q2;omega
        rw[J B];refine Qc6 (c:=keyC) (f:=ixV u.1) (x:=n) (l:=u.1) (g:=0) gg k hm ?_;simp(disch:=first|omega|exact PairsOK.mk rfl|(simp only[lenW]<;>omega))only[f,Qac,Qad,Qae,wW,wV,simprocAttr];exact⟨.inr trivial,_,rfl,Rn.same rfl⟩
       have f:¬((u.1.length:Nat):Int)=4096:=by omega
       refine Qc6 (c:=keyC) (f:=ixV u.1) (x:=n) (l:=u.1) (g:=0) gg k hm ?_;simp(disch:=first|omega|exact PairsOK.mk rfl|(simp only[lenW]<;>omega))only[f,Qac,Qad,Qae,wW,wV,simprocAttr];refine cp K ?_;simp(disch:=first|omega|exact PairsOK.mk rfl|(simp only[lenW]<;>omega))only[Qac,Qad,Qae,wW,wV,simprocAttr];refine Qcu (c:=keyC) (f:=ixV u.1) (x:=n) (l:=u.1) (g:=0) gg k hm (by omega) ?_;rw[T];simp(disch:=first|omega|exact PairsOK.mk rfl|(simp only[lenW]<;>omega))only[F,r,Qaa,Qac,Qad,Qae,wW,wV,simprocAttr];refine⟨j+1,by omega,⟨by omega,by rw[b,List.length_append,List.length_singleton];omega⟩,?_⟩;rw[b,List.length_append,List.length_append,List.flatMap_append,List.map_append];refine⟨[(51,.blk 51 0),(52,.blk 52 0),(53,.blk 53 0),(60,.blk 60 1),(70,.blk 70 0),(71,.blk 71 1)],rfl,au0,?_,au13⟩;exact RB.cells rfl rfl gg (RnL.cons (Rn.same (Qaa _)) (RnL.cons (Rn.same rfl) (RnL.cons (Rn.x1 rfl rfl) (RnL.cons (Rn.x1 rfl rfl) RnL.nil)))) (RB.cells rfl rfl gg (RnL.same c) (RB.map rfl rfl gg (RnM.mapG fun _ _=>⟨rfl,rfl⟩) (RB.cells rfl rfl gg (RnL.same (SU.Qa8 (Qax Qaa _) (Qax Qaa [n]))) (RB.cells rfl rfl gg (RnL.same (Qab _)) (RB.cells rfl rfl gg (RnL.same (SU.Qa8 (Qaf _) rfl)) RB.nil)))))
     have e2:j=(evA l).length:=by omega
     subst e2;rw[List.take_length]at o;simp(disch:=first|omega|exact PairsOK.mk rfl|(simp only[lenW]<;>omega))only[m,List.take_length,Qac,Qad,Qae,wW,wV,simprocAttr];refine⟨(),o,?_⟩;refine⟨[(51,.blk 51 0),(52,.blk 52 0),(53,.blk 53 0),(60,.blk 60 0),(70,.blk 70 0),(71,.blk 71 0)],rfl,au0,?_,au13⟩;exact RB.cells rfl rfl gg (RnL.cons (Rn.same (Qaa _)) (RnL.cons (Rn.same rfl) (RnL.cons (Rn.x1 rfl rfl) (RnL.cons (Rn.x1 rfl rfl) RnL.nil)))) (RB.cells rfl rfl gg (RnL.same c) (RB.map rfl rfl gg (RnM.mapG fun _ _=>⟨rfl,rfl⟩) (RB.cells rfl rfl gg (RnL.same (Qax Qaa _)) (RB.cells rfl rfl gg (RnL.same (Qab _)) (RB.cells rfl rfl gg (RnL.same (Qaf _)) RB.nil)))))
    rintro _ Z;simp(disch:=first|omega|exact PairsOK.mk rfl|(simp only[lenW]<;>omega))only[Qac,Qad,Qae,wW,wV,simprocAttr];refine⟨(i+1,pRow l (evA l) i t s),by dsimp only;omega,⟨Nat.le_trans d L.length_le,hpo,by dsimp only;omega,Z,P⟩,?_⟩;dsimp only;rw[QjH L d];refine⟨[(51,.blk 51 0),(52,.blk 52 0),(53,.blk 53 0),(60,.blk 60 0),(70,.blk 70 0),(71,.blk 71 0)],rfl,au0,?_,au13⟩;exact RB.cells rfl rfl gg (RnL.cons (Rn.same (Qaa _)) (RnL.cons (Rn.same rfl) (RnL.cons (Rn.x1 rfl rfl) (RnL.cons (Rn.x1 rfl rfl) RnL.nil)))) (RB.cells rfl rfl gg (RnL.same c) (RB.map rfl rfl gg (RnM.mapG fun _ _=>⟨rfl,rfl⟩) (RB.cells rfl rfl gg (RnL.same (Qax Qaa _)) (RB.cells rfl rfl gg (RnL.same (Qab _)) (RB.cells rfl rfl gg (RnL.same (Qaf _)) RB.nil)))))
   rw[hmb]at M y;rw[if_pos rfl]at y;simp(disch:=first|omega|exact PairsOK.mk rfl|(simp only[lenW]<;>omega))only[d,Qeb O,Qac,Qad,Qae,wW,wV,simprocAttr];refine cp M ?_;simp(disch:=first|omega|exact PairsOK.mk rfl|(simp only[lenW]<;>omega))only[Qac,Qad,Qae,wW,wV,simprocAttr];have hmk:marks l s.1 (i+1)=marks l s.1 i++[i]:=y;refine Qay 420 (fun j:Nat=>[(2,.ptr 51 0 0),(6,.ptr 52 0 0),(3,.sl 60 0 0 (pRow l ((evA l).take j) i t s).1.length 1),(9,.map 53 0),(10,.int .i64 (i)),(61,sliN (evA l)),(62,.int .i64 (evA l).length),(63,.int .i64 j)]) (fun j=>[(51,.cells 0 [sliN (evA l),.int .i64 0,.sl 70 0 0 (marks l s.1 (i+1)).length 1,.sl 71 0 0 (pRow l ((evA l).take j) i t s).2.length 3]),(52,.cells 0 [auts l,sliN (evA l),.fsl (l.map emV) l.length 1]),(53,.map 0 (mapG keyC (ixV (pRow l ((evA l).take j) i t s).1) (pRow l ((evA l).take j) i t s).1)),(60,.cells 0 ((pRow l ((evA l).take j) i t s).1.map sliN)),(70,.cells 0 (ints (nz (marks l s.1 (i+1))))),(71,.cells 0 ((pRow l ((evA l).take j) i t s).2.flatMap edC))]) (fun j=>j<=(evA l).length/\(pRow l ((evA l).take j) i t s).1.length<=4096) (fun j=>(evA l).length-j) 0 2 700 (fun _:Unit=>[(2,.ptr 51 0 0),(6,.ptr 52 0 0),(3,.sl 60 0 0 (pRow l (evA l) i t s).1.length 1),(9,.map 53 0),(10,.int .i64 (i))]) (fun _=>[(51,.cells 0 [sliN (evA l),.int .i64 0,.sl 70 0 0 (marks l s.1 (i+1)).length 1,.sl 71 0 0 (pRow l (evA l) i t s).2.length 3]),(52,.cells 0 [auts l,sliN (evA l),.fsl (l.map emV) l.length 1]),(53,.map 0 (mapG keyC (ixV (pRow l (evA l) i t s).1) (pRow l (evA l) i t s).1)),(60,.cells 0 ((pRow l (evA l) i t s).1.map sliN)),(70,.cells 0 (ints (nz (marks l s.1 (i+1))))),(71,.cells 0 ((pRow l (evA l) i t s).2.flatMap edC))]) (fun _=>(pRow l (evA l) i t s).1.length<=4096) ?_ ⟨Nat.zero_le _,N⟩ ?_ ?_;·show Rec _ _ [(51,.cells 0 [sliN (evA l),.int .i64 0,.sl 70 0 0 (marks l s.1 (i+1)).length 1,.sl 71 0 0 s.2.length 3]),(52,.cells 0 [auts l,sliN (evA l),.fsl (l.map emV) l.length 1]),(53,.map 0 (mapG keyC (ixV s.1) s.1)),(60,.cells 0 (s.1.map sliN)),(70,.cells 0 (ints (nz (marks l s.1 (i+1))))),(71,.cells 0 (s.2.flatMap edC))] _ _;rw[hmk,List.length_append,QaU,QaK];refine⟨[(51,.blk 51 0),(52,.blk 52 0),(53,.blk 53 0),(60,.blk 60 0),(70,.blk 70 1),(71,.blk 71 0)],rfl,au0,?_,au13⟩;exact RB.cells rfl rfl gg (RnL.cons (Rn.same (Qaa _)) (RnL.cons (Rn.same rfl) (RnL.cons (Rn.x1 rfl rfl) (RnL.cons (Rn.x1 rfl rfl) RnL.nil)))) (RB.cells rfl rfl gg (RnL.same c) (RB.map rfl rfl gg (RnM.mapG fun _ _=>⟨rfl,rfl⟩) (RB.cells rfl rfl gg (RnL.same (Qax Qaa _)) (RB.cells rfl rfl gg (RnL.same (SU.Qa8 (Qab _) rfl)) (RB.cells rfl rfl gg (RnL.same (Qaf _)) RB.nil)))))
   ·rintro j⟨hj,o⟩;by_cases m:j<(evA l).length
    ·obtain⟨e,he⟩:=Qav m;have w:=QdN (i:=i) (ev:=(evA l).take j) hw v hp;have E:=Qcx (l:=l) (i:=i) (t:=t) (ev:=(evA l).take j) (s:=s);have Y:=Qfb (l:=l) (i:=i) (t:=t) (ev:=(evA l).take j) (s:=s);have X:=Qfl (l:=l) (ev:=evA l) (i:=i) (k:=j+1) (t:=t) (s:=s);have b:=QjI (l:=l) (i:=i) (t:=t) (s:=s) he;rw[List.length_take]at Y;generalize pRow l ((evA l).take j) i t s=u at*;have I:i<u.1.length:=Nat.lt_of_lt_of_le d E.length_le;have C:u.1[i]?=some t:=by rw[Qgi E d];exact O
     have hub:=Qc7 w.nd w.inT;have F:(u.1.map sliN).length=u.1.length:=List.length_map ..;have r:(u.2.flatMap edC).length=u.2.length*3:=Qby (k:=3) (fun _=>rfl) u.2;have p:=step100 l t e h h0 (by omega) v.1;cases A:stepT l t e with|none=>
      rw[A]at p;have g:pEv l i t u e=u:=by unfold pEv;rw[A]
      rw[g]at b;simp(disch:=first|omega|exact PairsOK.mk rfl|(simp only[lenW]<;>omega))only[m,I,QaW he,Qeb C,Qac,Qad,Qae,wW,wV,simprocAttr];refine cp p ?_;simp(disch:=first|omega|exact PairsOK.mk rfl|(simp only[lenW]<;>omega))only[stV,Qac,Qad,Qae,wW,wV,simprocAttr];refine⟨j+1,by omega,⟨by omega,by rw[b];exact o⟩,?_⟩;rw[b];refine⟨[(51,.blk 51 0),(52,.blk 52 0),(53,.blk 53 0),(60,.blk 60 0),(70,.blk 70 0),(71,.blk 71 0)],rfl,au0,?_,au13⟩;exact RB.cells rfl rfl gg (RnL.cons (Rn.same (Qaa _)) (RnL.cons (Rn.same rfl) (RnL.cons (Rn.x1 rfl rfl) (RnL.cons (Rn.x1 rfl rfl) RnL.nil)))) (RB.cells rfl rfl gg (RnL.same c) (RB.map rfl rfl gg (RnM.mapG fun _ _=>⟨rfl,rfl⟩) (RB.cells rfl rfl gg (RnL.same (Qax Qaa _)) (RB.cells rfl rfl gg (RnL.same (Qab _)) (RB.cells rfl rfl gg (RnL.same (Qaf _)) RB.nil)))))|some n=>
      rw[A]at p;have H:=Qe8 hw v A;have K:=G n H;have k:=Qf1 h H w.inT;simp(disch:=first|omega|exact PairsOK.mk rfl|(simp only[lenW]<;>omega))only[m,I,QaW he,Qeb C,Qac,Qad,Qae,wW,wV,simprocAttr];refine cp p ?_;simp(disch:=first|omega|exact PairsOK.mk rfl|(simp only[lenW]<;>omega))only[stV,Qac,Qad,Qae,wW,wV,simprocAttr];refine cp K ?_;simp(disch:=first|omega|exact PairsOK.mk rfl|(simp only[lenW]<;>omega))only[Qac,Qad,Qae,wW,wV,simprocAttr];by_cases hm:n∈u.1
      ·have g:pEv l i t u e=(u.1,u.2++[(i,e,ixT u.1 n)]):=by unfold pEv;rw[A];simp only[if_pos hm]
       rw[g]at b;refine QgU (c:=keyC) (f:=ixV u.1) (x:=n) (l:=u.1) (g:=0) gg k hm ?_;simp(disch:=first|omega|exact PairsOK.mk rfl|(simp only[lenW]<;>omega))only[ixV,r,Qac,Qad,Qae,wW,wV,simprocAttr];refine⟨j+1,by omega,⟨by omega,by rw[b];exact o⟩,?_⟩;rw[b,List.length_append,List.flatMap_append];refine⟨[(51,.blk 51 0),(52,.blk 52 0),(53,.blk 53 0),(60,.blk 60 0),(70,.blk 70 0),(71,.blk 71 1)],rfl,au0,?_,au13⟩;exact RB.cells rfl rfl gg (RnL.cons (Rn.same (Qaa _)) (RnL.cons (Rn.same rfl) (RnL.cons (Rn.x1 rfl rfl) (RnL.cons (Rn.x1 rfl rfl) RnL.nil)))) (RB.cells rfl rfl gg (RnL.same c) (RB.map rfl rfl gg (RnM.mapG fun _ _=>⟨rfl,rfl⟩) (RB.cells rfl rfl gg (RnL.same (Qax Qaa _)) (RB.cells rfl rfl gg (RnL.same (Qab _)) (RB.cells rfl rfl gg (RnL.same (SU.Qa8 (Qaf _) rfl)) RB.nil)))))
      have g:pEv l i t u e=(u.1++[n],u.2++[(i,e,u.1.length)]):=by unfold pEv;rw[A];simp only[if_neg hm];rw[show u.1.findIdx (·==n)=u.1.length from Qiy hm]
      rw[g]at b;have T:=QmY hm;by_cases h4:u.1.length=4096
      ·have f:((u.1.length:Nat):Int)=4096:=by omega
       have B:¬(sync0 l).1.length<=4096:=by have q1:=X.length_le;rw[b,List.length_append,List.length_singleton]at q1;have q2:=(Qh7 (l:=l) (ev:=evA l) (k:=box l+1-(i+1)) (i:=i+1) (s:=pRow l (evA l) i t s)).length_le;rw[P]at q2;omega
       rw[J B];refine Qc6 (c:=keyC) (f:=ixV u.1) (x:=n) (l:=u.1) (g:=0) gg k hm ?_;simp(disch:=first|omega|exact PairsOK.mk rfl|(simp only[lenW]<;>omega))only[f,Qac,Qad,Qae,wW,wV,simprocAttr];exact⟨.inr trivial,_,rfl,Rn.same rfl⟩
      have f:¬((u.1.length:Nat):Int)=4096:=by omega
      refine Qc6 (c:=keyC) (f:=ixV u.1) (x:=n) (l:=u.1) (g:=0) gg k hm ?_;simp(disch:=first|omega|exact PairsOK.mk rfl|(simp only[lenW]<;>omega))only[f,Qac,Qad,Qae,wW,wV,simprocAttr];refine cp K ?_;simp(disch:=first|omega|exact PairsOK.mk rfl|(simp only[lenW]<;>omega))only[Qac,Qad,Qae,wW,wV,simprocAttr];refine Qcu (c:=keyC) (f:=ixV u.1) (x:=n) (l:=u.1) (g:=0) gg k hm (by omega) ?_;rw[T];simp(disch:=first|omega|exact PairsOK.mk rfl|(simp only[lenW]<;>omega))only[F,r,Qaa,Qac,Qad,Qae,wW,wV,simprocAttr];refine⟨j+1,by omega,⟨by omega,by rw[b,List.length_append,List.length_singleton];omega⟩,?_⟩;rw[b,List.length_append,List.length_append,List.flatMap_append,List.map_append];refine⟨[(51,.blk 51 0),(52,.blk 52 0),(53,.blk 53 0),(60,.blk 60 1),(70,.blk 70 0),(71,.blk 71 1)],rfl,au0,?_,au13⟩;exact RB.cells rfl rfl gg (RnL.cons (Rn.same (Qaa _)) (RnL.cons (Rn.same rfl) (RnL.cons (Rn.x1 rfl rfl) (RnL.cons (Rn.x1 rfl rfl) RnL.nil)))) (RB.cells rfl rfl gg (RnL.same c) (RB.map rfl rfl gg (RnM.mapG fun _ _=>⟨rfl,rfl⟩) (RB.cells rfl rfl gg (RnL.same (SU.Qa8 (Qax Qaa _) (Qax Qaa [n]))) (RB.cells rfl rfl gg (RnL.same (Qab _)) (RB.cells rfl rfl gg (RnL.same (SU.Qa8 (Qaf _) rfl)) RB.nil)))))
    have e2:j=(evA l).length:=by omega
    subst e2;rw[List.take_length]at o;simp(disch:=first|omega|exact PairsOK.mk rfl|(simp only[lenW]<;>omega))only[m,List.take_length,Qac,Qad,Qae,wW,wV,simprocAttr];refine⟨(),o,?_⟩;refine⟨[(51,.blk 51 0),(52,.blk 52 0),(53,.blk 53 0),(60,.blk 60 0),(70,.blk 70 0),(71,.blk 71 0)],rfl,au0,?_,au13⟩;exact RB.cells rfl rfl gg (RnL.cons (Rn.same (Qaa _)) (RnL.cons (Rn.same rfl) (RnL.cons (Rn.x1 rfl rfl) (RnL.cons (Rn.x1 rfl rfl) RnL.nil)))) (RB.cells rfl rfl gg (RnL.same c) (RB.map rfl rfl gg (RnM.mapG fun _ _=>⟨rfl,rfl⟩) (RB.cells rfl rfl gg (RnL.same (Qax Qaa _)) (RB.cells rfl rfl gg (RnL.same (Qab _)) (RB.cells rfl rfl gg (RnL.same (Qaf _)) RB.nil)))))
   rintro _ Z;simp(disch:=first|omega|exact PairsOK.mk rfl|(simp only[lenW]<;>omega))only[Qac,Qad,Qae,wW,wV,simprocAttr];refine⟨(i+1,pRow l (evA l) i t s),by dsimp only;omega,⟨Nat.le_trans d L.length_le,hpo,by dsimp only;omega,Z,P⟩,?_⟩;dsimp only;rw[QjH L d];refine⟨[(51,.blk 51 0),(52,.blk 52 0),(53,.blk 53 0),(60,.blk 60 0),(70,.blk 70 0),(71,.blk 71 0)],rfl,au0,?_,au13⟩;exact RB.cells rfl rfl gg (RnL.cons (Rn.same (Qaa _)) (RnL.cons (Rn.same rfl) (RnL.cons (Rn.x1 rfl rfl) (RnL.cons (Rn.x1 rfl rfl) RnL.nil)))) (RB.cells rfl rfl gg (RnL.same c) (RB.map rfl rfl gg (RnM.mapG fun _ _=>⟨rfl,rfl⟩) (RB.cells rfl rfl gg (RnL.same (Qax Qaa _)) (RB.cells rfl rfl gg (RnL.same (Qab _)) (RB.cells rfl rfl gg (RnL.same (Qaf _)) RB.nil)))))
  have hfin:s=sync0 l:=by rw[<-hq,QqT (List.getElem?_eq_none (by omega))]
  have e2:i=s.1.length:=by omega
  subst e2;rw[<-hfin];simp(disch:=first|omega|exact PairsOK.mk rfl|(simp only[lenW]<;>omega))only[d,Qac,Qad,Qae,wW,wV,simprocAttr];refine⟨(),N,[(51,.blk 51 0)],rfl,RO.zero,?_,?_⟩;·exact RB.cells rfl rfl gg (RnL.cons (Rn.same (Qaa _)) (RnL.cons (Rn.same rfl) (RnL.cons (Rn.fzm rfl rfl rfl rfl (by simp[ints]) (RnL.same (Qab _))) (RnL.cons (Rn.fzm rfl rfl rfl rfl (Qby (k:=3) (fun _=>rfl) _) (RnL.same (Qaf _))) RnL.nil)))) RB.nil
  exact RT.cons (Rn.x2 rfl rfl) (RT.cons (Rn.fz (b:=60) (g:=0) gg rfl rfl (by simp) (RnL.same (Qax Qaa _))) RT.nil)
 rintro _ hE4;rw[U hE4];simp(disch:=first|omega|exact PairsOK.mk rfl|(simp only[lenW]<;>omega))only[Qac,Qad,Qae,wW,wV,simprocAttr];refine⟨.inr trivial,_,rfl,?_⟩;exact Rn.same R
end Go.AM.SO
namespace Go.AM.SO
open Go.Proofs Go.AM.SD Go.AM.SE
theorem Qo6(l:List Aut):noRef (.tup [aV (syncA l),tuV (sync0 l).1,.int .i64 0])=true:=by rw[noRef,noRefs,noRefs,Qbo,noRef,noRefs,noRefs,noRefs,noRefs,Qaa,Qaa,Qak];rfl
theorem QmZ{T:List (List Nat)}{i:Nat}{t:List Nat}(h:T[i]?=some t):((T.map sliN).drop i).head?=some (sliN t):=by rw[List.head?_drop,Qeb h]
end Go.AM.SO
namespace Go.AM.TX
open Go.Proofs
set_option maxHeartbeats 4000000
noncomputable section
def cf:YA.Cf:={most:=.pure}
def s95:SFn:=by
 refine(?f:YA.Yt Tryz.prog cf 95 [[1,2,6,7,8],[],[12,13,14],[5,15,16,17,18],[19,20]]) ?s ?h;case h=>exact YA.rr
 exact fun s _=>s
def s96:SFn:=by
 refine(?f:YA.Yt Tryz.prog cf 96 [[0],[6,7],[1,2,8],[1,8],[9,10],[2,5,11,12],[13],[2,9]]) ?s ?h;case h=>exact YA.rr
 exact fun s _=>s
def s98:SFn:=by
 refine(?f:YA.Yt Tryz.prog cf 98 [[1,2,6,7,8],[],[12,13,14],[5,15,16,17,18],[19,20]]) ?s ?h;case h=>exact YA.rr
 exact fun s _=>s
def s84:SFn:=by
 refine(?f:YA.Yt Tryz.prog cf 84 [[2],[6],[],[9,10],[11,12,13],[14,15,16,19,20,27,28,31],[3,4,5,32,33,34],[0,7,8,44,41,43,42,40,37,39,38,36,35,30,29,26,23,25,24,22,21,18,17,53,52,51,45],[2,45,46],[0,7,8,44,41,43,42,40,37,39,38,36,35,30,29,26,23,25,24,22,21,18,17,53,52,51,47,48,49,50,54]]) ?s ?h;case h=>exact YA.rr
 exact fun s _=>s
theorem ok95:okFn Tryz.prog 95 s95=true:=by kernel_rfl
theorem ok96:okFn Tryz.prog 96 s96=true:=by kernel_rfl
theorem ok98:okFn Tryz.prog 98 s98=true:=by kernel_rfl
theorem ok84:okFn Tryz.prog 84 s84=true:=by kernel_rfl
end
end Go.AM.TX
namespace Go.AM.SE
open Go.Proofs Go.AM.SD
def fe(f:Nat->Int):Nat->Int|0=>0|n+1=>if fe f n=0 then f n else fe f n
theorem QbV{f:Nat->Int}:∀{n:Nat},(∀j,j<n->f j=0)->fe f n=0|0,_=>rfl|n+1,h=>by rw[fe,if_pos (QbV fun j a=>h j (by omega))];exact h n (Nat.lt_succ_self n)
theorem fe_at{f:Nat->Int}{i:Nat}{e:Int}(hf:f i=e)(he:e≠0)(a:∀j,j<i->f j=0):∀{n:Nat},i<n->fe f n=e
 |0,h=>absurd h (Nat.not_lt_zero _)|n+1,h=>by
  rw[fe];by_cases b:i=n;·subst b;rw[if_pos (QbV a)];exact hf
  have :=fe_at hf he a (n:=n) (by omega);rw[if_neg (by rw[this];exact he)];exact this
theorem Qiz{f:Nat->Int}:∀{n:Nat},fe f n=0->∀j,j<n->f j=0
 |0,_,j,b=>absurd b (Nat.not_lt_zero _)|n+1,h,j,b=>by
  rw[fe]at h;split at h
  ·rename_i a;by_cases e:j=n;·subst e;exact h
   exact Qiz a j (by omega)
  rename_i a;exact absurd h a
theorem fe_up{f:Nat->Int}{i:Nat}(a:∀j,j<i->f j=0)(h:f i=0):∀j,j<i+1->f j=0:=fun j b=>by
 by_cases e:j=i;·subst e;exact h
 exact a j (by omega)
def setE(l:List Int)(n:Int)(i:Nat):Int:=if l.getD i 0<0\/n<=l.getD i 0 then 2 else if 0<i/\l.getD i 0<=l.getD (i-1) 0 then 5 else 0
def setErr(l:List Int)(n:Int):Int:=fe (setE l n) l.length
theorem Qa5{α:Type}{l:List α}{i:Nat}{x d:α}(h:l[i]?=some x):l.getD i d=x:=by rw[List.getD_eq_getElem?_getD,h];rfl
theorem set49X(l:List Int)(n:Int)(t:l.length<=9223372036854775807):PSpec Tryz.prog 70 [sli l,.int .i64 n] (.int .i64 (setErr l n)):=by
 refine PSpec.QaB 64 ok70 rfl (by(try simp only[noRefs,Qab,Qal,Qaf,Qan,Qai,noRef,Bool.and_self,Bool.and_true])<;>rfl) rfl ?_;simp(disch:=first|omega|(simp only[lenW]<;>omega))only[s70,wV,simprocAttr];refine Qbh 100 (fun i:Nat=>[(0,sli l),(1,.int .i64 n),(7,sli l),(8,.int .i64 l.length),(9,.int .i64 i)]) (fun _=>[]) (fun i=>i<=l.length/\∀j,j<i->setE l n j=0) (fun i=>l.length-i) 0 ⟨[],rfl,au0,au1,au2⟩ ⟨Nat.zero_le _,fun j q=>absurd q (Nat.not_lt_zero _)⟩ ?_;rintro i⟨hi,d⟩;by_cases a:i<l.length
 ·obtain⟨x,f⟩:=Qav a;have b:l.getD i 0=x:=Qa5 f;by_cases h1:x<0;·simp(disch:=first|omega|(simp only[lenW]<;>omega))only[a,QaT f,h1,wV,simprocAttr];exact⟨.inr trivial,_,rfl,by rw[setErr,fe_at (e:=2) (by unfold setE;rw[b,if_pos (.inl h1)]) (by decide) d a];rfl⟩
  by_cases g:n<=x;·simp(disch:=first|omega|(simp only[lenW]<;>omega))only[a,QaT f,h1,g,wV,simprocAttr];exact⟨.inr trivial,_,rfl,by rw[setErr,fe_at (e:=2) (by unfold setE;rw[b,if_pos (.inr g)]) (by decide) d a];rfl⟩
  have c:¬(x<0\/n<=x):=by omega
  by_cases s:i=0
  ·have k:¬(0:Int)<(i:Int):=by omega
   simp(disch:=first|omega|(simp only[lenW]<;>omega))only[a,QaT f,h1,g,k,wV,simprocAttr];exact⟨i+1,by omega,⟨by omega,fe_up d (by unfold setE;rw[b,if_neg c,if_neg (by omega)])⟩,⟨[],rfl,au0,au1,au2⟩⟩
  obtain⟨y,m⟩:=Qav (l:=l) (i:=i-1) (by omega);have h:l.getD (i-1) 0=y:=Qa5 m;have k:(0:Int)<(i:Int):=by omega
  have r:(i:Int)-1=((i-1:Nat):Int):=by omega
  have p:((i-1:Nat):Int)<l.length:=by omega
  by_cases o:x<=y;·simp(disch:=first|omega|(simp only[lenW]<;>omega))only[a,QaT f,h1,g,k,r,p,QaT m,o,wV,simprocAttr];exact⟨.inr trivial,_,rfl,by rw[setErr,fe_at (e:=5) (by unfold setE;rw[b,h,if_neg c,if_pos ⟨by omega,o⟩]) (by decide) d a];rfl⟩
  simp(disch:=first|omega|(simp only[lenW]<;>omega))only[a,QaT f,h1,g,k,r,p,QaT m,o,wV,simprocAttr];exact⟨i+1,by omega,⟨by omega,fe_up d (by unfold setE;rw[b,h,if_neg c,if_neg (by omega)])⟩,⟨[],rfl,au0,au1,au2⟩⟩
 simp(disch:=first|omega|(simp only[lenW]<;>omega))only[a,wV,simprocAttr];exact⟨.inr trivial,_,rfl,by rw[setErr,QbV fun j q=>d j (by omega)];rfl⟩
theorem Qf2{l:List Int}{n:Int}(h:setErr l n=0):SetOk l n:=by
 have b:=Qiz h;have h1:∀i x,l[i]?=some x->(0<=x/\x<n)/\(0<i->∀y,l[i-1]?=some y->y<x):=fun i x a=>by
  have hi:=(List.getElem?_eq_some_iff.1 a).1;have:=b i hi;unfold setE at this;rw[Qa5 a]at this;split at this;·cases this
  split at this;·cases this
  rename_i q1 q2;refine⟨by omega,fun hi y g=>?_⟩;rw[Qa5 g]at q2;omega
 refine⟨fun x a=>?_,?_⟩;·obtain⟨i,hi,rfl⟩:=List.getElem_of_mem a;exact(h1 i _ (List.getElem?_eq_getElem hi)).1
 have :∀k i,i+k+1<l.length->l.getD i 0<l.getD (i+k+1) 0:=by intro k;induction k with|zero=>intro i hi;have:=(h1 (i+1) _ (List.getElem?_eq_getElem (by omega))).2 (by omega) _ (by rw[show i+1-1=i by omega];exact List.getElem?_eq_getElem (by omega));rw[List.getD_eq_getElem?_getD,List.getD_eq_getElem?_getD,List.getElem?_eq_getElem (by omega),List.getElem?_eq_getElem (by omega)];exact this|succ k d=>intro i hi;have q1:=d i (by omega);have:=(h1 (i+(k+1)+1) _ (List.getElem?_eq_getElem (by omega))).2 (by omega) _ (by rw[show i+(k+1)+1-1=i+k+1 by omega];exact List.getElem?_eq_getElem (by omega));rw[List.getD_eq_getElem?_getD,List.getD_eq_getElem?_getD,List.getElem?_eq_getElem (by omega),List.getElem?_eq_getElem (by omega)]at q1⊢;exact Int.lt_trans q1 this
 rw[List.pairwise_iff_getElem];intro i j hi c f;have:=this (j-i-1) i (by omega);rw[show i+(j-i-1)+1=j by omega,List.getD_eq_getElem?_getD,List.getD_eq_getElem?_getD,List.getElem?_eq_getElem hi,List.getElem?_eq_getElem c]at this;exact this
def edgE(a:Au)(i:Nat):Int:=let x:=a.es.getD i ⟨0,0,0⟩
 let y:=a.es.getD (i-1) ⟨0,0,0⟩
 if x.fr<0\/a.n<=x.fr\/x.to<0\/a.n<=x.to then 2 else if x.ev∉a.al then 9 else if 0<i/\(x.fr<y.fr\/(x.fr=y.fr/\x.ev<=y.ev))then 5 else 0
def edgErr(a:Au):Int:=fe (edgE a) a.es.length
theorem edges50X(a:Au)(r:a.es.length<=140737488355328)(q:a.al.length<=140737488355328):PSpec Tryz.prog 71 [auV a] (.int .i64 (edgErr a)):=by
 refine PSpec.QaB 64 ok71 rfl (by(try simp only[noRefs,Qab,Qal,Qaf,Qan,Qai,noRef,Bool.and_self,Bool.and_true])<;>rfl) rfl ?_;simp(disch:=first|omega|(simp only[lenW]<;>omega))only[s71,wV,simprocAttr];refine Qbh 100 (fun i:Nat=>[(1,.ptr 50 0 0),(7,egs a.es),(8,.int .i64 a.es.length),(9,.int .i64 i)]) (fun _=>[(50,.cells 0 [sli a.al,.int .i64 a.n,sli a.ms,egs a.es])]) (fun i=>i<=a.es.length/\∀j,j<i->edgE a j=0) (fun i=>a.es.length-i) 0 ⟨[(50,.blk 64 0)],rfl,au0,au1,au2⟩ ⟨Nat.zero_le _,fun j p=>absurd p (Nat.not_lt_zero _)⟩ ?_;rintro i⟨hi,g⟩;by_cases b:i<a.es.length
 ·obtain⟨x,f⟩:=Qav b;have c:a.es.getD i ⟨0,0,0⟩=x:=Qa5 f;by_cases f1:x.fr<0;·simp(disch:=first|omega|(simp only[lenW]<;>omega))only[b,Qba f,f1,wV,simprocAttr];exact⟨.inr trivial,_,rfl,by rw[edgErr,fe_at (e:=2) (by unfold edgE;dsimp only;rw[c,if_pos (by omega)]) (by decide) g b];rfl⟩
  by_cases f2:a.n<=x.fr;·simp(disch:=first|omega|(simp only[lenW]<;>omega))only[b,Qba f,f1,f2,wV,simprocAttr];exact⟨.inr trivial,_,rfl,by rw[edgErr,fe_at (e:=2) (by unfold edgE;dsimp only;rw[c,if_pos (by omega)]) (by decide) g b];rfl⟩
  by_cases t1:x.to<0;·simp(disch:=first|omega|(simp only[lenW]<;>omega))only[b,Qba f,f1,f2,t1,wV,simprocAttr];exact⟨.inr trivial,_,rfl,by rw[edgErr,fe_at (e:=2) (by unfold edgE;dsimp only;rw[c,if_pos (by omega)]) (by decide) g b];rfl⟩
  by_cases t2:a.n<=x.to;·simp(disch:=first|omega|(simp only[lenW]<;>omega))only[b,Qba f,f1,f2,t1,t2,wV,simprocAttr];exact⟨.inr trivial,_,rfl,by rw[edgErr,fe_at (e:=2) (by unfold edgE;dsimp only;rw[c,if_pos (by omega)]) (by decide) g b];rfl⟩
  have hc:=contains62 a.al x.ev q;simp(disch:=first|omega|(simp only[lenW]<;>omega))only[b,Qba f,f1,f2,t1,t2,wV,simprocAttr];refine cp hc ?_;by_cases d:x.ev∈a.al
  ·rw[decide_eq_true d];by_cases s:i=0
   ·have k:(i:Int)=0:=by omega
    simp(disch:=first|omega|(simp only[lenW]<;>omega))only[b,Qba f,k,wV,simprocAttr];exact⟨1,by omega,⟨by omega,fun j p=>by rw[show j=i by omega];unfold edgE;dsimp only;rw[c,if_neg (by omega),if_neg (by simpa using d),if_neg (by omega)]⟩,⟨[(50,.blk 50 0)],rfl,au0,au1,au2⟩⟩
   obtain⟨y,l⟩:=Qav (l:=a.es) (i:=i-1) (by omega);have h:a.es.getD (i-1) ⟨0,0,0⟩=y:=Qa5 l;have k:¬(i:Int)=0:=by omega
   have o:(i:Int)-1=((i-1:Nat):Int):=by omega
   have m:((i-1:Nat):Int)<a.es.length:=by omega
   by_cases g1:x.fr<y.fr;·simp(disch:=first|omega|(simp only[lenW]<;>omega))only[b,Qba f,k,o,m,Qba l,g1,wV,simprocAttr];exact⟨.inr trivial,_,rfl,by rw[edgErr,fe_at (e:=5) (by unfold edgE;dsimp only;rw[c,h,if_neg (by omega),if_neg (by simpa using d),if_pos (by omega)]) (by decide) g b];rfl⟩
   by_cases g2:x.fr=y.fr
   ·by_cases g3:x.ev<=y.ev;·simp(disch:=first|omega|(simp only[lenW]<;>omega))only[b,Qba f,k,o,m,Qba l,g1,g2,g3,wV,simprocAttr];exact⟨.inr trivial,_,rfl,by rw[edgErr,fe_at (e:=5) (by unfold edgE;dsimp only;rw[c,h,if_neg (by omega),if_neg (by simpa using d),if_pos (by omega)]) (by decide) g b];rfl⟩
    simp(disch:=first|omega|(simp only[lenW]<;>omega))only[b,Qba f,k,o,m,Qba l,g1,g2,g3,wV,simprocAttr];exact⟨i+1,by omega,⟨by omega,fe_up g (by unfold edgE;dsimp only;rw[c,h,if_neg (by omega),if_neg (by simpa using d),if_neg (by omega)])⟩,⟨[(50,.blk 50 0)],rfl,au0,au1,au2⟩⟩
   simp(disch:=first|omega|(simp only[lenW]<;>omega))only[b,Qba f,k,o,m,Qba l,g1,g2,wV,simprocAttr];exact⟨i+1,by omega,⟨by omega,fe_up g (by unfold edgE;dsimp only;rw[c,h,if_neg (by omega),if_neg (by simpa using d),if_neg (by omega)])⟩,⟨[(50,.blk 50 0)],rfl,au0,au1,au2⟩⟩
  rw[decide_eq_false d];simp(disch:=first|omega|(simp only[lenW]<;>omega))only[b,Qba f,wV,simprocAttr];exact⟨.inr trivial,_,rfl,by rw[edgErr,fe_at (e:=9) (by unfold edgE;dsimp only;rw[c,if_neg (by omega),if_pos d]) (by decide) g b];rfl⟩
 simp(disch:=first|omega|(simp only[lenW]<;>omega))only[b,wV,simprocAttr];exact⟨.inr trivial,_,rfl,by rw[edgErr,QbV fun j p=>g j (by omega)];rfl⟩
def auErr(a:Au):Int:=if setErr a.al 32≠0 then setErr a.al 32 else if a.n<0 then 2 else if 4096<a.n then 3 else if setErr a.ms a.n≠0 then setErr a.ms a.n else edgErr a
theorem SetOk.len{l:List Int}{n:Int}(h:SetOk l n):(l.length:Int)<=max n 0:=by
 have h1:(l.map Int.toNat).Pairwise (·<·):=by rw[List.pairwise_map];refine h.2.imp_of_mem fun{x y}a b c=>?_;have:=(h.1 x a).1;omega
 have:=Qbb n.toNat (l.map Int.toNat) (by rw[List.nodup_iff_pairwise_ne];exact h1.imp fun h=>by omega) fun x a=>by obtain⟨y,b,rfl⟩:=List.mem_map.1 a;have:=h.1 y b;omega
 rw[List.length_map]at this;omega
theorem check37X(a:Au)(h1:a.al.length<=9223372036854775807)(f:a.ms.length<=9223372036854775807)(j:a.es.length<=140737488355328):PSpec Tryz.prog 32 [auV a] (.int .i64 (auErr a)):=by
 refine PSpec.QaB 64 ok32 rfl (by(try simp only[noRefs,Qab,Qal,Qaf,Qan,Qai,noRef,Bool.and_self,Bool.and_true])<;>rfl) rfl ?_;have i:=set49X a.al 32 h1;have g:=set49X a.ms a.n f;have b:setErr a.al 32=0->_:=fun h=>edges50X a j (by have:=(Qf2 h).len;omega);unfold auErr;generalize setErr a.al 32=v1 at*;generalize setErr a.ms a.n=v2 at*;generalize edgErr a=v3 at*;simp(disch:=first|omega|(simp only[lenW]<;>omega))only[s32,wV,simprocAttr];refine cp i ?_;by_cases q1:v1=0
 ·have b:=b q1;simp(disch:=first|omega|(simp only[lenW]<;>omega))only[q1,wV,simprocAttr];by_cases q2:a.n<0;·simp(disch:=first|omega|(simp only[lenW]<;>omega))only[q2,wV,simprocAttr];exact⟨.inr trivial,_,rfl,rfl⟩
  by_cases c:4096<a.n;·simp(disch:=first|omega|(simp only[lenW]<;>omega))only[q2,c,wV,simprocAttr];exact⟨.inr trivial,_,rfl,rfl⟩
  simp(disch:=first|omega|(simp only[lenW]<;>omega))only[q2,c,wV,simprocAttr];refine cp g ?_;by_cases d:v2=0;·simp(disch:=first|omega|(simp only[lenW]<;>omega))only[d,wV,simprocAttr];refine cp b ?_;simp(disch:=first|omega|(simp only[lenW]<;>omega))only[wV,simprocAttr];exact⟨.inr trivial,_,rfl,rfl⟩
  simp(disch:=first|omega|(simp only[lenW]<;>omega))only[d,wV,simprocAttr];exact⟨.inr trivial,_,rfl,rfl⟩
 simp(disch:=first|omega|(simp only[lenW]<;>omega))only[q1,wV,simprocAttr];exact⟨.inr trivial,_,rfl,rfl⟩
end Go.AM.SE
namespace Go.AM.SO
open Go.Proofs Go.AM.SD Go.AM.SE
theorem QnG{s:List UInt8}{i:Nat}{b:UInt8}(h:s[i]?=some b):aIndex none (.str s) (.int .i64 (i:Int))=some (.int .u8 ((b.toNat:Nat):Int)):=by simp[aIndex,h]
def okC(i n:Nat):Bool:=decide (97<=n/\n<=122\/65<=n/\n<=90\/n=95\/0<i/\48<=n/\n<=57)
def nmOk(s:List UInt8):Bool:=(List.range s.length).all (fun i=>okC i (s.getD i 0).toNat)&&decide (0<s.length)&&decide (s.length<=32)
theorem Qp7{s:List UInt8}{i:Nat}{b:UInt8}(h:s[i]?=some b)(a:okC i b.toNat=false):nmOk s=false:=by
 have:(List.range s.length).all (fun i=>okC i (s.getD i 0).toNat)=false:=by rw[List.all_eq_false];exact⟨i,List.mem_range.2 (List.getElem?_eq_some_iff.1 h).1,by rw[Qa5 h,a];simp⟩
 unfold nmOk;rw[this];rfl
theorem Qp8{s:List UInt8}(h:∀(i:Nat)b,s[i]?=some b->okC i b.toNat=true):nmOk s=(decide (0<s.length)&&decide (s.length<=32)):=by
 have:(List.range s.length).all (fun i=>okC i (s.getD i 0).toNat)=true:=by rw[List.all_eq_true];intro i hi;obtain⟨b,a⟩:=Qav (List.mem_range.1 hi);rw[Qa5 a];exact h i b a
 unfold nmOk;rw[this];rfl
theorem _root_.Go.AM.au15{p:Prop}(h:p:=by repeat'(first|exact RB.nil|(refine RnL.same ?_;first|rfl|(simp only[noRef,noRefs,Qah,Bool.and_self,Bool.and_true,Bool.true_and,Qab,Qap,Qaa];done))|exact RnM.keyM rfl|exact RnL.nil|exact(True.intro:RnM _ _ _ [] [])|refine RnL.cons ?_ ?_|(refine Rn.same ?_;first|rfl|(simp only[noRef,noRefs,Qah,Bool.and_self,Bool.and_true,Bool.true_and,Qab,Qap,Qaa];done))|exact Rn.x1 rfl rfl|exact Rn.x2 rfl rfl|exact Rn.x3 rfl rfl|exact Rn.x4 rfl rfl|exact Rn.x5 rfl|exact Rn.x6 rfl|exact Rn.x7 rfl|refine RB.newnil rfl rfl ?_|refine RB.cells rfl rfl rfl ?_ ?_|refine RB.map rfl rfl rfl ?_ ?_|refine RB.cellsB rfl rfl ?_ ?_|refine RB.mapB rfl rfl ?_ ?_)):p:=h
theorem _root_.Go.AM.au16{p:Prop}(h:p:=by repeat(first|exact RT.nil|(refine RT.cons ?_ ?_;·(first|exact Rn.any|exact Rn.x1 rfl rfl|exact Rn.x2 rfl rfl|exact Rn.x3 rfl rfl|exact Rn.x4 rfl rfl|exact Rn.x5 rfl|exact Rn.x6 rfl|exact Rn.x7 rfl|(refine Rn.slot ?_ ?_;(first|rfl|(rw[Int.natCast_add];rfl));(first|rfl|(simp only[noRef,noRefs,Qah,Bool.and_self,Bool.and_true,Bool.true_and,Qab,Qap,Qaa];done)))|(refine Rn.fn ?_ ?_<;>(repeat'(first|exact RnL.nil|refine RnL.cons ?_ ?_|exact Rn.same rfl|exact Rn.x6 rfl|exact Rn.x2 rfl rfl|exact Rn.x5 rfl|exact Rn.x1 rfl rfl))))))):p:=h
theorem name135(s:List UInt8)(q:s.length<=9223372036854775807):PSpec Tryz.prog 84 [.str s] (.bool (nmOk s)):=by
 refine PSpec.QaB 64 TX.ok84 rfl rfl rfl ?_;simp(disch:=first|omega|exact PairsOK.mk rfl|(simp only[lenW]<;>omega))only[TX.s84,wV,simprocAttr];refine Qbh 100 (fun i:Nat=>[(0,.str s),(7,.int .i64 s.length),(8,.int .i64 i)]) (fun _=>[]) (fun i=>i<=s.length/\∀(j:Nat)b,j<i->s[j]?=some b->okC j b.toNat=true) (fun i=>s.length-i) 0 ⟨[],rfl,au0,au15,au16⟩ ⟨Nat.zero_le _,fun j b g=>absurd g (Nat.not_lt_zero _)⟩ ?_;rintro i⟨hi,p⟩;by_cases a:i<s.length
 ·obtain⟨b,l⟩:=Qav a;have f:=QnG l;have go:okC i b.toNat=true->∀j c,j<i+1->s[j]?=some c->okC j c.toNat=true:=fun h j c g hc=>by
   by_cases e:j=i;·subst e;rw[l]at hc;cases hc;exact h
   exact p j c (by omega) hc
  have bad:=fun h=>Qp7 l h;have m:okC i b.toNat=decide (97<=b.toNat/\b.toNat<=122\/65<=b.toNat/\b.toNat<=90\/b.toNat=95\/0<i/\48<=b.toNat/\b.toNat<=57):=rfl;have go:=fun h=>go (m.trans (decide_eq_true h));have bad:=fun h=>bad (m.trans (decide_eq_false h));clear m;generalize b.toNat=n at*;have d:97<=n/\n<=122\/97<=n/\122<n\/n<97/\65<=n/\n<=90\/n<97/\90<n/\n=95\/n<97/\90<n/\n≠95\/n<65/\57<n\/n<65/\n<48\/48<=n/\n<=57:=by omega
  by_cases k:(i:Int)=0;·rcases d with h|h|h|h|h|h|h|h;all_goals simp(disch:=first|omega|exact PairsOK.mk rfl|(simp only[lenW]<;>omega))only[a,f,decide_eq_true,decide_eq_false,wV,simprocAttr];first|exact⟨.inr trivial,_,rfl,by rw[bad (by omega)];rfl⟩|exact⟨i+1,by omega,⟨by omega,go (by omega)⟩,⟨[],rfl,au0,au15,au16⟩⟩
  rcases d with h|h|h|h|h|h|h|h;all_goals simp(disch:=first|omega|exact PairsOK.mk rfl|(simp only[lenW]<;>omega))only[a,f,decide_eq_true,decide_eq_false,wV,simprocAttr];first|exact⟨.inr trivial,_,rfl,by rw[bad (by omega)];rfl⟩|exact⟨i+1,by omega,⟨by omega,go (by omega)⟩,⟨[],rfl,au0,au15,au16⟩⟩
 have hA:=Qp8 fun j b g=>p j b (by have :=(List.getElem?_eq_some_iff.1 g).1;omega) g;rw[hA];by_cases k:0<s.length
 ·by_cases o:s.length<=32;·simp(disch:=first|omega|exact PairsOK.mk rfl|(simp only[lenW]<;>omega))only[a,decide_eq_true,decide_eq_false,wV,simprocAttr];exact⟨.inr trivial,_,rfl,by simp[k,o,resOf,QaY]⟩
  simp(disch:=first|omega|exact PairsOK.mk rfl|(simp only[lenW]<;>omega))only[a,decide_eq_true,decide_eq_false,wV,simprocAttr];exact⟨.inr trivial,_,rfl,by simp[k,o,resOf,QaY]⟩
 simp(disch:=first|omega|exact PairsOK.mk rfl|(simp only[lenW]<;>omega))only[a,decide_eq_true,decide_eq_false,wV,simprocAttr];exact⟨.inr trivial,_,rfl,by simp[k,resOf,QaY]⟩
end Go.AM.SO
namespace Go.AM.SO
open Go.Proofs Go.AM.SD Go.AM.SE
structure Evn where
 nm:List UInt8
 c:Bool
 o:Bool
 f:Bool
 flt:Int
def evnC(e:Evn):List AV:=[.str e.nm,.bool e.c,.bool e.o,.bool e.f,.int .i64 e.flt]
abbrev evns(l:List Evn):AV:=.fsl (l.flatMap evnC) l.length 5
theorem Qcg(l:List Evn):noRefs (l.flatMap evnC)=true:=Qa9 (fun _=>rfl) l
theorem Qc8(l:List Evn):noRef (evns l)=true:=by rw[evns,noRef];exact Qcg l
theorem Qec{l:List Evn}{i:Nat}{x:Evn}(h:l[i]?=some x):(l.flatMap evnC).drop (i*5)=.str x.nm::.bool x.c::.bool x.o::.bool x.f::.int .i64 x.flt::(l.drop (i+1)).flatMap evnC:=Qbw (f:=evnC) (k:=5) (fun _=>rfl) h
def ev0:Evn:=⟨[],false,false,false,0⟩
def evnE(l:List Evn)(i:Nat):Int:=let x:=l.getD i ev0
 if nmOk x.nm=false then 7 else if x.nm∈(l.take i).map Evn.nm then 8 else if x.flt<0\/4<x.flt then 2 else if x.flt≠0/\(x.c=true\/x.o=true)then 13 else 0
def evErr(l:List Evn):Int:=if 32<l.length then 3 else fe (evnE l) l.length
theorem QqU{l:List Evn}{i:Nat}{x:Evn}(h:l[i]?=some x):(l.take (i+1)).map Evn.nm=(l.take i).map Evn.nm++[x.nm]:=by rw[List.take_add_one,h,List.map_append];rfl
theorem check82X(l:List Evn)(I:l.length<=9223372036854775807)(F:∀x∈l,x.nm.length<=9223372036854775807):PSpec Tryz.prog 46 [evns l] (.int .i64 (evErr l)):=by
 refine PSpec.QaB 64 ok46 rfl (by rw[noRefs,Qc8];rfl) rfl ?_;have g:=Qc8 l;unfold evErr;by_cases t:32<l.length
 ·have q:(32:Int)<(l.length:Int):=by omega
  rw[if_pos t];simp(disch:=first|omega|exact PairsOK.mk rfl|(simp only[lenW]<;>omega))only[s46,q,wW,wV,simprocAttr];exact⟨.inr trivial,_,rfl,rfl⟩
 have q:¬(32:Int)<(l.length:Int):=by omega
 rw[if_neg t];simp(disch:=first|omega|exact PairsOK.mk rfl|(simp only[lenW]<;>omega))only[s46,q,wW,wV,simprocAttr];refine Qbh 100 (fun i:Nat=>[(10,evns l),(11,.int .i64 l.length),(12,.int .i64 i),(3,.map 68 0)]) (fun i=>[(68,.map 0 (mapS yes ((l.take i).map Evn.nm)))]) (fun i=>i<=l.length/\∀j,j<i->evnE l j=0) (fun i=>l.length-i) 0 ?_ ⟨Nat.zero_le _,fun j B=>absurd B (Nat.not_lt_zero _)⟩ ?_;·refine⟨[(68,.blk 68 0)],rfl,RO.zero,RB.map rfl rfl rfl trivial RB.nil,RT.cons (Rn.same g) au16⟩
 rintro i⟨hi,v⟩;by_cases d:i<l.length
 ·obtain⟨x,u⟩:=Qav d;have s:=Qec u;have w:5<=((l.flatMap evnC).drop (i*5)).length:=by rw[s];simp
  have G:=name135 x.nm (F x (List.mem_of_getElem? u));have C:=QqU u;have a:∀e:Int,evnE l i=e->e≠0->fe (evnE l) l.length=e:=fun e h H=>fe_at h H v d;have up:evnE l i=0->∀j,j<i+1->evnE l j=0:=fe_up v;have E:evnE l i=if nmOk x.nm=false then 7 else if x.nm∈(l.take i).map Evn.nm then 8 else if x.flt<0\/4<x.flt then 2 else if x.flt≠0/\(x.c=true\/x.o=true)then 13 else 0:=by unfold evnE;rw[Qa5 u]
  rw[E]at a up;clear E;generalize A:(l.take i).map Evn.nm=N at*;obtain⟨y,c,o,f,k⟩:=x;dsimp only at*;simp(disch:=first|omega|exact PairsOK.mk rfl|(simp only[lenW]<;>omega))only[d,s,w,wW,wV,simprocAttr];refine cp G ?_;cases ho:nmOk y with|false=>simp(disch:=first|omega|exact PairsOK.mk rfl|(simp only[lenW]<;>omega))only[wW,wV,simprocAttr];exact⟨.inr trivial,_,rfl,by rw[a 7 (by rw[if_pos ho]) (by decide)];rfl⟩|true=>
   have b:¬nmOk y=false:=by rw[ho];decide
   simp(disch:=first|omega|exact PairsOK.mk rfl|(simp only[lenW]<;>omega))only[wW,wV,simprocAttr];by_cases hm:y∈N;·refine QgT rfl hm ?_;simp(disch:=first|omega|exact PairsOK.mk rfl|(simp only[lenW]<;>omega))only[yes,wW,wV,simprocAttr];exact⟨.inr trivial,_,rfl,by rw[a 8 (by rw[if_neg b,if_pos hm]) (by decide)];rfl⟩
   refine QfR rfl hm ?_;by_cases p:k<0;·simp(disch:=first|omega|exact PairsOK.mk rfl|(simp only[lenW]<;>omega))only[p,wW,wV,simprocAttr];exact⟨.inr trivial,_,rfl,by rw[a 2 (by rw[if_neg b,if_neg hm,if_pos (by omega)]) (by decide)];rfl⟩
   by_cases r:4<k;·simp(disch:=first|omega|exact PairsOK.mk rfl|(simp only[lenW]<;>omega))only[p,r,wW,wV,simprocAttr];exact⟨.inr trivial,_,rfl,by rw[a 2 (by rw[if_neg b,if_neg hm,if_pos (by omega)]) (by decide)];rfl⟩
   by_cases m:k=0;·simp(disch:=first|omega|exact PairsOK.mk rfl|(simp only[lenW]<;>omega))only[p,r,m,wW,wV,simprocAttr];refine Qd7 gg hm (by omega) ?_;simp(disch:=first|omega|exact PairsOK.mk rfl|(simp only[lenW]<;>omega))only[Qhn,wW,wV,simprocAttr];refine⟨i+1,by omega,⟨by omega,up (by rw[if_neg b,if_neg hm,if_neg (by omega),if_neg (fun h=>h.1 m)])⟩,?_⟩;rw[C];refine⟨[(68,.blk 68 0)],rfl,RO.zero,?_,RT.cons (Rn.same g) au16⟩;exact RB.map rfl rfl gg (RnM.mapS fun _ _=>Rn.same rfl) RB.nil
   cases c with|true=>simp(disch:=first|omega|exact PairsOK.mk rfl|(simp only[lenW]<;>omega))only[p,r,m,wW,wV,simprocAttr];exact⟨.inr trivial,_,rfl,by rw[a 13 (by rw[if_neg b,if_neg hm,if_neg (by omega),if_pos ⟨m,.inl rfl⟩]) (by decide)];rfl⟩|false=>cases o with|true=>simp(disch:=first|omega|exact PairsOK.mk rfl|(simp only[lenW]<;>omega))only[p,r,m,wW,wV,simprocAttr];exact⟨.inr trivial,_,rfl,by rw[a 13 (by rw[if_neg b,if_neg hm,if_neg (by omega),if_pos ⟨m,.inr rfl⟩]) (by decide)];rfl⟩|false=>simp(disch:=first|omega|exact PairsOK.mk rfl|(simp only[lenW]<;>omega))only[p,r,m,wW,wV,simprocAttr];refine Qd7 gg hm (by omega) ?_;simp(disch:=first|omega|exact PairsOK.mk rfl|(simp only[lenW]<;>omega))only[Qhn,wW,wV,simprocAttr];refine⟨i+1,by omega,⟨by omega,up (by rw[if_neg b,if_neg hm,if_neg (by omega),if_neg (fun h=>h.2.elim (fun h=>by cases h) fun h=>by cases h)])⟩,?_⟩;rw[C];refine⟨[(68,.blk 68 0)],rfl,RO.zero,?_,RT.cons (Rn.same g) au16⟩;exact RB.map rfl rfl gg (RnM.mapS fun _ _=>Rn.same rfl) RB.nil
 simp(disch:=first|omega|exact PairsOK.mk rfl|(simp only[lenW]<;>omega))only[d,wW,wV,simprocAttr];exact⟨.inr trivial,_,rfl,by rw[QbV fun j B=>v j (by omega)];rfl⟩
end Go.AM.SO
namespace Go.AM.SO
open Go.Proofs Go.AM.SD Go.AM.SE
def natA(a:Au):Aut:=⟨a.al.map Int.toNat,a.n.toNat,a.ms.map Int.toNat,a.es.map fun e=>(e.fr.toNat,e.ev.toNat,e.to.toNat)⟩
theorem Qlo{l:List Int}(h:∀x∈l,0<=x):nz (l.map Int.toNat)=l:=by
 rw[nz,List.map_map];conv=>rhs;rw[<-List.map_id l]
 refine List.map_congr_left fun x a=>?_;have:=h x a;simp;omega
theorem Qf3{l:List Int}{n:Int}(h:SetOk l n):(l.map Int.toNat).Pairwise (·<·):=by rw[List.pairwise_map];refine h.2.imp_of_mem fun{x y}b c a=>?_;have:=(h.1 x b).1;omega
theorem QrF{a:Au}(h:edgErr a=0){i:Nat}{x:Eg}(b:a.es[i]?=some x):(0<=x.fr/\x.fr<a.n/\0<=x.to/\x.to<a.n/\x.ev∈a.al)/\∀y,0<i->a.es[i-1]?=some y->y.fr<x.fr\/y.fr=x.fr/\y.ev<x.ev:=by
 have:=Qiz h i (List.getElem?_eq_some_iff.1 b).1;unfold edgE at this;dsimp only at this;rw[Qa5 b]at this;split at this;·cases this
 split at this;·cases this
 split at this;·cases this
 rename_i q1 q2 d;refine⟨⟨by omega,by omega,by omega,by omega,by simpa using q2⟩,fun y f c=>?_⟩;rw[Qa5 c]at d;omega
theorem Qo7{α:Type}{R:α->α->Prop}(g:∀a b c,R a b->R b c->R a c):∀{l:List α},(∀(i:Nat)x y,l[i]?=some x->l[i+1]?=some y->R x y)->l.Pairwise R
 |[],_=>List.Pairwise.nil|[x],_=>by simp|x::y::l,h=>by
  have j:=Qo7 g (l:=y::l) fun i a b m k=>h (i+1) a b (by simpa using m) (by simpa using k);rw[List.pairwise_cons];refine⟨fun z f=>?_,j⟩;have d:=h 0 x y rfl rfl;rcases List.mem_cons.1 f with rfl|f;·exact d
  exact g _ _ _ d ((List.pairwise_cons.1 j).1 z f)
theorem Qhq{a:Au}(h:auErr a=0)(w:a.n<=1000):au (natA a)=a/\WfA (natA a):=by
 unfold auErr at h;split at h;·rename_i q;exact absurd h q
 rename_i h1;split at h;·cases h
 rename_i m;split at h;·cases h
 rename_i s;split at h;·rename_i q;exact absurd h q
 rename_i o;have s1:=Qf2 (by simpa using h1);have s2:=Qf2 (by simpa using o);have he:=fun(i:Nat)x d=>QrF h (i:=i) (x:=x) d;have g:∀x∈a.es,0<=x.fr/\x.fr<a.n/\0<=x.to/\x.to<a.n/\x.ev∈a.al:=fun x d=>by obtain⟨i,hi,rfl⟩:=List.getElem_of_mem d;exact(he i _ (List.getElem?_eq_getElem hi)).1
 have k:∀x∈a.es,0<=x.ev:=fun x d=>(s1.1 x.ev (g x d).2.2.2.2).1;constructor
 ·show(⟨nz _,_,nz _,_⟩:Au)=a;obtain⟨p,n,ms,es⟩:=a;simp only[natA,Au.mk.injEq]at*;refine⟨Qlo fun x d=>(s1.1 x d).1,by omega,Qlo fun x d=>(s2.1 x d).1,?_⟩;rw[List.map_map];conv=>rhs;rw[<-List.map_id es]
  refine List.map_congr_left fun x d=>?_;have q:=g x d;have q2:=k x d;obtain⟨f,v,t⟩:=x;simp only[Function.comp,eg,id,Eg.mk.injEq]at*;omega
 refine⟨Qf3 s1,fun x d=>?_,by show a.n.toNat<=4096;omega,Qf3 s2,fun x d=>?_,?_,fun e d=>?_,fun e d=>?_⟩;·obtain⟨y,j,rfl⟩:=List.mem_map.1 (show x∈a.al.map Int.toNat from d);have:=s1.1 y j;omega
 ·obtain⟨y,j,rfl⟩:=List.mem_map.1 (show x∈a.ms.map Int.toNat from d);have:=s2.1 y j;show y.toNat<a.n.toNat;omega
 ·show(a.es.map _).Pairwise _;rw[List.pairwise_map];have hp:a.es.Pairwise fun x y=>x.fr<y.fr\/x.fr=y.fr/\x.ev<y.ev:=Qo7 (fun a b c h1 m=>by omega) fun i x y d j=>by have:=(he (i+1) y j).2 x (by omega) (by simpa using d);omega
  refine hp.imp_of_mem fun{x y}d j l=>?_;have q1:=g x d;have q2:=g y j;have u:=k x d;have r:=k y j;show x.fr.toNat<y.fr.toNat\/x.fr.toNat=y.fr.toNat/\x.ev.toNat<y.ev.toNat;omega
 ·obtain⟨y,j,rfl⟩:=List.mem_map.1 (show e∈a.es.map _ from d);have q:=g y j;show y.fr.toNat<a.n.toNat/\y.to.toNat<a.n.toNat;omega
 obtain⟨y,j,rfl⟩:=List.mem_map.1 (show e∈a.es.map _ from d);exact List.mem_map.2 ⟨y.ev,(g y j).2.2.2.2,rfl⟩
theorem Ql5{a:Aut}(h:WfA a):AOk (restr a tru):=by have w:=Qk5 (left:=tru) h;have:=QbD w.al w.al5;have:=QbD w.ms w.msn;have:=WfA.el1 w;have:=w.n5;exact⟨by omega,by omega,by omega⟩
def caB(a:Au):Bool:=decide (auErr a=0)&&autB (natA a) (restr (natA a) tru)
theorem isCanon60X(a:Au)(h1:a.al.length<=9223372036854775807)(f:a.ms.length<=9223372036854775807)(m:a.es.length<=9000)(j:a.n<=1000):PSpec Tryz.prog 89 [auV a] (.bool (caB a)):=by
 refine PSpec.QaB 64 ok89 rfl (by(try simp only[noRefs,Qab,Qal,Qaf,Qan,Qai,noRef,Bool.and_self,Bool.and_true])<;>rfl) rfl ?_;have c:=check37X a h1 f (by omega);unfold caB;by_cases b:auErr a=0
 ·obtain⟨e,hw⟩:=Qhq b j;have h:(natA a).es.length<=9000:=by show(a.es.map _).length<=_;rw[List.length_map];exact m
  have g:(natA a).ms.length<=(natA a).n:=Qbb _ _ hw.nd hw.msn;have l:=QbD hw.al hw.al5;have k:=hw.n5;have hk:=canonical44 (natA a) hw (by omega);have d:=eq43 (natA a) (restr (natA a) tru) ⟨by omega,by omega,by omega⟩ (Ql5 hw);have i:aV (natA a)=auV a:=by rw[<-QoJ,e]
  rw[i]at hk d;rw[b]at c;simp(disch:=first|omega|exact PairsOK.mk rfl|(simp only[lenW]<;>omega))only[s89,wV,simprocAttr];refine cp c ?_;simp(disch:=first|omega|exact PairsOK.mk rfl|(simp only[lenW]<;>omega))only[wV,simprocAttr];refine cp hk ?_;simp(disch:=first|omega|exact PairsOK.mk rfl|(simp only[lenW]<;>omega))only[wV,simprocAttr];refine cp d ?_;simp(disch:=first|omega|exact PairsOK.mk rfl|(simp only[lenW]<;>omega))only[wV,simprocAttr];exact⟨.inr trivial,_,rfl,by simp[b,resOf,QaY]⟩
 simp(disch:=first|omega|exact PairsOK.mk rfl|(simp only[lenW]<;>omega))only[s89,wV,simprocAttr];refine cp c ?_;simp(disch:=first|omega|exact PairsOK.mk rfl|(simp only[lenW]<;>omega))only[b,wV,simprocAttr];exact⟨.inr trivial,_,rfl,by simp[b,resOf,QaY]⟩
end Go.AM.SO
namespace Go.AM.SO
open Go.Proofs Go.AM.SD Go.AM.SE
abbrev Itn:=List UInt8×Au
def itV(x:Itn):List AV:=[.str x.1,sli x.2.al,.int .i64 x.2.n,sli x.2.ms,egs x.2.es]
structure ItOk(x:Itn):Prop where
 nm:x.1.length<=9223372036854775807
 al:x.2.al.length<=9223372036854775807
 ms:x.2.ms.length<=9223372036854775807
 es:x.2.es.length<=9000
 n:x.2.n<=1000
def minB(A B:List Nat):Bool:=decide ((mrg (fun a b=>a&&!b) A B).length=0)
def itE2(E:Int)(B:List Nat)(a:Au):Int:=if auErr a≠0 then auErr a else if caB a=false then 6 else if a.n=0 then 12 else if(natA a).al.any (fun x=>decide (E<=(x:Int)))=true then 2 else if minB (natA a).al B=false then 9 else 0
def itEr(E:Int)(B:List Nat)(N:List (List UInt8))(x:Itn):Int:=if nmOk x.1=false then 7 else if x.1∈N then 8 else itE2 E B x.2
def itNs(N:List (List UInt8))(x:Itn):List (List UInt8):=if nmOk x.1=false\/x.1∈N then N else N++[x.1]
theorem Qo8{E:Int}{B:List Nat}{N:List (List UInt8)}{x:Itn}(h:nmOk x.1=false):itEr E B N x=7/\itNs N x=N:=⟨if_pos h,if_pos (.inl h)⟩
theorem Qo9{E:Int}{B:List Nat}{N:List (List UInt8)}{x:Itn}(h:nmOk x.1=true)(hm:x.1∈N):itEr E B N x=8/\itNs N x=N:=by
 have a:¬nmOk x.1=false:=by rw[h];decide
 exact⟨(if_neg a).trans (if_pos hm),if_pos (.inr hm)⟩
theorem Qpa{E:Int}{B:List Nat}{N:List (List UInt8)}{x:Itn}(h:nmOk x.1=true)(hm:x.1∉N):itEr E B N x=itE2 E B x.2/\itNs N x=N++[x.1]:=by
 have a:¬nmOk x.1=false:=by rw[h];decide
 exact⟨(if_neg a).trans (if_neg hm),if_neg fun k=>k.elim a hm⟩
theorem ge166X(x:Nat)(E:Int):PSpec Tryz.prog 91 [.int .i64 (x:Int),.fptr [.int .i64 E]] (.bool (decide (E<=(x:Int)))):=by refine PSpec.QaB 64 ok91 rfl rfl rfl ?_;simp(disch:=first|omega|exact PairsOK.mk rfl|(simp only[lenW]<;>omega))only[s91,wW,wV,simprocAttr];exact⟨.inr trivial,_,rfl,rfl⟩
theorem Qib(x:Itn):noRefs (itV x)=true:=by unfold itV;simp only[noRefs,noRef,Qap,Qas,Qab,Qal,Bool.and_true,Bool.true_and]
theorem _root_.Go.AM.au17{p:Prop}(h:p:=by repeat(first|exact RT.nil|(refine RT.cons ?_ ?_;·(first|exact Rn.any|exact Rn.x1 rfl rfl|exact Rn.x2 rfl rfl|exact Rn.x3 rfl rfl|exact Rn.x4 rfl rfl|exact Rn.x5 rfl|exact Rn.x6 rfl|exact Rn.x7 rfl|(refine Rn.slot ?_ ?_;(first|rfl|(rw[Int.natCast_add];rfl));(first|rfl|(simp only[noRef,noRefs,Qah,Bool.and_self,Bool.and_true,Bool.true_and,Qab,Qap,Qaa,Qas];done)))|(refine Rn.fn ?_ ?_<;>(repeat'(first|exact RnL.nil|refine RnL.cons ?_ ?_|exact Rn.same rfl|exact Rn.x6 rfl|exact Rn.x2 rfl rfl|exact Rn.x5 rfl|exact Rn.x1 rfl rfl))))))):p:=h
theorem item83X(x:Itn)(E:Int)(B:List Nat)(N:List (List UInt8))(h:ItOk x)(u:N.length<=100)(k:B.length<=1000000):HSpec Tryz.prog 60 [.agg (itV x),.int .i64 E,sliN B,.map 68 0] (hp [(68,nmsB N)]) (.int .i64 (itEr E B N x)) (hp [(68,nmsB (itNs N x))]):=by obtain⟨d,a⟩:=x;have q:=name135 d h.nm;have t:=check37X a h.al h.ms (by have:=h.es;dsimp only at this;omega);have v:=isCanon60X a h.al h.ms h.es h.n;refine HSpec.QcG (m:=69) 100 SR.ok60 rfl rfl rfl ?_;have w:=@Qo8 E B N (d,a);have p:=@Qo9 E B N (d,a);have y:=@Qpa E B N (d,a);dsimp only[itV]at*;generalize itEr E B N (d,a)=C at*;generalize itNs N (d,a)=A at*;simp(disch:=first|omega|exact PairsOK.mk rfl|(simp only[lenW]<;>omega))only[SR.s60,wW,wV,simprocAttr];refine cp q ?_;cases ho:nmOk d with|false=>obtain⟨rfl,rfl⟩:=w ho;simp(disch:=first|omega|exact PairsOK.mk rfl|(simp only[lenW]<;>omega))only[wW,wV,simprocAttr];refine⟨.inr trivial,_,rfl,rfl,?_⟩;refine⟨[(68,.nil)],rfl,au0,?_,au17⟩;exact RB.mapB rfl gg (RnM.mapS fun _ _=>Rn.same rfl) RB.nil|true=>
 simp(disch:=first|omega|exact PairsOK.mk rfl|(simp only[lenW]<;>omega))only[wW,wV,simprocAttr];by_cases g:d∈N;·obtain⟨rfl,rfl⟩:=p ho g;refine QgT gg g ?_;simp(disch:=first|omega|exact PairsOK.mk rfl|(simp only[lenW]<;>omega))only[yes,wW,wV,simprocAttr];refine⟨.inr trivial,_,rfl,rfl,?_⟩;refine⟨[(68,.nil)],rfl,au0,?_,au17⟩;exact RB.mapB rfl gg (RnM.mapS fun _ _=>Rn.same rfl) RB.nil
 obtain⟨rfl,rfl⟩:=y ho g;refine QfR gg g ?_;simp(disch:=first|omega|exact PairsOK.mk rfl|(simp only[lenW]<;>omega))only[wW,wV,simprocAttr];refine Qd7 gg g (by omega) ?_;simp(disch:=first|omega|exact PairsOK.mk rfl|(simp only[lenW]<;>omega))only[Qhn,wW,wV,simprocAttr];refine cp t ?_;unfold itE2;by_cases l:auErr a=0;·obtain⟨s,hw⟩:=Qhq l h.n;rw[l];simp(disch:=first|omega|exact PairsOK.mk rfl|(simp only[lenW]<;>omega))only[wW,wV,simprocAttr];refine cp v ?_;cases hc:caB a with|false=>simp(disch:=first|omega|exact PairsOK.mk rfl|(simp only[lenW]<;>omega))only[wW,wV,simprocAttr];refine⟨.inr trivial,_,rfl,rfl,?_⟩;refine⟨[(68,.nil)],rfl,au0,?_,au17⟩;exact RB.mapB rfl gg (RnM.mapS fun _ _=>Rn.same rfl) RB.nil|true=>
  by_cases j:a.n=0;·simp(disch:=first|omega|exact PairsOK.mk rfl|(simp only[lenW]<;>omega))only[j,wW,wV,simprocAttr];refine⟨.inr trivial,_,rfl,rfl,?_⟩;refine⟨[(68,.nil)],rfl,au0,?_,au17⟩;exact RB.mapB rfl gg (RnM.mapS fun _ _=>Rn.same rfl) RB.nil
  have o:=QbD hw.al hw.al5;have c:=contains36 (K:=91) (cap:=[.fptr [.int .i64 E]]) (fun x=>decide (E<=(x:Int))) (natA a).al (by omega) rfl (fun x _=>ge166X x E);have i:sli a.al=sliN (natA a).al:=by rw[<-Qcl];exact congrArg (fun b=>sli b.al) s.symm
  rw[<-i]at c;have f:=subset167 (natA a).al B (by omega) k;rw[<-i]at f;cases m:(natA a).al.any (fun x=>decide (E<=(x:Int)))with|true=>rw[m]at c;simp(disch:=first|omega|exact PairsOK.mk rfl|(simp only[lenW]<;>omega))only[j,wW,wV,simprocAttr];refine SU.chc (HSpec.lend (FrzL.cons (FrzTo.same _) (FrzL.cons (FrzTo.fn FrzL.nil (FrzL.cons (FrzTo.ptr (g:=0) (cs:=[.int .i64 E]) gg (FrzL.same _)) FrzL.nil)) FrzL.nil)) c rfl) ?_;simp(disch:=first|omega|exact PairsOK.mk rfl|(simp only[lenW]<;>omega))only[wW,wV,simprocAttr];refine⟨.inr trivial,_,rfl,rfl,?_⟩;refine⟨[(68,.nil)],rfl,au0,?_,au17⟩;exact RB.mapB rfl gg (RnM.mapS fun _ _=>Rn.same rfl) RB.nil|false=>rw[m]at c;simp(disch:=first|omega|exact PairsOK.mk rfl|(simp only[lenW]<;>omega))only[j,wW,wV,simprocAttr];refine SU.chc (HSpec.lend (FrzL.cons (FrzTo.same _) (FrzL.cons (FrzTo.fn FrzL.nil (FrzL.cons (FrzTo.ptr (g:=0) (cs:=[.int .i64 E]) gg (FrzL.same _)) FrzL.nil)) FrzL.nil)) c rfl) ?_;simp(disch:=first|omega|exact PairsOK.mk rfl|(simp only[lenW]<;>omega))only[wW,wV,simprocAttr];refine cp f ?_;unfold minB;generalize decide ((mrg (fun a b=>a&&!b) (natA a).al B).length=0)=r at*;cases r with|false=>simp(disch:=first|omega|exact PairsOK.mk rfl|(simp only[lenW]<;>omega))only[wW,wV,simprocAttr];refine⟨.inr trivial,_,rfl,rfl,?_⟩;refine⟨[(68,.nil)],rfl,au0,?_,au17⟩;exact RB.mapB rfl gg (RnM.mapS fun _ _=>Rn.same rfl) RB.nil|true=>simp(disch:=first|omega|exact PairsOK.mk rfl|(simp only[lenW]<;>omega))only[wW,wV,simprocAttr];refine⟨.inr trivial,_,rfl,rfl,?_⟩;refine⟨[(68,.nil)],rfl,au0,?_,au17⟩;exact RB.mapB rfl gg (RnM.mapS fun _ _=>Rn.same rfl) RB.nil
 simp(disch:=first|omega|exact PairsOK.mk rfl|(simp only[lenW]<;>omega))only[l,wW,wV,simprocAttr];refine⟨.inr trivial,_,rfl,rfl,?_⟩;refine⟨[(68,.nil)],rfl,au0,?_,au17⟩;exact RB.mapB rfl gg (RnM.mapS fun _ _=>Rn.same rfl) RB.nil
theorem item83XF{h:Heap}(x:Itn)(E:Int)(B:List Nat)(N:List (List UInt8))(d:ItOk x)(b:N.length<=100)(c:B.length<=1000000)(a:h.get 68=some (nmsB N)):HSpec Tryz.prog 60 [.agg (itV x),.int .i64 E,sliN B,.map 68 0] h (.int .i64 (itEr E B N x)) (h.set 68 (nmsB (itNs N x))):=by
 have hm:∀(l:List (List UInt8)),∀e∈mapS yes l,noRef e.1=true/\noRef e.2=true:=fun l e he=>by unfold mapS at he;obtain⟨x,_,rfl⟩:=List.mem_map.1 he;exact⟨rfl,rfl⟩
 exact HSpec.frameM (item83X x E B N d b c) (OnlyD.cons (OnlyD.same (by rw[noRef];exact Qib x)) (OnlyD.cons (OnlyD.same rfl) (OnlyD.cons (OnlyD.same (Qaa _)) (OnlyD.cons (OnlyD.map rfl) OnlyD.nil)))) (OnlyD.same rfl) (hm _) (hm _) a rfl
end Go.AM.SO
namespace Go.AM.SO
open Go.Proofs Go.AM.SD Go.AM.SE
def prZ(x:Int×Int):List AV:=[.int .i64 x.1,.int .i64 x.2]
abbrev prs(l:List (Int×Int)):AV:=.fsl (l.flatMap prZ) l.length 2
theorem QbH(l:List (Int×Int)):noRefs (l.flatMap prZ)=true:=Qa9 (fun _=>rfl) l
theorem Qbp(l:List (Int×Int)):noRef (prs l)=true:=by rw[prs,noRef];exact QbH l
theorem Qc9(l:List (Int×Int)):(l.flatMap prZ).length=l.length*2:=Qby (k:=2) (fun _=>rfl) l
theorem QeJ{l:List (Int×Int)}{i:Nat}{x:Int×Int}(h:l[i]?=some x):(l.flatMap prZ).drop (i*2)=.int .i64 x.1::.int .i64 x.2::(l.drop (i+1)).flatMap prZ:=Qbw (f:=prZ) (k:=2) (fun _=>rfl) h
theorem Qm0(l:List (Int×Int)):flatVs (l.flatMap prZ)=true:=by induction l with|nil=>rfl|cons x l a=>rw[List.flatMap_cons];simp only[prZ,List.cons_append,List.nil_append,flatVs,a,Bool.and_true];rfl
theorem Qlp:aEqN false .nilsl=.ret (.bool true):=rfl
theorem Qlq:aEqN false .nsl=.ret (.bool false):=rfl
theorem _root_.Go.AM.au18{p:Prop}(h:p:=by repeat'(first|exact RB.nil|(refine RnL.same ?_;first|rfl|(simp only[noRef,noRefs,Qah,Bool.and_self,Bool.and_true,Bool.true_and,Qab,Qap,Qaa,Qds,QbE,Qbe];done))|exact RnM.keyM rfl|exact RnL.nil|exact(True.intro:RnM _ _ _ [] [])|refine RnL.cons ?_ ?_|(refine Rn.same ?_;first|rfl|(simp only[noRef,noRefs,Qah,Bool.and_self,Bool.and_true,Bool.true_and,Qab,Qap,Qaa,Qds,QbE,Qbe];done))|exact Rn.x1 rfl rfl|exact Rn.x2 rfl rfl|exact Rn.x3 rfl rfl|exact Rn.x4 rfl rfl|exact Rn.x5 rfl|exact Rn.x6 rfl|exact Rn.x7 rfl|refine RB.newnil rfl rfl ?_|refine RB.cells rfl rfl rfl ?_ ?_|refine RB.map rfl rfl rfl ?_ ?_|refine RB.cellsB rfl rfl ?_ ?_|refine RB.mapB rfl rfl ?_ ?_)):p:=h
theorem _root_.Go.AM.au19{p:Prop}(h:p:=by repeat(first|exact RT.nil|(refine RT.cons ?_ ?_;·(first|exact Rn.any|exact Rn.x1 rfl rfl|exact Rn.x2 rfl rfl|exact Rn.x3 rfl rfl|exact Rn.x4 rfl rfl|exact Rn.x5 rfl|exact Rn.x6 rfl|exact Rn.x7 rfl|(refine Rn.slot ?_ ?_;(first|rfl|(rw[Int.natCast_add];rfl));(first|rfl|(simp only[noRef,noRefs,Qah,Bool.and_self,Bool.and_true,Bool.true_and,Qab,Qap,Qaa,Qds,QbE,Qbe];done)))|(refine Rn.fn ?_ ?_<;>(repeat'(first|exact RnL.nil|refine RnL.cons ?_ ?_|exact Rn.same rfl|exact Rn.x6 rfl|exact Rn.x2 rfl rfl|exact Rn.x5 rfl|exact Rn.x1 rfl rfl))))))):p:=h
theorem Qlr:HSpec Tryz.prog 100 [.nilsl] .e (.sl 83 0 0 0 2) (hp [(83,.cells 0 [])]):=by refine HSpec.QbA 100 ok100 rfl ?_;simp(disch:=first|omega|exact PairsOK.mk rfl|(simp only[lenW]<;>omega))only[s100,Qlp,wW,wV,simprocAttr];exact⟨.inr trivial,_,rfl,⟨[(83,.nil)],rfl,au0,au18,au19⟩⟩
theorem Qls:HSpec Tryz.prog 100 [.nsl] .e (.sl 83 0 0 0 2) (hp [(83,.cells 0 [])]):=by refine HSpec.QbA 100 ok100 rfl ?_;simp(disch:=first|omega|exact PairsOK.mk rfl|(simp only[lenW]<;>omega))only[s100,Qlq,Qev,wW,wV,simprocAttr];exact⟨.inr trivial,_,rfl,⟨[(83,.blk 103 1)],rfl,au0,au18,au19⟩⟩
theorem clone148H(l:List (Int×Int))(g:l.length<=8796093021952):HSpec Tryz.prog 100 [prs l] .e (.sl 83 0 0 l.length 2) (hp [(83,.cells 0 (l.flatMap prZ))]):=by cases l with|nil=>exact HSpec.empty Qlr Qls|cons x l=>refine HSpec.QbA 100 ok100 rfl ?_;have d:aEqN false (prs (x::l))=.ret (.bool false):=rfl;have a:((x::l).flatMap prZ).all AV.one=true:=Qfa (fun _=>rfl) _;have f:=Qbp (x::l);have b:=QbH (x::l);have c:=Qc9 (x::l);generalize x::l=q at*;simp(disch:=first|omega|exact PairsOK.mk rfl|(simp only[lenW]<;>omega))only[s100,d,a,c,wW,wV,simprocAttr];refine⟨.inr trivial,_,rfl,?_⟩;refine⟨[(83,.blk 103 1)],rfl,au0,?_,au19⟩;exact RB.cells rfl rfl gg (RnL.same b) RB.nil
theorem clone148X(l:List (Int×Int))(a:l.length<=8796093021952):PSpec Tryz.prog 100 [prs l] (prs l):=by
 have h:=(clone148H l a).freeze (b:=83) (g:=0) (ds:=l.flatMap prZ) gg (Qm0 l) (by rw[Qc9];exact Nat.le_refl _) rfl;have e:(l.flatMap prZ).take (l.length*2)=l.flatMap prZ:=by rw[List.take_of_length_le (by rw[Qc9];exact Nat.le_refl _)]
 rw[e]at h;exact⟨by rw[noRefs,Qbp];rfl,Qbp l,_,h⟩
theorem Qlt:HSpec Tryz.prog 101 [.nilsl] .e (.sl 83 0 0 0 2) (hp [(83,.cells 0 [])]):=by refine HSpec.QbA 100 ok101 rfl ?_;simp(disch:=first|omega|exact PairsOK.mk rfl|(simp only[lenW]<;>omega))only[s101,Qlp,wW,wV,simprocAttr];exact⟨.inr trivial,_,rfl,⟨[(83,.nil)],rfl,au0,au18,au19⟩⟩
theorem Qlu:HSpec Tryz.prog 101 [.nsl] .e (.sl 83 0 0 0 2) (hp [(83,.cells 0 [])]):=by refine HSpec.QbA 100 ok101 rfl ?_;simp(disch:=first|omega|exact PairsOK.mk rfl|(simp only[lenW]<;>omega))only[s101,Qlq,Qev,wW,wV,simprocAttr];exact⟨.inr trivial,_,rfl,⟨[(83,.blk 103 1)],rfl,au0,au18,au19⟩⟩
theorem clone149H(l:List (Int×Int))(g:l.length<=8796093021952):HSpec Tryz.prog 101 [prs l] .e (.sl 83 0 0 l.length 2) (hp [(83,.cells 0 (l.flatMap prZ))]):=by cases l with|nil=>exact HSpec.empty Qlt Qlu|cons x l=>refine HSpec.QbA 100 ok101 rfl ?_;have d:aEqN false (prs (x::l))=.ret (.bool false):=rfl;have a:((x::l).flatMap prZ).all AV.one=true:=Qfa (fun _=>rfl) _;have f:=Qbp (x::l);have b:=QbH (x::l);have c:=Qc9 (x::l);generalize x::l=q at*;simp(disch:=first|omega|exact PairsOK.mk rfl|(simp only[lenW]<;>omega))only[s101,d,a,c,wW,wV,simprocAttr];refine⟨.inr trivial,_,rfl,?_⟩;refine⟨[(83,.blk 103 1)],rfl,au0,?_,au19⟩;exact RB.cells rfl rfl gg (RnL.same b) RB.nil
theorem clone149X(l:List (Int×Int))(a:l.length<=8796093021952):PSpec Tryz.prog 101 [prs l] (prs l):=by
 have h:=(clone149H l a).freeze (b:=83) (g:=0) (ds:=l.flatMap prZ) gg (Qm0 l) (by rw[Qc9];exact Nat.le_refl _) rfl;have e:(l.flatMap prZ).take (l.length*2)=l.flatMap prZ:=by rw[List.take_of_length_le (by rw[Qc9];exact Nat.le_refl _)]
 rw[e]at h;exact⟨by rw[noRefs,Qbp];rfl,Qbp l,_,h⟩
abbrev Exn:=List UInt8×List (Int×Int)
abbrev Con:=List UInt8×List (Int×Int)×Int
structure CelN where
 ev:List Evn
 cs:List Itn
 rs:List Itn
 xs:List Exn
 ks:List Con
abbrev itsV(l:List Itn):AV:=.fsl (l.flatMap itV) l.length 5
theorem Qds(l:List Itn):noRefs (l.flatMap itV)=true:=Qa9 Qib l
theorem Qic(l:List Itn):noRef (itsV l)=true:=by rw[itsV,noRef];exact Qds l
theorem QqV(l:List Itn):(l.flatMap itV).length=l.length*5:=Qby (k:=5) (fun _=>rfl) l
theorem Qhr{l:List Itn}{i:Nat}{x:Itn}(h:l[i]?=some x):(l.flatMap itV).drop (i*5)=.str x.1::sli x.2.al::.int .i64 x.2.n::sli x.2.ms::egs x.2.es::(l.drop (i+1)).flatMap itV:=Qbw (f:=itV) (k:=5) (fun _=>rfl) h
def exZ(x:Exn):List AV:=[.str x.1,prs x.2]
abbrev exsZ(l:List Exn):AV:=.fsl (l.flatMap exZ) l.length 2
theorem QbE(l:List Exn):noRefs (l.flatMap exZ)=true:=Qa9 (fun x=>by unfold exZ;rw[noRefs,noRefs,Qbp];rfl) l
theorem Qch(l:List Exn):noRef (exsZ l)=true:=by rw[exsZ,noRef];exact QbE l
theorem Qgj(l:List Exn):(l.flatMap exZ).length=l.length*2:=Qby (k:=2) (fun _=>rfl) l
theorem Qhs{l:List Exn}{i:Nat}{x:Exn}(h:l[i]?=some x):(l.flatMap exZ).drop (i*2)=.str x.1::prs x.2::(l.drop (i+1)).flatMap exZ:=Qbw (f:=exZ) (k:=2) (fun _=>rfl) h
theorem QqW{x:Exn}:List.flatMap exZ [x]=[.str x.1,prs x.2]:=rfl
def coZ(x:Con):List AV:=[.str x.1,prs x.2.1,.int .i64 x.2.2]
abbrev cosZ(l:List Con):AV:=.fsl (l.flatMap coZ) l.length 3
theorem Qbe(l:List Con):noRefs (l.flatMap coZ)=true:=Qa9 (fun x=>by unfold coZ;rw[noRefs,noRefs,Qbp];rfl) l
theorem QdH(l:List Con):noRef (cosZ l)=true:=by rw[cosZ,noRef];exact Qbe l
theorem QeK(l:List Con):(l.flatMap coZ).length=l.length*3:=Qby (k:=3) (fun _=>rfl) l
theorem Qfc{l:List Con}{i:Nat}{x:Con}(h:l[i]?=some x):(l.flatMap coZ).drop (i*3)=.str x.1::prs x.2.1::.int .i64 x.2.2::(l.drop (i+1)).flatMap coZ:=Qbw (f:=coZ) (k:=3) (fun _=>rfl) h
theorem QqX{x:Con}:List.flatMap coZ [x]=[.str x.1,prs x.2.1,.int .i64 x.2.2]:=rfl
abbrev celZ(c:CelN):AV:=.agg [evns c.ev,itsV c.cs,itsV c.rs,exsZ c.xs,cosZ c.ks]
theorem QgX(c:CelN):noRefs [evns c.ev,itsV c.cs,itsV c.rs,exsZ c.xs,cosZ c.ks]=true:=by rw[noRefs,noRefs,noRefs,noRefs,noRefs,Qc8,Qic,Qic,Qch,QdH];rfl
def szZ(c:CelN):List Int:=c.cs.map (·.2.n)
abbrev cdK(S:List Int)(xs:List Exn)(ks:List Con):List AV:=[sli S,exsZ xs,cosZ ks]
abbrev cdZ(S:List Int)(xs:List Exn)(ks:List Con):AV:=.agg (cdK S xs ks)
theorem QbZ{S:List Int}{xs:List Exn}{ks:List Con}:noRefs (cdK S xs ks)=true:=by rw[cdK,noRefs,noRefs,noRefs,Qap,Qch,QdH];rfl
theorem conds85X(c:CelN)(w:c.cs.length<=1000)(v:c.xs.length<=1000)(u:c.ks.length<=1000)(h:∀x∈c.xs,x.2.length<=8796093021952)(r:∀x∈c.ks,x.2.1.length<=8796093021952):PSpec Tryz.prog 63 [celZ c] (cdZ (szZ c) c.xs c.ks):=by
 have g:=QgX c;refine PSpec.of_rn 64 ok63 rfl (by rw[noRefs,celZ,noRef,g];rfl) (by rw[noRef];exact QbZ) ?_;have s:=QqV c.cs;have t:=Qgj c.xs;have y:=QeK c.ks;have o:(szZ c).length=c.cs.length:=by simp[szZ]
 simp(disch:=first|omega|exact PairsOK.mk rfl|(simp only[lenW]<;>omega))only[s63,wW,wV,simprocAttr];refine Qay 100 (fun i:Nat=>[(1,.ptr 50 0 0),(2,.ptr 51 0 0),(3,.ptr 52 0 0),(12,itsV c.cs),(13,.int .i64 c.cs.length),(14,.int .i64 i)]) (fun i=>[(50,.cells 0 [evns c.ev,itsV c.cs,itsV c.rs,exsZ c.xs,cosZ c.ks]),(51,.cells 0 [.nilsl,.nilsl,.nilsl]),(52,.cells 0 [.sl 76 0 0 ((szZ c).take i).length 1,.nilsl,.nilsl]),(76,.cells 0 (ints ((szZ c).take i)))]) (fun i=>i<=c.cs.length) (fun i=>c.cs.length-i) 0 0 160 (fun _:Unit=>[(1,.ptr 50 0 0),(2,.ptr 51 0 0),(3,.ptr 52 0 0)]) (fun _=>[(50,.cells 0 [evns c.ev,itsV c.cs,itsV c.rs,exsZ c.xs,cosZ c.ks]),(51,.cells 0 [.nilsl,.nilsl,.nilsl]),(52,.cells 0 [sli (szZ c),.nilsl,.nilsl])]) (fun _=>True) ⟨[(50,.blk 64 0),(51,.blk 65 0),(52,.blk 67 0),(76,.nil)],rfl,au0,?_,au19⟩ (Nat.zero_le _) ?_ ?_;·exact RB.cells rfl rfl gg (RnL.same g) (RB.cells rfl rfl gg (RnL.same rfl) (RB.cells rfl rfl gg (RnL.cons (Rn.x4 rfl rfl) (RnL.same rfl)) (RB.newnil rfl rfl RB.nil)))
 ·rintro i hi;by_cases a:i<c.cs.length
  ·obtain⟨x,k⟩:=Qav a;have f:=Qhr k;have j:5<=((c.cs.flatMap itV).drop (i*5)).length:=by rw[f];simp
   have q:(szZ c)[i]?=some x.2.n:=by unfold szZ;rw[List.getElem?_map,k];rfl
   have d:=take_succ' q;have b:((szZ c).take i).length=i:=by rw[List.length_take,o];omega
   simp(disch:=first|omega|exact PairsOK.mk rfl|(simp only[lenW]<;>omega))only[a,f,j,b,wW,wV,simprocAttr];refine⟨i+1,by omega,by omega,?_⟩;rw[d,List.length_append,QaK,b];refine⟨[(50,.blk 50 0),(51,.blk 51 0),(52,.blk 52 0),(76,.blk 76 1)],rfl,au0,?_,au19⟩;exact RB.cells rfl rfl gg (RnL.same g) (RB.cells rfl rfl gg (RnL.same rfl) (RB.cells rfl rfl gg (RnL.cons (Rn.x1 rfl rfl) (RnL.same rfl)) (RB.cells rfl rfl gg (RnL.same (SU.Qa8 (Qab _) rfl)) RB.nil)))
  have e:i=c.cs.length:=by omega
  subst e;have p:(szZ c).take c.cs.length=szZ c:=by rw[<-o,List.take_length]
  simp(disch:=first|omega|exact PairsOK.mk rfl|(simp only[lenW]<;>omega))only[a,p,wW,wV,simprocAttr];refine⟨(),?_⟩;refine⟨[(50,.blk 50 0),(51,.blk 51 0),(52,.blk 52 0)],rfl,au0,?_,au19⟩;exact RB.cells rfl rfl gg (RnL.same g) (RB.cells rfl rfl gg (RnL.same rfl) (RB.cells rfl rfl gg (RnL.cons (Rn.fzm rfl rfl rfl rfl (by simp[ints]) (RnL.same (Qab _))) (RnL.same rfl)) RB.nil))
 rintro _ _;simp(disch:=first|omega|exact PairsOK.mk rfl|(simp only[lenW]<;>omega))only[wW,wV,simprocAttr];refine Qay 200 (fun i:Nat=>[(1,.ptr 50 0 0),(2,.ptr 51 0 0),(3,.ptr 52 0 0),(28,exsZ c.xs),(29,.int .i64 c.xs.length),(30,.int .i64 i)]) (fun i=>[(50,.cells 0 [evns c.ev,itsV c.cs,itsV c.rs,exsZ c.xs,cosZ c.ks]),(51,.cells 0 [.nilsl,.nilsl,.nilsl]),(52,.cells 0 [sli (szZ c),.sl 77 0 0 (c.xs.take i).length 2,.nilsl]),(77,.cells 0 ((c.xs.take i).flatMap exZ))]) (fun i=>i<=c.xs.length) (fun i=>c.xs.length-i) 0 2 260 (fun _:Unit=>[(1,.ptr 50 0 0),(2,.ptr 51 0 0),(3,.ptr 52 0 0)]) (fun _=>[(50,.cells 0 [evns c.ev,itsV c.cs,itsV c.rs,exsZ c.xs,cosZ c.ks]),(51,.cells 0 [.nilsl,.nilsl,.nilsl]),(52,.cells 0 [sli (szZ c),exsZ c.xs,.nilsl])]) (fun _=>True) ⟨[(50,.blk 50 0),(51,.blk 51 0),(52,.blk 52 0),(77,.nil)],rfl,au0,?_,au19⟩ (Nat.zero_le _) ?_ ?_;·exact RB.cells rfl rfl gg (RnL.same g) (RB.cells rfl rfl gg (RnL.same rfl) (RB.cells rfl rfl gg (RnL.cons (Rn.same (Qap _)) (RnL.cons (Rn.x4 rfl rfl) (RnL.same rfl))) (RB.newnil rfl rfl RB.nil)))
 ·rintro i hi;by_cases a:i<c.xs.length
  ·obtain⟨x,k⟩:=Qav a;have m:=List.mem_of_getElem? k;have f:=Qhs k;have j:2<=((c.xs.flatMap exZ).drop (i*2)).length:=by rw[f];simp
   have d:=take_succ' k;have b:(c.xs.take i).length=i:=by rw[List.length_take];omega
   have l:=clone148X x.2 (h x m);have h:=Qgj (c.xs.take i);rw[b]at h;simp(disch:=first|omega|exact PairsOK.mk rfl|(simp only[lenW]<;>omega))only[a,f,j,b,wW,wV,simprocAttr];refine cp l ?_;simp(disch:=first|omega|exact PairsOK.mk rfl|(simp only[lenW]<;>omega))only[h,wW,wV,simprocAttr];refine⟨i+1,by omega,by omega,?_⟩;rw[d,List.length_append,List.flatMap_append,b,QqW];refine⟨[(50,.blk 50 0),(51,.blk 51 0),(52,.blk 52 0),(77,.blk 77 1)],rfl,au0,?_,au19⟩;exact RB.cells rfl rfl gg (RnL.same g) (RB.cells rfl rfl gg (RnL.same rfl) (RB.cells rfl rfl gg (RnL.cons (Rn.same (Qap _)) (RnL.cons (Rn.x1 rfl rfl) (RnL.same rfl))) (RB.cells rfl rfl gg (RnL.same (SU.Qa8 (QbE _) (by rw[noRefs,noRefs,Qbp];rfl))) RB.nil)))
  have e:i=c.xs.length:=by omega
  subst e;simp(disch:=first|omega|exact PairsOK.mk rfl|(simp only[lenW]<;>omega))only[a,List.take_length,wW,wV,simprocAttr];refine⟨(),?_⟩;refine⟨[(50,.blk 50 0),(51,.blk 51 0),(52,.blk 52 0)],rfl,au0,?_,au19⟩;exact RB.cells rfl rfl gg (RnL.same g) (RB.cells rfl rfl gg (RnL.same rfl) (RB.cells rfl rfl gg (RnL.cons (Rn.same (Qap _)) (RnL.cons (Rn.fzm rfl rfl rfl rfl (Qgj _) (RnL.same (QbE _))) (RnL.same rfl))) RB.nil))
 rintro _ _;simp(disch:=first|omega|exact PairsOK.mk rfl|(simp only[lenW]<;>omega))only[wW,wV,simprocAttr];refine Qay 300 (fun i:Nat=>[(2,.ptr 51 0 0),(3,.ptr 52 0 0),(47,cosZ c.ks),(48,.int .i64 c.ks.length),(49,.int .i64 i)]) (fun i=>[(51,.cells 0 [.nilsl,.nilsl,.nilsl]),(52,.cells 0 [sli (szZ c),exsZ c.xs,.sl 78 0 0 (c.ks.take i).length 3]),(78,.cells 0 ((c.ks.take i).flatMap coZ))]) (fun i=>i<=c.ks.length) (fun i=>c.ks.length-i) 0 4 360 (fun _:Unit=>[(2,.ptr 51 0 0),(3,.ptr 52 0 0)]) (fun _=>[(51,.cells 0 [.nilsl,.nilsl,.nilsl]),(52,.cells 0 [sli (szZ c),exsZ c.xs,cosZ c.ks])]) (fun _=>True) ⟨[(51,.blk 51 0),(52,.blk 52 0),(78,.nil)],rfl,au0,?_,au19⟩ (Nat.zero_le _) ?_ ?_;·exact RB.cells rfl rfl gg (RnL.same rfl) (RB.cells rfl rfl gg (RnL.cons (Rn.same (Qap _)) (RnL.cons (Rn.same (Qch _)) (RnL.cons (Rn.x4 rfl rfl) RnL.nil))) (RB.newnil rfl rfl RB.nil))
 ·rintro i hi;by_cases a:i<c.ks.length
  ·obtain⟨x,k⟩:=Qav a;have m:=List.mem_of_getElem? k;have f:=Qfc k;have j:3<=((c.ks.flatMap coZ).drop (i*3)).length:=by rw[f];simp
   have d:=take_succ' k;have b:(c.ks.take i).length=i:=by rw[List.length_take];omega
   have l:=clone149X x.2.1 (r x m);have h:=QeK (c.ks.take i);rw[b]at h;simp(disch:=first|omega|exact PairsOK.mk rfl|(simp only[lenW]<;>omega))only[a,f,j,b,wW,wV,simprocAttr];refine cp l ?_;simp(disch:=first|omega|exact PairsOK.mk rfl|(simp only[lenW]<;>omega))only[h,wW,wV,simprocAttr];refine⟨i+1,by omega,by omega,?_⟩;rw[d,List.length_append,List.flatMap_append,b,QqX];refine⟨[(51,.blk 51 0),(52,.blk 52 0),(78,.blk 78 1)],rfl,au0,?_,au19⟩;exact RB.cells rfl rfl gg (RnL.same rfl) (RB.cells rfl rfl gg (RnL.cons (Rn.same (Qap _)) (RnL.cons (Rn.same (Qch _)) (RnL.cons (Rn.x1 rfl rfl) RnL.nil))) (RB.cells rfl rfl gg (RnL.same (SU.Qa8 (Qbe _) (by rw[noRefs,noRefs,Qbp];rfl))) RB.nil))
  have e:i=c.ks.length:=by omega
  subst e;simp(disch:=first|omega|exact PairsOK.mk rfl|(simp only[lenW]<;>omega))only[a,List.take_length,wW,wV,simprocAttr];refine⟨(),?_⟩;refine⟨[(51,.blk 51 0),(52,.blk 52 0)],rfl,au0,?_,au19⟩;exact RB.cells rfl rfl gg (RnL.same rfl) (RB.cells rfl rfl gg (RnL.cons (Rn.same (Qap _)) (RnL.cons (Rn.same (Qch _)) (RnL.cons (Rn.fzm rfl rfl rfl rfl (QeK _) (RnL.same (Qbe _))) RnL.nil))) RB.nil)
 rintro _ _;simp(disch:=first|omega|exact PairsOK.mk rfl|(simp only[lenW]<;>omega))only[wW,wV,simprocAttr];refine⟨.inr trivial,_,rfl,?_⟩;exact Rn.same (by rw[noRef];exact QbZ)
end Go.AM.SO
namespace Go.AM.SO
open Go.Proofs Go.AM.SD Go.AM.SE
def grB(n:Int):Bool:=decide (n< -65536\/65536<n)
theorem great190X(n:Int):PSpec Tryz.prog 140 [.int .i64 n] (.bool (grB n)):=by
 refine PSpec.QaB 64 ok140 rfl rfl rfl ?_;unfold grB;by_cases g1:n< -65536;·simp(disch:=first|omega|exact PairsOK.mk rfl|(simp only[lenW]<;>omega))only[s140,g1,wW,wV,simprocAttr];exact⟨.inr trivial,_,rfl,by simp[g1,resOf,QaY]⟩
 by_cases g2:65536<n;·simp(disch:=first|omega|exact PairsOK.mk rfl|(simp only[lenW]<;>omega))only[s140,g1,g2,wW,wV,simprocAttr];exact⟨.inr trivial,_,rfl,by simp[g1,g2,resOf,QaY]⟩
 simp(disch:=first|omega|exact PairsOK.mk rfl|(simp only[lenW]<;>omega))only[s140,g1,g2,wW,wV,simprocAttr];exact⟨.inr trivial,_,rfl,by simp[g1,g2,resOf,QaY]⟩
def exEr(S:List Int)(l:List (Int×Int))(i:Nat):Int:=let x:=l.getD i (0,0)
 let y:=l.getD (i-1) (0,0)
 if x.1<0\/(S.length:Int)<=x.1 then 2 else if 0<i/\x.1<=y.1 then 5 else if x.2<0\/S.getD x.1.toNat 0<=x.2 then 2 else 0
theorem QqY{S:List Int}{l:List (Int×Int)}{i:Nat}{x:Int×Int}(h:l[i]?=some x):exEr S l i=if x.1<0\/(S.length:Int)<=x.1 then 2 else if 0<i/\x.1<=(l.getD (i-1) (0,0)).1 then 5 else if x.2<0\/S.getD x.1.toNat 0<=x.2 then 2 else 0:=by unfold exEr;rw[Qa5 h]
def exErr(S:List Int)(l:List (Int×Int)):Int:=if l.length=0 then 12 else fe (exEr S l) l.length
theorem QcL{S:List Int}{l:List (Int×Int)}(a:l.length≠0)(e:Int)(h:fe (exEr S l) l.length=e)(_:e≠0):exErr S l=e:=(if_neg a).trans h
theorem _root_.Go.AM.au20{p:Prop}(h:p:=by repeat(first|exact RT.nil|(refine RT.cons ?_ ?_;·(first|exact Rn.any|exact Rn.x1 rfl rfl|exact Rn.x2 rfl rfl|exact Rn.x3 rfl rfl|exact Rn.x4 rfl rfl|exact Rn.x5 rfl|exact Rn.x6 rfl|exact Rn.x7 rfl|(refine Rn.slot ?_ ?_;(first|rfl|(rw[Int.natCast_add];rfl));(first|rfl|(simp only[noRef,noRefs,Qah,Bool.and_self,Bool.and_true,Bool.true_and,Qab,Qap,Qaa,QbH];done)))|(refine Rn.fn ?_ ?_<;>(repeat'(first|exact RnL.nil|refine RnL.cons ?_ ?_|exact Rn.same rfl|exact Rn.x6 rfl|exact Rn.x2 rfl rfl|exact Rn.x5 rfl|exact Rn.x1 rfl rfl))))))):p:=h
theorem excl103X(S:List Int)(xs:List Exn)(ks:List Con)(x:Exn)(Q:x.2.length<=8796093021952):PSpec Tryz.prog 97 [cdZ S xs ks,.agg (exZ x)] (.int .i64 (exErr S x.2)):=by
 obtain⟨C,l⟩:=x;dsimp only at Q;have hex:exZ (C,l)=[.str C,prs l]:=rfl;rw[hex];have q:=@QbZ S xs ks;have p:noRefs [.str C,prs l]=true:=by rw[noRefs,noRefs,Qbp];rfl
 refine PSpec.QaB 64 ok97 rfl (by rw[noRefs,noRefs,noRef,noRef,q,p];rfl) rfl ?_;have P:=Qc9 l;by_cases u:l.length=0
 ·have f:(l.length:Int)=0:=by omega
  simp(disch:=first|omega|exact PairsOK.mk rfl|(simp only[lenW]<;>omega))only[s97,f,wW,wV,simprocAttr];exact⟨.inr trivial,_,rfl,by rw[exErr,if_pos u];rfl⟩
 have f:=u;have E:¬(l.length:Int)=0:=by omega
 simp(disch:=first|omega|exact PairsOK.mk rfl|(simp only[lenW]<;>omega))only[s97,E,wW,wV,simprocAttr];refine Qbh 100 (fun i:Nat=>[(2,.ptr 50 0 0),(3,.ptr 51 0 0),(12,prs l),(13,.int .i64 l.length),(14,.int .i64 i)]) (fun _=>[(50,.cells 0 (cdK S xs ks)),(51,.cells 0 [.str C,prs l])]) (fun i=>i<=l.length/\∀j,j<i->exEr S l j=0) (fun i=>l.length-i) 0 ?_ ⟨Nat.zero_le _,fun j L=>absurd L (Nat.not_lt_zero _)⟩ ?_;·refine⟨[(50,.blk 64 0),(51,.blk 65 0)],rfl,au0,?_,au20⟩;exact RB.cells rfl rfl gg (RnL.same q) (RB.cells rfl rfl gg (RnL.same p) RB.nil)
 rintro i⟨hi,F⟩;by_cases b:i<l.length
 ·obtain⟨x,M⟩:=Qav b;have d:=QeJ M;have g:2<=((l.flatMap prZ).drop (i*2)).length:=by rw[d];simp
  have a:∀e:Int,exEr S l i=e->e≠0->fe (exEr S l) l.length=e:=fun e h J=>fe_at h J F b;have up:exEr S l i=0->∀j,j<i+1->exEr S l j=0:=fe_up F;have K:=QqY (S:=S) M;rw[K]at a up;clear K;obtain⟨c,s⟩:=x;dsimp only at*;by_cases h1:c<0;·simp(disch:=first|omega|exact PairsOK.mk rfl|(simp only[lenW]<;>omega))only[b,d,g,h1,wW,wV,simprocAttr];exact⟨.inr trivial,_,rfl,by rw[QcL f 2 (a 2 (by rw[if_pos (.inl h1)]) (by decide)) (by decide)];rfl⟩
  by_cases O:(S.length:Int)<=c;·simp(disch:=first|omega|exact PairsOK.mk rfl|(simp only[lenW]<;>omega))only[b,d,g,h1,O,wW,wV,simprocAttr];exact⟨.inr trivial,_,rfl,by rw[QcL f 2 (a 2 (by rw[if_pos (.inr O)]) (by decide)) (by decide)];rfl⟩
  have I:¬(c<0\/(S.length:Int)<=c):=by omega
  rw[if_neg I]at a up;obtain⟨k,rfl⟩:∃k:Nat,c=k:=⟨c.toNat,by omega⟩;have r:k<S.length:=by omega
  obtain⟨z,u⟩:=Qav r;have H:S.getD k 0=z:=Qa5 u;try simp only[Int.toNat_natCast,H]at a up
  have m:¬(S.length:Int)<=(k:Int):=by omega
  by_cases J:i=0
  ·have t:¬(0:Int)<(i:Int):=by omega
   rw[if_neg (by omega)]at a up;by_cases q1:s<0;·simp(disch:=first|omega|exact PairsOK.mk rfl|(simp only[lenW]<;>omega))only[b,d,g,h1,m,t,q1,wW,wV,simprocAttr];exact⟨.inr trivial,_,rfl,by rw[QcL f 2 (a 2 (by rw[if_pos (.inl q1)]) (by decide)) (by decide)];rfl⟩
   by_cases q2:z<=s;·simp(disch:=first|omega|exact PairsOK.mk rfl|(simp only[lenW]<;>omega))only[b,d,g,h1,m,t,q1,q2,QaT u,r,wW,wV,simprocAttr];exact⟨.inr trivial,_,rfl,by rw[QcL f 2 (a 2 (by rw[if_pos (.inr q2)]) (by decide)) (by decide)];rfl⟩
   simp(disch:=first|omega|exact PairsOK.mk rfl|(simp only[lenW]<;>omega))only[b,d,g,h1,m,t,q1,q2,QaT u,r,wW,wV,simprocAttr];refine⟨i+1,by omega,⟨by omega,up (by rw[if_neg (by omega)])⟩,?_⟩;refine⟨[(50,.blk 50 0),(51,.blk 51 0)],rfl,au0,?_,au20⟩;exact RB.cells rfl rfl gg (RnL.same q) (RB.cells rfl rfl gg (RnL.same p) RB.nil)
  obtain⟨y,N⟩:=Qav (l:=l) (i:=i-1) (by omega);have o:=QeJ N;have G:l.getD (i-1) (0,0)=y:=Qa5 N;have t:(0:Int)<(i:Int):=by omega
  have A:(i:Int)-1=((i-1:Nat):Int):=by omega
  have w:((i-1:Nat):Int)<l.length:=by omega
  have B:i-1<l.length:=by omega
  rw[G]at a up;by_cases v:(k:Int)<=y.1;·simp(disch:=first|omega|exact PairsOK.mk rfl|(simp only[lenW]<;>omega))only[b,d,g,h1,m,t,A,w,B,o,v,wW,wV,simprocAttr];exact⟨.inr trivial,_,rfl,by rw[QcL f 5 (a 5 (by rw[if_pos ⟨by omega,v⟩]) (by decide)) (by decide)];rfl⟩
  rw[if_neg (by omega)]at a up;by_cases q1:s<0;·simp(disch:=first|omega|exact PairsOK.mk rfl|(simp only[lenW]<;>omega))only[b,d,g,h1,m,t,A,w,B,o,v,q1,wW,wV,simprocAttr];exact⟨.inr trivial,_,rfl,by rw[QcL f 2 (a 2 (by rw[if_pos (.inl q1)]) (by decide)) (by decide)];rfl⟩
  by_cases q2:z<=s;·simp(disch:=first|omega|exact PairsOK.mk rfl|(simp only[lenW]<;>omega))only[b,d,g,h1,m,t,A,w,B,o,v,q1,q2,QaT u,r,wW,wV,simprocAttr];exact⟨.inr trivial,_,rfl,by rw[QcL f 2 (a 2 (by rw[if_pos (.inr q2)]) (by decide)) (by decide)];rfl⟩
  simp(disch:=first|omega|exact PairsOK.mk rfl|(simp only[lenW]<;>omega))only[b,d,g,h1,m,t,A,w,B,o,v,q1,q2,QaT u,r,wW,wV,simprocAttr];refine⟨i+1,by omega,⟨by omega,up (by rw[if_neg (by omega)])⟩,?_⟩;refine⟨[(50,.blk 50 0),(51,.blk 51 0)],rfl,au0,?_,au20⟩;exact RB.cells rfl rfl gg (RnL.same q) (RB.cells rfl rfl gg (RnL.same p) RB.nil)
 simp(disch:=first|omega|exact PairsOK.mk rfl|(simp only[lenW]<;>omega))only[b,wW,wV,simprocAttr];exact⟨.inr trivial,_,rfl,by rw[exErr,if_neg f,QbV fun j L=>F j (by omega)];rfl⟩
def coEr(S:List Int)(l:List (Int×Int))(i:Nat):Int:=let x:=l.getD i (0,0)
 let y:=l.getD (i-1) (0,0)
 if x.1<0\/(S.length:Int)<=x.1 then 2 else if 0<i/\x.1<=y.1 then 5 else if x.2=0\/grB x.2=true then 2 else 0
theorem QqZ{S:List Int}{l:List (Int×Int)}{i:Nat}{x:Int×Int}(h:l[i]?=some x):coEr S l i=if x.1<0\/(S.length:Int)<=x.1 then 2 else if 0<i/\x.1<=(l.getD (i-1) (0,0)).1 then 5 else if x.2=0\/grB x.2=true then 2 else 0:=by unfold coEr;rw[Qa5 h]
def coErr(S:List Int)(l:List (Int×Int))(a:Int):Int:=if l.length=0 then 12 else if fe (coEr S l) l.length≠0 then fe (coEr S l) l.length else if grB a=true then 2 else 0
theorem QcM{S:List Int}{l:List (Int×Int)}{b:Int}(a:l.length≠0)(e:Int)(h:fe (coEr S l) l.length=e)(he:e≠0):coErr S l b=e:=(if_neg a).trans ((if_pos (by rw[h];exact he)).trans h)
theorem cons105X(S:List Int)(xs:List Exn)(ks:List Con)(x:Con)(T:x.2.1.length<=8796093021952):PSpec Tryz.prog 99 [cdZ S xs ks,.agg (coZ x)] (.int .i64 (coErr S x.2.1 x.2.2)):=by
 obtain⟨E,l,v⟩:=x;dsimp only at T;have hex:coZ (E,l,v)=[.str E,prs l,.int .i64 v]:=rfl;rw[hex];have q:=@QbZ S xs ks;have r:noRefs [.str E,prs l,.int .i64 v]=true:=by rw[noRefs,noRefs,Qbp];rfl
 refine PSpec.QaB 64 ok99 rfl (by rw[noRefs,noRefs,noRef,noRef,q,r];rfl) rfl ?_;have R:=Qc9 l;by_cases u:l.length=0
 ·have d:(l.length:Int)=0:=by omega
  simp(disch:=first|omega|exact PairsOK.mk rfl|(simp only[lenW]<;>omega))only[s99,d,wW,wV,simprocAttr];exact⟨.inr trivial,_,rfl,by rw[coErr,if_pos u];rfl⟩
 have d:=u;have F:¬(l.length:Int)=0:=by omega
 simp(disch:=first|omega|exact PairsOK.mk rfl|(simp only[lenW]<;>omega))only[s99,F,wW,wV,simprocAttr];refine Qbh 100 (fun i:Nat=>[(2,.ptr 50 0 0),(3,.ptr 51 0 0),(12,prs l),(13,.int .i64 l.length),(14,.int .i64 i)]) (fun _=>[(50,.cells 0 (cdK S xs ks)),(51,.cells 0 [.str E,prs l,.int .i64 v])]) (fun i=>i<=l.length/\∀j,j<i->coEr S l j=0) (fun i=>l.length-i) 0 ?_ ⟨Nat.zero_le _,fun j N=>absurd N (Nat.not_lt_zero _)⟩ ?_;·refine⟨[(50,.blk 64 0),(51,.blk 65 0)],rfl,au0,?_,au20⟩;exact RB.cells rfl rfl gg (RnL.same q) (RB.cells rfl rfl gg (RnL.same r) RB.nil)
 rintro i⟨hi,H⟩;by_cases b:i<l.length
 ·obtain⟨x,O⟩:=Qav b;have f:=QeJ O;have g:2<=((l.flatMap prZ).drop (i*2)).length:=by rw[f];simp
  have a:∀e:Int,coEr S l i=e->e≠0->fe (coEr S l) l.length=e:=fun e h L=>fe_at h L H b;have up:coEr S l i=0->∀j,j<i+1->coEr S l j=0:=fe_up H;have M:=QqZ (S:=S) O;rw[M]at a up;clear M;obtain⟨c,s⟩:=x;dsimp only at*;by_cases h1:c<0;·simp(disch:=first|omega|exact PairsOK.mk rfl|(simp only[lenW]<;>omega))only[b,f,g,h1,wW,wV,simprocAttr];exact⟨.inr trivial,_,rfl,by rw[QcM d 2 (a 2 (by rw[if_pos (.inl h1)]) (by decide)) (by decide)];rfl⟩
  by_cases Q:(S.length:Int)<=c;·simp(disch:=first|omega|exact PairsOK.mk rfl|(simp only[lenW]<;>omega))only[b,f,g,h1,Q,wW,wV,simprocAttr];exact⟨.inr trivial,_,rfl,by rw[QcM d 2 (a 2 (by rw[if_pos (.inr Q)]) (by decide)) (by decide)];rfl⟩
  have G:¬(c<0\/(S.length:Int)<=c):=by omega
  rw[if_neg G]at a up;obtain⟨k,rfl⟩:∃k:Nat,c=k:=⟨c.toNat,by omega⟩;have J:k<S.length:=by omega
  obtain⟨z,u⟩:=Qav J;have K:S.getD k 0=z:=Qa5 u;try simp only[Int.toNat_natCast,K]at a up
  have m:¬(S.length:Int)<=(k:Int):=by omega
  by_cases L:i=0
  ·have t:¬(0:Int)<(i:Int):=by omega
   rw[if_neg (by omega)]at a up;by_cases q1:s=0;·subst q1;simp(disch:=first|omega|exact PairsOK.mk rfl|(simp only[lenW]<;>omega))only[b,f,g,h1,m,t,wW,wV,simprocAttr];exact⟨.inr trivial,_,rfl,by rw[QcM d 2 (a 2 (by rw[if_pos (.inl rfl)]) (by decide)) (by decide)];rfl⟩
   have p:=great190X s;cases q2:grB s with|true=>rw[q2]at p;simp(disch:=first|omega|exact PairsOK.mk rfl|(simp only[lenW]<;>omega))only[b,f,g,h1,m,t,q1,wW,wV,simprocAttr];refine cp p ?_;simp(disch:=first|omega|exact PairsOK.mk rfl|(simp only[lenW]<;>omega))only[wW,wV,simprocAttr];exact⟨.inr trivial,_,rfl,by rw[QcM d 2 (a 2 (by rw[if_pos (.inr q2)]) (by decide)) (by decide)];rfl⟩|false=>rw[q2]at p;simp(disch:=first|omega|exact PairsOK.mk rfl|(simp only[lenW]<;>omega))only[b,f,g,h1,m,t,q1,wW,wV,simprocAttr];refine cp p ?_;simp(disch:=first|omega|exact PairsOK.mk rfl|(simp only[lenW]<;>omega))only[wW,wV,simprocAttr];refine⟨i+1,by omega,⟨by omega,up (by rw[if_neg (fun h=>h.elim q1 fun h=>by rw[q2]at h;cases h)])⟩,?_⟩;refine⟨[(50,.blk 50 0),(51,.blk 51 0)],rfl,au0,?_,au20⟩;exact RB.cells rfl rfl gg (RnL.same q) (RB.cells rfl rfl gg (RnL.same r) RB.nil)
  obtain⟨y,P⟩:=Qav (l:=l) (i:=i-1) (by omega);have o:=QeJ P;have I:l.getD (i-1) (0,0)=y:=Qa5 P;have t:(0:Int)<(i:Int):=by omega
  have B:(i:Int)-1=((i-1:Nat):Int):=by omega
  have C:((i-1:Nat):Int)<l.length:=by omega
  have A:i-1<l.length:=by omega
  rw[I]at a up;by_cases w:(k:Int)<=y.1;·simp(disch:=first|omega|exact PairsOK.mk rfl|(simp only[lenW]<;>omega))only[b,f,g,h1,m,t,B,C,A,o,w,wW,wV,simprocAttr];exact⟨.inr trivial,_,rfl,by rw[QcM d 5 (a 5 (by rw[if_pos ⟨by omega,w⟩]) (by decide)) (by decide)];rfl⟩
  rw[if_neg (by omega)]at a up;by_cases q1:s=0;·subst q1;simp(disch:=first|omega|exact PairsOK.mk rfl|(simp only[lenW]<;>omega))only[b,f,g,h1,m,t,B,C,A,o,w,wW,wV,simprocAttr];exact⟨.inr trivial,_,rfl,by rw[QcM d 2 (a 2 (by rw[if_pos (.inl rfl)]) (by decide)) (by decide)];rfl⟩
  have p:=great190X s;cases q2:grB s with|true=>rw[q2]at p;simp(disch:=first|omega|exact PairsOK.mk rfl|(simp only[lenW]<;>omega))only[b,f,g,h1,m,t,B,C,A,o,w,q1,wW,wV,simprocAttr];refine cp p ?_;simp(disch:=first|omega|exact PairsOK.mk rfl|(simp only[lenW]<;>omega))only[wW,wV,simprocAttr];exact⟨.inr trivial,_,rfl,by rw[QcM d 2 (a 2 (by rw[if_pos (.inr q2)]) (by decide)) (by decide)];rfl⟩|false=>rw[q2]at p;simp(disch:=first|omega|exact PairsOK.mk rfl|(simp only[lenW]<;>omega))only[b,f,g,h1,m,t,B,C,A,o,w,q1,wW,wV,simprocAttr];refine cp p ?_;simp(disch:=first|omega|exact PairsOK.mk rfl|(simp only[lenW]<;>omega))only[wW,wV,simprocAttr];refine⟨i+1,by omega,⟨by omega,up (by rw[if_neg (fun h=>h.elim q1 fun h=>by rw[q2]at h;cases h)])⟩,?_⟩;refine⟨[(50,.blk 50 0),(51,.blk 51 0)],rfl,au0,?_,au20⟩;exact RB.cells rfl rfl gg (RnL.same q) (RB.cells rfl rfl gg (RnL.same r) RB.nil)
 have u:=QbV (f:=coEr S l) (n:=l.length) fun j N=>H j (by omega);have p:=great190X v;cases q2:grB v with|true=>rw[q2]at p;simp(disch:=first|omega|exact PairsOK.mk rfl|(simp only[lenW]<;>omega))only[b,wW,wV,simprocAttr];refine cp p ?_;simp(disch:=first|omega|exact PairsOK.mk rfl|(simp only[lenW]<;>omega))only[wW,wV,simprocAttr];exact⟨.inr trivial,_,rfl,by rw[coErr,if_neg d,if_neg (fun h=>h u),if_pos q2];rfl⟩|false=>rw[q2]at p;simp(disch:=first|omega|exact PairsOK.mk rfl|(simp only[lenW]<;>omega))only[b,wW,wV,simprocAttr];refine cp p ?_;simp(disch:=first|omega|exact PairsOK.mk rfl|(simp only[lenW]<;>omega))only[wW,wV,simprocAttr];exact⟨.inr trivial,_,rfl,by rw[coErr,if_neg d,if_neg (fun h=>h u),if_neg (by rw[q2];decide)];rfl⟩
end Go.AM.SO
namespace Go.AM
variable{P:Program}
theorem RSpec.of_wS{b N n:Nat}{T:Tmps}{c:List Nat}{a body:SCode}{args:List AV}{h h':Heap}{v:AV}(f:(noLoop a&&noLoop body)=true)(j:h.get b=some (.loop 0 N T c (.s a) (.s body) .ready))(i:Nat.blt b 1099511627775=true)(hlen:args.length=c.length)(k:(c.all fun p=>Nat.blt p N)=true)(hw:wS P ⟨N,0⟩ a [] n (upsT T c args) h fun e T1 h1 g=>e=.normal/\h1.get b=some (.loop 0 N T c (.s a) (.s body) .ready)/\wS P ⟨N,0⟩ body [] g T1 (h1.set b (.loop 0 N T c (.s a) (.s body) .busy)) fun e T2 d _=>d.get b=some (.loop 0 N T c (.s a) (.s body) .busy)/\v=.bool e.isNormal/\∀x,(d.set b (.loop 0 N T c (.s a) (.s body) (stOf e))).get x=h'.get x):RSpec P b 0 args h v h':=by simp only[Bool.and_eq_true]at f;refine RSpec.of_W j (by simpa[lim]using i) hlen (fun p hp=>by simp_all) ((wpC.toW1 f.1 hw).mono ?_);rintro e B⟨g,rfl,h1,d⟩;refine⟨rfl,N,T,c,.s a,.s body,h1,(wpC.toW1 f.2 d).mono ?_⟩;rintro e C⟨q,o,m,l⟩;grind
section
variable{k m n:Nat}{T:Tmps}{h:Heap}{Q:QC}{fs:List Fr}
theorem QcV{g:Opd}{j:List Nat}{a body:SCode}{f b n':Nat}{first cap:List AV}{v:AV}{o:Heap}{T' T2:Tmps}{L:HL}{N2:Nat}{i:List Nat}{l c:LCode}{st:LSt}(r:Rec m T' L T h)(s:ev T' g=.fn f first cap)(q:(hp L).get b=none)(t:Nat.blt b 1099511627775=true)(p:HSpec P f (first++[.yld b 0]++cap) ((hp L).set b (.loop 0 k T' j (.s a) (.s body) .ready)) v o)(d:o.get b=some (.loop 0 N2 T2 i l c st))(hQ:leftQ (fun e B=>wX P ⟨k,m⟩ e fs n' B.T B.h Q) ⟨T',o.set b (.dead 0)⟩ st):wS P ⟨k,m⟩ (.rfunc g j k a body) fs n T h Q:=by show W2 P ⟨k,m⟩ (.rfunc g j k a body) (fun e B=>∃n,ct P ⟨k,m⟩ fs Q e B.T B.h n) ⟨T,h⟩;refine W2.recL r (W2.of_W (W.rfunc (las:=.s a) (lbody:=.s body) rfl rfl s q (by simpa[lim]using t) p d ?_));cases st with|ready=>exact⟨n',hQ⟩|busy=>exact hQ|done e=>exact⟨hQ.1,n',hQ.2⟩
theorem cy{N:NM}{b g:Nat}{args:List AV}{v:AV}{h1:Heap}{d:Option Nat}{ops:List SOper}{dead:List Nat}(a:RSpec P b g args h v h1)(hk:wR P N ops dead fs (n+1) (putD T d v) h1 Q):wCall P N .heap (.yld b g) args d ops dead fs n T h Q:=⟨_,_,a,hk⟩
theorem W2.weakE{N:NM}{c:SCode}{Q:SX->St->Prop}{T L:Tmps}{h h':Heap}(a:Sub L T)(he:∀b,h.get b=h'.get b)(hw:W2 P N c Q ⟨L,h'⟩):W2 P N c Q ⟨T,h⟩:=W2.weak a (W2.congr hw ⟨fun _=>rfl,he⟩)
def loopI(P:Program)(k m:Nat){α:Type}(env:α->Tmps)(H:α->Heap)(I:α->Prop)(μ:α->Nat)(a:α)(fs:List Fr)(Q:QC):QC:=fun e T h n=>match e with|.normal=>∃c,μ c<μ a/\I c/\Sub (env c) T/\∀b,h.get b=(H c).get b|e=>wX P ⟨k,m⟩ e fs n T h Q
section
variable{α:Type}{env:α->Tmps}{H:α->Heap}{I:α->Prop}{μ:α->Nat}{a:α}
theorem Qag:loopI P k m env H I μ a fs Q .normal T h n=∃c,μ c<μ a/\I c/\Sub (env c) T/\∀b,h.get b=(H c).get b:=rfl
theorem Qaj{i:Nat}:loopI P k m env H I μ a fs Q (.exit i) T h n=wX P ⟨k,m⟩ (.exit i) fs n T h Q:=rfl
theorem Qam:loopI P k m env H I μ a fs Q .ret T h n=wX P ⟨k,m⟩ .ret fs n T h Q:=rfl
theorem Qp9{b:SCode}(r:Nat)(env:α->Tmps)(H:α->Heap)(I:α->Prop)(μ:α->Nat)(a0:α)(o:Sub (env a0) T)(g:∀b,h.get b=(H a0).get b)(j:I a0)(round:∀a,I a->wS P ⟨k,m⟩ b [] r (env a) (H a) (loopI P k m env H I μ a fs Q)):wS P ⟨k,m⟩ (.loop b) fs n T h Q:=by show W2 P ⟨k,m⟩ (.loop b) (fun e B=>∃n,ct P ⟨k,m⟩ fs Q e B.T B.h n) ⟨T,h⟩;refine W2.loop (fun q B=>∃a,μ a=q/\I a/\Sub (env a) B.T/\∀b,B.h.get b=(H a).get b) (μ a0) ⟨a0,rfl,j,o,g⟩ ?_;rintro q B⟨a,rfl,hi,p,he⟩;refine W2.weakE p he ((wpC.toW (round a hi)).mono ?_);rintro e C⟨d,c⟩;cases e with|normal=>obtain⟨f,h1,s,l⟩:=c;exact⟨μ f,h1,f,rfl,s,l⟩|exit i=>exact⟨d,c⟩|ret=>exact⟨d,c⟩
end
end
theorem HSpec.of_I{f:Nat}{sf:SFn}{args:List AV}{h h':Heap}{v:AV}(m n:Nat)(a:okFn P f sf=true)(q:Nat.ble args.length sf.n=true)(hm:Fresh m h)(hw:wS P ⟨sf.n,m⟩ sf.body [] n (argT 0 args) h fun e T k _=>(e=.normal\/e=.ret)/\∃vs,resV T k sf.res=some vs/\resOf vs=v/\∀b,k.get b=h'.get b):HSpec P f args h v h':=by
 obtain⟨_,_,_,_,_,_,_,hc⟩:=Qb8 a;refine⟨hc,fun c w d H l=>(Qc3 (m:=m) (R:=fun vs k=>resOf vs=v/\∀b,k.get b=h'.get b) a (Nat.le_of_ble_eq_true q) ((wpC.toW hw).mono fun e B⟨_,h1,vs,i,r⟩=>⟨h1,vs,i,r⟩) H l).mono ?_⟩;rintro e s⟨o,j,vs,k,rfl,E,H',V,rfl,hk⟩;refine⟨o,j,rfl,⟨E.os,E.tape,E.output,E.size,E.shape,E.keep,fun b g p hp=>?_,E.frz,E.frzNew,E.own,E.base⟩,Qcd hk H',V⟩;rcases Nat.lt_or_ge b m with h1|h1;·exact E.rho b g p h1 hp
 rw[H.fresh b (hm b h1) g]at hp;cases hp
end Go.AM
namespace Go.AM
theorem Rn.yldB{m b g:Nat}{π:Nat->Option Src}{h:Heap}(hm:Nat.ble (b+1) m=true):Rn m π h (.yld b g) (.yld b g):=fun _ c w v _ _ a=>by have e:(nctx m π h c).ρ b g=c.ρ b g:=QbX (Nat.le_of_ble_eq_true hm);simp only[VRel]at a⊢;rw[e];exact a
theorem RB.loopB{m b g N:Nat}{π:Nat->Option Src}{h:Heap}{T:Tmps}{c:List Nat}{a body:LCode}{st:LSt}{r:HL}(hm:Nat.blt b m=true)(d:h.get b=some (.loop g N T c a body st))(i:RT m π h T T)(f:RB m π h r):RB m π h ((b,.loop g N T c a body st)::r):=⟨.inl ⟨by simpa using hm,T,d,i⟩,f⟩
end Go.AM
namespace Go.AM.SO
open Go.Proofs Go.AM.SD Go.AM.SE
abbrev nlA:SCode:=(.region [Zm 5 10 []] [] [9,10])
abbrev nlB:SCode:=(.block 1 (.seq (.region [Zm 11 5 [],Zl 12 2 [],Zb 13 .eql 11 12 [0,1]] [] [2,5,11,12]) (.cond (.t 13) (.seq (.region [Zy (.store 1 (.t 4) (.c (.int .i64 8))) []] [] [13]) .ret) .skip)))
abbrev nlT(f:Nat)(cap:List AV):Tmps:=[(2,.ptr 64 0 0),(4,.ptr 65 0 0),(9,.fn f [] cap)]
abbrev nlP(f:Nat)(cap:List AV)(st:LSt):Blk:=.loop 0 14 (nlT f cap) [10] (.s nlA) (.s nlB) st
abbrev nlH(s:List UInt8)(e:Int)(f:Nat)(cap:List AV)(st:LSt):HL:=[(150,nlP f cap st),(64,.cells 0 [.str s]),(65,.cells 0 [.int .i64 e])]
theorem QjJ{a b:List UInt8}:aBin .eql (.str a) (.str b)=some (.bool (decide (a=b))):=rfl
theorem set2h{h:Heap}{k j:Nat}{a b:Blk}(hk:Nat.blt k 1099511627775=true)(d:h.get k=some b):((h.set k a).set k b).get j=h.get j:=by
 have c:k<1099511627775:=by simpa using hk
 by_cases e:j=k;·subst e;rw[QaA c,d]
 rw[QaE c e,QaE c e]
theorem set3h{h:Heap}{k f j:Nat}{a b c:Blk}(hk:(Nat.blt k 1099511627775&&Nat.blt f 1099511627775)=true):(((h.set k a).set f b).set k c).get j=((h.set f b).set k c).get j:=by
 simp only[Bool.and_eq_true,Nat.blt_eq]at hk;obtain⟨h1,d⟩:=hk;by_cases e:j=k;·subst e;rw[QaA h1,QaA h1]
 rw[QaE h1 e,QaE h1 e];by_cases g:j=f;·subst g;rw[QaA d,QaA d]
 rw[QaE d g,QaE d g,QaE h1 e]
theorem Qfd{α:Type}{f:α->List AV}{k:Nat}(h:∀x,(f x).length=k):∀{l:List α}(i:Nat),(l.flatMap f).take (i*k)=(l.take i).flatMap f
 |[],i=>by simp|y::l,0=>by simp|y::l,i+1=>by
  rw[List.flatMap_cons,List.take_append,h,List.take_of_length_le (by rw[h,Nat.succ_mul];omega),List.take_succ_cons,List.flatMap_cons];have:(i+1)*k-k=i*k:=by rw[Nat.succ_mul];omega
  rw[this,Qfd h i]
theorem Qlv{s t:List UInt8}{f:Nat}{cap:List AV}{h:Heap}(b:t≠s)(h1:h.get 64=some (.cells 0 [.str s]))(a:h.get 150=some (nlP f cap .ready)):RSpec Tryz.prog 150 0 [.str t] h (.bool true) h:=by refine RSpec.of_wS (n:=300) rfl a rfl rfl rfl ?_;simp(disch:=first|omega|exact PairsOK.mk rfl|(simp only[lenW]<;>omega))only[upsT,h1,a,QjJ,b,wW,wV,simprocAttr];exact⟨rfl,fun x=>set2h rfl a⟩
theorem QjK{s:List UInt8}{f:Nat}{cap:List AV}{h:Heap}(h1:h.get 64=some (.cells 0 [.str s]))(b:h.get 65=some (.cells 0 [.int .i64 0]))(a:h.get 150=some (nlP f cap .ready)):RSpec Tryz.prog 150 0 [.str s] h (.bool false) ((h.set 65 (.cells 0 [.int .i64 8])).set 150 (nlP f cap (.done .ret))):=by refine RSpec.of_wS (n:=300) rfl a rfl rfl rfl ?_;simp(disch:=first|omega|exact PairsOK.mk rfl|(simp only[lenW]<;>omega))only[upsT,h1,b,a,QjJ,wW,wV,simprocAttr];exact⟨rfl,fun x=>set3h rfl⟩
def nmErr(s:List UInt8)(N:List (List UInt8)):Int:=if nmOk s=false then 7 else if s∈N then 8 else 0
theorem clos95(s:List UInt8)(S K:AV)(xs:List Exn)(i:Nat)(hi:i<=xs.length)(I:xs.length<=1000)(E:noRefs [S,exsZ xs,K]=true)(d:Bool)(A:d=decide (s∈(xs.take i).map (·.1))):HSpec Tryz.prog 95 [.yld 150 0,.fptr [S,exsZ xs,K],.fptr [.int .i64 (i:Int)]] (hp (nlH s 0 95 [.fptr [S,exsZ xs,K],.fptr [.int .i64 (i:Int)]] .ready)) (.tup []) (hp (nlH s (if d then 8 else 0) 95 [.fptr [S,exsZ xs,K],.fptr [.int .i64 (i:Int)]] (if d then .done .ret else .ready))):=by
 refine HSpec.QcG (m:=200) 1000 TX.ok95 rfl rfl rfl ?_;have C:=Qgj xs;have l:(i:Int)<=(xs.length:Int):=by omega
 have q:((xs.flatMap exZ).take (i*2))=(xs.take i).flatMap exZ:=Qfd (k:=2) (fun _=>rfl) i;have B:(xs.take i).length=i:=by rw[List.length_take];omega
 simp(disch:=first|omega|exact PairsOK.mk rfl|(simp only[lenW]<;>omega))only[TX.s95,l,q,wW,wV,simprocAttr];clear q l C;generalize g:[AV.fptr [S,exsZ xs,K],AV.fptr [.int .i64 (i:Int)]]=cap at*;have w:noRef (.fn 95 [] cap)=true:=by
  have:noRefs cap=true:=by rw[<-g];simp only[noRefs,noRef]at E⊢;rw[E];rfl
  exact QbG this
 clear g;generalize xs.take i=N at*;have t:∀{π:Nat->Option Src}{h:Heap},RT 200 π h (nlT 95 cap) (nlT 95 cap):=fun{π h}=>RT.cons (Rn.x6 rfl) (RT.cons (Rn.x6 rfl) (RT.cons (Rn.same w) RT.nil));have a:∀{π:Nat->Option Src}{h:Heap}{s:List UInt8}{e:Int}{st:LSt},h.get 64=some (.cells 0 [.str s])->h.get 65=some (.cells 0 [.int .i64 e])->h.get 150=some (nlP 95 cap st)->RB 200 π h (nlH s e 95 cap st):=fun{π h s e st}h1 H G=>RB.loopB rfl G t (RB.cellsB rfl h1 (RnL.same rfl) (RB.cellsB rfl H (RnL.same rfl) RB.nil));subst B;have p:=Qch N;refine Qay 1100 (fun k:Nat=>[(0,.yld 150 0),(9,exsZ N),(10,.int .i64 N.length),(11,.int .i64 k)]) (fun _=>nlH s 0 95 cap .ready) (fun k=>k<=N.length/\∀(j:Nat)y,j<k->N[j]?=some y->y.1≠s) (fun k=>N.length-k) 0 0 1200 (fun _:Unit=>[]) (fun _=>nlH s 0 95 cap .ready) (fun _=>d=false) ?_ ⟨Nat.zero_le _,fun j y r=>absurd r (Nat.not_lt_zero _)⟩ ?_ ?_;·refine⟨[(150,.nil),(64,.nil),(65,.nil)],rfl,au0,a gg gg gg,RT.cons (Rn.yldB rfl) (RT.cons (Rn.same p) au20)⟩
 ·rintro k⟨hk,F⟩;by_cases b:k<N.length
  ·obtain⟨x,v⟩:=Qav b;have f:=Qhs v;have m:2<=((N.flatMap exZ).drop (k*2)).length:=by rw[f];simp
   by_cases he:x.1=s;·subst he;have hm:decide (x.1∈N.map (·.1))=true:=decide_eq_true (List.mem_map.2 ⟨x,List.mem_of_getElem? v,rfl⟩);rw[hm]at A;subst A;simp(disch:=first|omega|exact PairsOK.mk rfl|(simp only[lenW]<;>omega))only[b,f,m,wW,wV,simprocAttr];refine cy (QjK (f:=95) (cap:=cap) gg gg gg) ?_;simp(disch:=first|omega|exact PairsOK.mk rfl|(simp only[lenW]<;>omega))only[wW,wV,simprocAttr];exact⟨.inr trivial,_,rfl,rfl,[(150,.nil),(64,.nil),(65,.nil)],rfl,au0,a gg gg gg,RT.nil⟩
   simp(disch:=first|omega|exact PairsOK.mk rfl|(simp only[lenW]<;>omega))only[b,f,m,wW,wV,simprocAttr];refine cy (Qlv (f:=95) (cap:=cap) he gg gg) ?_;simp(disch:=first|omega|exact PairsOK.mk rfl|(simp only[lenW]<;>omega))only[wW,wV,simprocAttr];refine⟨k+1,by omega,⟨by omega,fun j y r o=>?_⟩,[(150,.nil),(64,.nil),(65,.nil)],rfl,au0,a gg gg gg,RT.cons (Rn.yldB rfl) (RT.cons (Rn.same p) au20)⟩;by_cases e:j=k;·subst e;rw[v]at o;cases o;exact he
   exact F j y (by omega) o
  have hm:s∉N.map (·.1):=fun h=>by obtain⟨y,o,e⟩:=List.mem_map.1 h;obtain⟨j,r,u⟩:=List.getElem_of_mem o;exact F j y (by omega) (by rw[List.getElem?_eq_getElem r,u]) e
  have c:d=false:=by rw[A];exact decide_eq_false hm
  simp(disch:=first|omega|exact PairsOK.mk rfl|(simp only[lenW]<;>omega))only[b,wW,wV,simprocAttr];exact⟨(),c,[(150,.nil),(64,.nil),(65,.nil)],rfl,au0,a gg gg gg,RT.nil⟩
 rintro _ c;subst c;simp(disch:=first|omega|exact PairsOK.mk rfl|(simp only[lenW]<;>omega))only[wW,wV,simprocAttr];exact⟨.inl trivial,_,rfl,rfl,[(150,.nil),(64,.nil),(65,.nil)],rfl,au0,a gg gg gg,RT.nil⟩
theorem name95(s:List UInt8)(S K:AV)(xs:List Exn)(i:Nat)(hi:i<=xs.length)(h:xs.length<=1000)(c:s.length<=9223372036854775807)(d:noRefs [S,exsZ xs,K]=true):PSpec Tryz.prog 96 [.str s,.fn 95 [] [.fptr [S,exsZ xs,K],.fptr [.int .i64 (i:Int)]]] (.int .i64 (nmErr s ((xs.take i).map (·.1)))):=by
 have b:noRef (.fn 95 [] [AV.fptr [S,exsZ xs,K],AV.fptr [.int .i64 (i:Int)]])=true:=by refine QbG ?_;simp only[noRefs,noRef]at d⊢;rw[d];rfl
 refine PSpec.QaB 64 TX.ok96 rfl (by rw[noRefs,noRefs,b];rfl) rfl ?_;have hc:=clos95 s S K xs i hi h d;have f:=name135 s c;unfold nmErr;generalize g:[AV.fptr [S,exsZ xs,K],AV.fptr [.int .i64 (i:Int)]]=cap at*;simp(disch:=first|omega|exact PairsOK.mk rfl|(simp only[lenW]<;>omega))only[TX.s96,wW,wV,simprocAttr];refine cp f ?_;cases ho:nmOk s with|false=>simp(disch:=first|omega|exact PairsOK.mk rfl|(simp only[lenW]<;>omega))only[wW,wV,simprocAttr];exact⟨.inr trivial,_,rfl,rfl⟩|true=>
  simp(disch:=first|omega|exact PairsOK.mk rfl|(simp only[lenW]<;>omega))only[wW,wV,simprocAttr];have a:Rec 0 (nlT 95 cap) [(64,.cells 0 [.str s]),(65,.cells 0 [.int .i64 0])] [(2,.ptr 64 0 0),(4,.ptr 65 0 0),(9,.fn 95 [] cap)] ((Tr.e.set 64 (.cells 0 [.str s])).set 65 (.cells 0 [.int .i64 0])):=by refine⟨[(64,.blk 64 0),(65,.blk 65 0)],rfl,RO.zero,RB.cells rfl rfl gg (RnL.same rfl) (RB.cells rfl rfl gg (RnL.same rfl) RB.nil),RT.cons (Rn.x2 rfl rfl) (RT.cons (Rn.x2 rfl rfl) (RT.cons (Rn.same b) RT.nil))⟩
  by_cases hm:s∈(xs.take i).map (·.1);·have h1:=hc true (decide_eq_true hm).symm;simp only[if_true]at h1;refine QcV (n':=400) (b:=150) (st:=.done .ret) a rfl gg rfl h1 gg ?_;unfold leftQ;refine⟨rfl,?_⟩;simp(disch:=first|omega|exact PairsOK.mk rfl|(simp only[lenW]<;>omega))only[wW,wV,simprocAttr];exact⟨.inr trivial,_,rfl,by rw[if_pos hm];rfl⟩
  have h1:=hc false (decide_eq_false hm).symm;simp only[Bool.false_eq_true,if_false]at h1;refine QcV (n':=400) (b:=150) (st:=.ready) a rfl gg rfl h1 gg ?_;unfold leftQ;simp(disch:=first|omega|exact PairsOK.mk rfl|(simp only[lenW]<;>omega))only[wW,wV,simprocAttr];exact⟨.inr trivial,_,rfl,by rw[if_neg hm];rfl⟩
theorem clos98(s:List UInt8)(S K:AV)(xs:List Con)(i:Nat)(hi:i<=xs.length)(I:xs.length<=1000)(E:noRefs [S,K,cosZ xs]=true)(d:Bool)(A:d=decide (s∈(xs.take i).map (·.1))):HSpec Tryz.prog 98 [.yld 150 0,.fptr [S,K,cosZ xs],.fptr [.int .i64 (i:Int)]] (hp (nlH s 0 98 [.fptr [S,K,cosZ xs],.fptr [.int .i64 (i:Int)]] .ready)) (.tup []) (hp (nlH s (if d then 8 else 0) 98 [.fptr [S,K,cosZ xs],.fptr [.int .i64 (i:Int)]] (if d then .done .ret else .ready))):=by
 refine HSpec.QcG (m:=200) 1000 TX.ok98 rfl rfl rfl ?_;have C:=QeK xs;have l:(i:Int)<=(xs.length:Int):=by omega
 have q:((xs.flatMap coZ).take (i*3))=(xs.take i).flatMap coZ:=Qfd (k:=3) (fun _=>rfl) i;have B:(xs.take i).length=i:=by rw[List.length_take];omega
 simp(disch:=first|omega|exact PairsOK.mk rfl|(simp only[lenW]<;>omega))only[TX.s98,l,q,wW,wV,simprocAttr];clear q l C;generalize g:[AV.fptr [S,K,cosZ xs],AV.fptr [.int .i64 (i:Int)]]=cap at*;have w:noRef (.fn 98 [] cap)=true:=by
  have:noRefs cap=true:=by rw[<-g];simp only[noRefs,noRef]at E⊢;rw[E];rfl
  exact QbG this
 clear g;generalize xs.take i=N at*;have t:∀{π:Nat->Option Src}{h:Heap},RT 200 π h (nlT 98 cap) (nlT 98 cap):=fun{π h}=>RT.cons (Rn.x6 rfl) (RT.cons (Rn.x6 rfl) (RT.cons (Rn.same w) RT.nil));have a:∀{π:Nat->Option Src}{h:Heap}{s:List UInt8}{e:Int}{st:LSt},h.get 64=some (.cells 0 [.str s])->h.get 65=some (.cells 0 [.int .i64 e])->h.get 150=some (nlP 98 cap st)->RB 200 π h (nlH s e 98 cap st):=fun{π h s e st}h1 H G=>RB.loopB rfl G t (RB.cellsB rfl h1 (RnL.same rfl) (RB.cellsB rfl H (RnL.same rfl) RB.nil));subst B;have p:=QdH N;refine Qay 1100 (fun k:Nat=>[(0,.yld 150 0),(9,cosZ N),(10,.int .i64 N.length),(11,.int .i64 k)]) (fun _=>nlH s 0 98 cap .ready) (fun k=>k<=N.length/\∀(j:Nat)y,j<k->N[j]?=some y->y.1≠s) (fun k=>N.length-k) 0 0 1200 (fun _:Unit=>[]) (fun _=>nlH s 0 98 cap .ready) (fun _=>d=false) ?_ ⟨Nat.zero_le _,fun j y r=>absurd r (Nat.not_lt_zero _)⟩ ?_ ?_;·refine⟨[(150,.nil),(64,.nil),(65,.nil)],rfl,au0,a gg gg gg,RT.cons (Rn.yldB rfl) (RT.cons (Rn.same p) au20)⟩
 ·rintro k⟨hk,F⟩;by_cases b:k<N.length
  ·obtain⟨x,v⟩:=Qav b;have f:=Qfc v;have m:3<=((N.flatMap coZ).drop (k*3)).length:=by rw[f];simp
   by_cases he:x.1=s;·subst he;have hm:decide (x.1∈N.map (·.1))=true:=decide_eq_true (List.mem_map.2 ⟨x,List.mem_of_getElem? v,rfl⟩);rw[hm]at A;subst A;simp(disch:=first|omega|exact PairsOK.mk rfl|(simp only[lenW]<;>omega))only[b,f,m,wW,wV,simprocAttr];refine cy (QjK (f:=98) (cap:=cap) gg gg gg) ?_;simp(disch:=first|omega|exact PairsOK.mk rfl|(simp only[lenW]<;>omega))only[wW,wV,simprocAttr];exact⟨.inr trivial,_,rfl,rfl,[(150,.nil),(64,.nil),(65,.nil)],rfl,au0,a gg gg gg,RT.nil⟩
   simp(disch:=first|omega|exact PairsOK.mk rfl|(simp only[lenW]<;>omega))only[b,f,m,wW,wV,simprocAttr];refine cy (Qlv (f:=98) (cap:=cap) he gg gg) ?_;simp(disch:=first|omega|exact PairsOK.mk rfl|(simp only[lenW]<;>omega))only[wW,wV,simprocAttr];refine⟨k+1,by omega,⟨by omega,fun j y r o=>?_⟩,[(150,.nil),(64,.nil),(65,.nil)],rfl,au0,a gg gg gg,RT.cons (Rn.yldB rfl) (RT.cons (Rn.same p) au20)⟩;by_cases e:j=k;·subst e;rw[v]at o;cases o;exact he
   exact F j y (by omega) o
  have hm:s∉N.map (·.1):=fun h=>by obtain⟨y,o,e⟩:=List.mem_map.1 h;obtain⟨j,r,u⟩:=List.getElem_of_mem o;exact F j y (by omega) (by rw[List.getElem?_eq_getElem r,u]) e
  have c:d=false:=by rw[A];exact decide_eq_false hm
  simp(disch:=first|omega|exact PairsOK.mk rfl|(simp only[lenW]<;>omega))only[b,wW,wV,simprocAttr];exact⟨(),c,[(150,.nil),(64,.nil),(65,.nil)],rfl,au0,a gg gg gg,RT.nil⟩
 rintro _ c;subst c;simp(disch:=first|omega|exact PairsOK.mk rfl|(simp only[lenW]<;>omega))only[wW,wV,simprocAttr];exact⟨.inl trivial,_,rfl,rfl,[(150,.nil),(64,.nil),(65,.nil)],rfl,au0,a gg gg gg,RT.nil⟩
theorem name98(s:List UInt8)(S K:AV)(xs:List Con)(i:Nat)(hi:i<=xs.length)(h:xs.length<=1000)(c:s.length<=9223372036854775807)(d:noRefs [S,K,cosZ xs]=true):PSpec Tryz.prog 96 [.str s,.fn 98 [] [.fptr [S,K,cosZ xs],.fptr [.int .i64 (i:Int)]]] (.int .i64 (nmErr s ((xs.take i).map (·.1)))):=by
 have b:noRef (.fn 98 [] [AV.fptr [S,K,cosZ xs],AV.fptr [.int .i64 (i:Int)]])=true:=by refine QbG ?_;simp only[noRefs,noRef]at d⊢;rw[d];rfl
 refine PSpec.QaB 64 TX.ok96 rfl (by rw[noRefs,noRefs,b];rfl) rfl ?_;have hc:=clos98 s S K xs i hi h d;have f:=name135 s c;unfold nmErr;generalize g:[AV.fptr [S,K,cosZ xs],AV.fptr [.int .i64 (i:Int)]]=cap at*;simp(disch:=first|omega|exact PairsOK.mk rfl|(simp only[lenW]<;>omega))only[TX.s96,wW,wV,simprocAttr];refine cp f ?_;cases ho:nmOk s with|false=>simp(disch:=first|omega|exact PairsOK.mk rfl|(simp only[lenW]<;>omega))only[wW,wV,simprocAttr];exact⟨.inr trivial,_,rfl,rfl⟩|true=>
  simp(disch:=first|omega|exact PairsOK.mk rfl|(simp only[lenW]<;>omega))only[wW,wV,simprocAttr];have a:Rec 0 (nlT 98 cap) [(64,.cells 0 [.str s]),(65,.cells 0 [.int .i64 0])] [(2,.ptr 64 0 0),(4,.ptr 65 0 0),(9,.fn 98 [] cap)] ((Tr.e.set 64 (.cells 0 [.str s])).set 65 (.cells 0 [.int .i64 0])):=by refine⟨[(64,.blk 64 0),(65,.blk 65 0)],rfl,RO.zero,RB.cells rfl rfl gg (RnL.same rfl) (RB.cells rfl rfl gg (RnL.same rfl) RB.nil),RT.cons (Rn.x2 rfl rfl) (RT.cons (Rn.x2 rfl rfl) (RT.cons (Rn.same b) RT.nil))⟩
  by_cases hm:s∈(xs.take i).map (·.1);·have h1:=hc true (decide_eq_true hm).symm;simp only[if_true]at h1;refine QcV (n':=400) (b:=150) (st:=.done .ret) a rfl gg rfl h1 gg ?_;unfold leftQ;refine⟨rfl,?_⟩;simp(disch:=first|omega|exact PairsOK.mk rfl|(simp only[lenW]<;>omega))only[wW,wV,simprocAttr];exact⟨.inr trivial,_,rfl,by rw[if_pos hm];rfl⟩
  have h1:=hc false (decide_eq_false hm).symm;simp only[Bool.false_eq_true,if_false]at h1;refine QcV (n':=400) (b:=150) (st:=.ready) a rfl gg rfl h1 gg ?_;unfold leftQ;simp(disch:=first|omega|exact PairsOK.mk rfl|(simp only[lenW]<;>omega))only[wW,wV,simprocAttr];exact⟨.inr trivial,_,rfl,by rw[if_neg hm];rfl⟩
end Go.AM.SO
namespace Go.AM.SO
open Go.Proofs Go.AM.SD Go.AM.SE
def szE(S:List Int)(i:Nat):Int:=if S.getD i 0<1\/4096<S.getD i 0 then 2 else 0
def xsE(S:List Int)(xs:List Exn)(i:Nat):Int:=let x:=xs.getD i ([],[])
 if nmErr x.1 ((xs.take i).map (·.1))≠0 then nmErr x.1 ((xs.take i).map (·.1))else exErr S x.2
def ksE(S:List Int)(ks:List Con)(i:Nat):Int:=let x:=ks.getD i ([],[],0)
 if nmErr x.1 ((ks.take i).map (·.1))≠0 then nmErr x.1 ((ks.take i).map (·.1))else coErr S x.2.1 x.2.2
def cdErr(S:List Int)(xs:List Exn)(ks:List Con):Int:=if 8<S.length then 3 else if fe (szE S) S.length≠0 then fe (szE S) S.length else if 32<xs.length\/32<ks.length then 3 else if fe (xsE S xs) xs.length≠0 then fe (xsE S xs) xs.length else fe (ksE S ks) ks.length
theorem QrG{S:List Int}{xs:List Exn}{i:Nat}{x:Exn}(h:xs[i]?=some x):xsE S xs i=if nmErr x.1 ((xs.take i).map (·.1))≠0 then nmErr x.1 ((xs.take i).map (·.1))else exErr S x.2:=by unfold xsE;rw[Qa5 h]
theorem QrH{S:List Int}{ks:List Con}{i:Nat}{x:Con}(h:ks[i]?=some x):ksE S ks i=if nmErr x.1 ((ks.take i).map (·.1))≠0 then nmErr x.1 ((ks.take i).map (·.1))else coErr S x.2.1 x.2.2:=by unfold ksE;rw[Qa5 h]
theorem Qpb{S:List Int}{xs:List Exn}{ks:List Con}{e:Int}(h:fe (xsE S xs) xs.length=e)(a:e≠0):(if fe (xsE S xs) xs.length≠0 then fe (xsE S xs) xs.length else fe (ksE S ks) ks.length)=e:=by rw[h,if_pos a]
theorem Qpc{S:List Int}{ks:List Con}{e:Int}(h:fe (ksE S ks) ks.length=e)(_:e≠0):fe (ksE S ks) ks.length=e:=h
theorem _root_.Go.AM.au21{p:Prop}(h:p:=by repeat(first|exact RT.nil|(refine RT.cons ?_ ?_;·(first|exact Rn.any|exact Rn.x1 rfl rfl|exact Rn.x2 rfl rfl|exact Rn.x3 rfl rfl|exact Rn.x4 rfl rfl|exact Rn.x5 rfl|exact Rn.x6 rfl|exact Rn.x7 rfl|(refine Rn.slot ?_ ?_;(first|rfl|(rw[Int.natCast_add];rfl));(first|rfl|(simp only[noRef,noRefs,Qah,Bool.and_self,Bool.and_true,Bool.true_and,Qab,Qap,Qaa,QbE,Qbe];done)))|(refine Rn.fn ?_ ?_<;>(repeat'(first|exact RnL.nil|refine RnL.cons ?_ ?_|exact Rn.same rfl|exact Rn.x6 rfl|exact Rn.x2 rfl rfl|exact Rn.x5 rfl|exact Rn.x1 rfl rfl))))))):p:=h
theorem conds32X(S:List Int)(xs:List Exn)(ks:List Con)(hS:S.length<=1000)(G:xs.length<=1000)(H:ks.length<=1000)(v:∀x∈xs,x.1.length<=9223372036854775807/\x.2.length<=8796093021952)(y:∀x∈ks,x.1.length<=9223372036854775807/\x.2.1.length<=8796093021952):PSpec Tryz.prog 62 [cdZ S xs ks] (.int .i64 (cdErr S xs ks)):=by
 have b:=@QbZ S xs ks;refine PSpec.QaB 64 SQ.ok62 rfl (by rw[noRefs,noRef,b];rfl) rfl ?_;unfold cdErr;by_cases g1:8<S.length
 ·have r:(8:Int)<(S.length:Int):=by omega
  simp(disch:=first|omega|exact PairsOK.mk rfl|(simp only[lenW]<;>omega))only[SQ.s62,r,wW,wV,simprocAttr];exact⟨.inr trivial,_,rfl,by rw[if_pos g1];rfl⟩
 rw[if_neg g1];have r:¬(8:Int)<(S.length:Int):=by omega
 simp(disch:=first|omega|exact PairsOK.mk rfl|(simp only[lenW]<;>omega))only[SQ.s62,r,wW,wV,simprocAttr];refine Qay 100 (fun i:Nat=>[(1,.ptr 50 0 0),(20,sli S),(21,.int .i64 S.length),(22,.int .i64 i)]) (fun _=>[(50,.cells 0 (cdK S xs ks))]) (fun i=>i<=S.length/\∀j,j<i->szE S j=0) (fun i=>S.length-i) 0 0 140 (fun _:Unit=>[(1,.ptr 50 0 0)]) (fun _=>[(50,.cells 0 (cdK S xs ks))]) (fun _=>fe (szE S) S.length=0) ⟨[(50,.blk 64 0)],rfl,au0,?_,au21⟩ ⟨Nat.zero_le _,fun j l=>absurd l (Nat.not_lt_zero _)⟩ ?_ ?_;·exact RB.cells rfl rfl gg (RnL.same b) RB.nil
 ·rintro i⟨hi,d⟩;by_cases a:i<S.length
  ·obtain⟨s,B⟩:=Qav a;have m:S.getD i 0=s:=Qa5 B;by_cases q1:s<1;·simp(disch:=first|omega|exact PairsOK.mk rfl|(simp only[lenW]<;>omega))only[a,QaT B,q1,wW,wV,simprocAttr];exact⟨.inr trivial,_,rfl,by rw[fe_at (e:=2) (by unfold szE;rw[m,if_pos (.inl q1)]) (by decide) d a,if_pos (by decide)];rfl⟩
   by_cases q2:4096<s;·simp(disch:=first|omega|exact PairsOK.mk rfl|(simp only[lenW]<;>omega))only[a,QaT B,q1,q2,wW,wV,simprocAttr];exact⟨.inr trivial,_,rfl,by rw[fe_at (e:=2) (by unfold szE;rw[m,if_pos (.inr q2)]) (by decide) d a,if_pos (by decide)];rfl⟩
   simp(disch:=first|omega|exact PairsOK.mk rfl|(simp only[lenW]<;>omega))only[a,QaT B,q1,q2,wW,wV,simprocAttr];refine⟨i+1,by omega,⟨by omega,fe_up d (by unfold szE;rw[m,if_neg (by omega)])⟩,?_⟩;refine⟨[(50,.blk 50 0)],rfl,au0,?_,au21⟩;exact RB.cells rfl rfl gg (RnL.same b) RB.nil
  simp(disch:=first|omega|exact PairsOK.mk rfl|(simp only[lenW]<;>omega))only[a,wW,wV,simprocAttr];refine⟨(),QbV fun j l=>d j (by omega),?_⟩;refine⟨[(50,.blk 50 0)],rfl,au0,?_,au21⟩;exact RB.cells rfl rfl gg (RnL.same b) RB.nil
 rintro _ I;rw[if_neg (fun h=>h I)];by_cases g2:32<xs.length
 ·have k:(32:Int)<(xs.length:Int):=by omega
  simp(disch:=first|omega|exact PairsOK.mk rfl|(simp only[lenW]<;>omega))only[k,wW,wV,simprocAttr];exact⟨.inr trivial,_,rfl,by rw[if_pos (.inl g2)];rfl⟩
 have k:¬(32:Int)<(xs.length:Int):=by omega
 by_cases g3:32<ks.length
 ·have p:(32:Int)<(ks.length:Int):=by omega
  simp(disch:=first|omega|exact PairsOK.mk rfl|(simp only[lenW]<;>omega))only[k,p,wW,wV,simprocAttr];exact⟨.inr trivial,_,rfl,by rw[if_pos (.inr g3)];rfl⟩
 have p:¬(32:Int)<(ks.length:Int):=by omega
 rw[if_neg (by omega)];simp(disch:=first|omega|exact PairsOK.mk rfl|(simp only[lenW]<;>omega))only[k,p,wW,wV,simprocAttr];refine Qay 200 (fun i:Nat=>[(1,.ptr 50 0 0),(44,exsZ xs),(45,.int .i64 xs.length),(46,.int .i64 i)]) (fun _=>[(50,.cells 0 (cdK S xs ks))]) (fun i=>i<=xs.length/\∀j,j<i->xsE S xs j=0) (fun i=>xs.length-i) 0 2 240 (fun _:Unit=>[(1,.ptr 50 0 0)]) (fun _=>[(50,.cells 0 (cdK S xs ks))]) (fun _=>fe (xsE S xs) xs.length=0) ⟨[(50,.blk 50 0)],rfl,au0,?_,au21⟩ ⟨Nat.zero_le _,fun j l=>absurd l (Nat.not_lt_zero _)⟩ ?_ ?_;·exact RB.cells rfl rfl gg (RnL.same b) RB.nil
 ·skip;rintro i⟨hi,d⟩;by_cases a:i<xs.length
  ·obtain⟨x,q⟩:=Qav a;have f:=List.mem_of_getElem? q;have g:=Qhs q;have o:2<=((xs.flatMap exZ).drop (i*2)).length:=by rw[g];simp
   have F:=name95 x.1 (sli S) (cosZ ks) xs i (by omega) (by omega) (v x f).1 b;have t:=excl103X S xs ks x (v x f).2;have A:=QrG (S:=S) q;have c:∀e:Int,xsE S xs i=e->e≠0->fe (xsE S xs) xs.length=e:=fun e h E=>fe_at h E d a;have up:xsE S xs i=0->∀j,j<i+1->xsE S xs j=0:=fe_up d;rw[A]at c up;clear A;generalize nmErr x.1 ((xs.take i).map (·.1))=w at*;generalize exErr S x.2=u at*;have hex:exZ x=[.str x.1,prs x.2]:=rfl;rw[hex]at t;simp(disch:=first|omega|exact PairsOK.mk rfl|(simp only[lenW]<;>omega))only[a,g,o,wW,wV,simprocAttr];refine SU.chc (HSpec.lend (FrzL.cons (FrzTo.same _) (FrzL.cons (FrzTo.fn FrzL.nil (FrzL.cons (FrzTo.ptr (g:=0) (cs:=cdK S xs ks) gg (FrzL.same _)) (FrzL.cons (FrzTo.ptr (g:=0) (cs:=[.int .i64 (i:Int)]) gg (FrzL.same _)) FrzL.nil))) FrzL.nil)) F rfl) ?_;by_cases q1:w=0
   ·simp(disch:=first|omega|exact PairsOK.mk rfl|(simp only[lenW]<;>omega))only[q1,wW,wV,simprocAttr];refine cp t ?_;by_cases q2:u=0;·simp(disch:=first|omega|exact PairsOK.mk rfl|(simp only[lenW]<;>omega))only[q2,wW,wV,simprocAttr];refine⟨i+1,by omega,⟨by omega,up (by rw[if_neg (fun h=>h q1)];exact q2)⟩,?_⟩;refine⟨[(50,.blk 50 0)],rfl,au0,?_,au21⟩;exact RB.cells rfl rfl gg (RnL.same b) RB.nil
    simp(disch:=first|omega|exact PairsOK.mk rfl|(simp only[lenW]<;>omega))only[q2,wW,wV,simprocAttr];exact⟨.inr trivial,_,rfl,by rw[Qpb (c u (by rw[if_neg (fun h=>h q1)]) q2) q2];rfl⟩
   simp(disch:=first|omega|exact PairsOK.mk rfl|(simp only[lenW]<;>omega))only[q1,wW,wV,simprocAttr];exact⟨.inr trivial,_,rfl,by rw[Qpb (c w (by rw[if_pos q1]) q1) q1];rfl⟩
  simp(disch:=first|omega|exact PairsOK.mk rfl|(simp only[lenW]<;>omega))only[a,wW,wV,simprocAttr];refine⟨(),QbV fun j l=>d j (by omega),?_⟩;refine⟨[(50,.blk 50 0)],rfl,au0,?_,au21⟩;exact RB.cells rfl rfl gg (RnL.same b) RB.nil
 rintro _ C;rw[if_neg (fun h=>h C)];simp(disch:=first|omega|exact PairsOK.mk rfl|(simp only[lenW]<;>omega))only[wW,wV,simprocAttr];refine Qbh 300 (fun i:Nat=>[(1,.ptr 50 0 0),(67,cosZ ks),(68,.int .i64 ks.length),(69,.int .i64 i)]) (fun _=>[(50,.cells 0 (cdK S xs ks))]) (fun i=>i<=ks.length/\∀j,j<i->ksE S ks j=0) (fun i=>ks.length-i) 0 ⟨[(50,.blk 50 0)],rfl,au0,?_,au21⟩ ⟨Nat.zero_le _,fun j l=>absurd l (Nat.not_lt_zero _)⟩ ?_;·exact RB.cells rfl rfl gg (RnL.same b) RB.nil
 rintro i⟨hi,d⟩;by_cases a:i<ks.length
 ·obtain⟨x,q⟩:=Qav a;have f:=List.mem_of_getElem? q;have g:=Qfc q;have o:3<=((ks.flatMap coZ).drop (i*3)).length:=by rw[g];simp
  have F:=name98 x.1 (sli S) (exsZ xs) ks i (by omega) (by omega) (y x f).1 b;have t:=cons105X S xs ks x (y x f).2;have A:=QrH (S:=S) q;have c:∀e:Int,ksE S ks i=e->e≠0->fe (ksE S ks) ks.length=e:=fun e h E=>fe_at h E d a;have up:ksE S ks i=0->∀j,j<i+1->ksE S ks j=0:=fe_up d;rw[A]at c up;clear A;generalize nmErr x.1 ((ks.take i).map (·.1))=w at*;generalize coErr S x.2.1 x.2.2=u at*;have hex:coZ x=[.str x.1,prs x.2.1,.int .i64 x.2.2]:=rfl;rw[hex]at t;simp(disch:=first|omega|exact PairsOK.mk rfl|(simp only[lenW]<;>omega))only[a,g,o,wW,wV,simprocAttr];refine SU.chc (HSpec.lend (FrzL.cons (FrzTo.same _) (FrzL.cons (FrzTo.fn FrzL.nil (FrzL.cons (FrzTo.ptr (g:=0) (cs:=cdK S xs ks) gg (FrzL.same _)) (FrzL.cons (FrzTo.ptr (g:=0) (cs:=[.int .i64 (i:Int)]) gg (FrzL.same _)) FrzL.nil))) FrzL.nil)) F rfl) ?_;by_cases q1:w=0
  ·simp(disch:=first|omega|exact PairsOK.mk rfl|(simp only[lenW]<;>omega))only[q1,wW,wV,simprocAttr];refine cp t ?_;by_cases q2:u=0;·simp(disch:=first|omega|exact PairsOK.mk rfl|(simp only[lenW]<;>omega))only[q2,wW,wV,simprocAttr];refine⟨i+1,by omega,⟨by omega,up (by rw[if_neg (fun h=>h q1)];exact q2)⟩,?_⟩;refine⟨[(50,.blk 50 0)],rfl,au0,?_,au21⟩;exact RB.cells rfl rfl gg (RnL.same b) RB.nil
   simp(disch:=first|omega|exact PairsOK.mk rfl|(simp only[lenW]<;>omega))only[q2,wW,wV,simprocAttr];exact⟨.inr trivial,_,rfl,by rw[Qpc (c u (by rw[if_neg (fun h=>h q1)]) q2) q2];rfl⟩
  simp(disch:=first|omega|exact PairsOK.mk rfl|(simp only[lenW]<;>omega))only[q1,wW,wV,simprocAttr];exact⟨.inr trivial,_,rfl,by rw[Qpc (c w (by rw[if_pos q1]) q1) q1];rfl⟩
 simp(disch:=first|omega|exact PairsOK.mk rfl|(simp only[lenW]<;>omega))only[a,wW,wV,simprocAttr];exact⟨.inr trivial,_,rfl,by rw[QbV fun j l=>d j (by omega)];rfl⟩
end Go.AM.SO
