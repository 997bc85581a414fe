/- A part of the proof of CatalogueWordsCardSaid: lemmas on the way (AnRk, AnOk, AmTv, AnCr, AnOl, AnOm, AnCzg, AnXa, AnZa, AnGm, AnGn, AnGq, AnZb, AnGo, AmTo, AmTm, AnGt, AnGu, AnGw, AnZc, AnGv, AnZd, AnHc, AnZe, AnHd). Conditions: none of ours. -/
import Derived.Test.YteiijgolpigjdaaGreatDoorProg
import Derived.KernelRfl
import Derived.Test.YteiijgolpigjdaaGreatDoorAmW15
set_option linter.unusedSectionVars false
set_option maxHeartbeats 32000000
set_option maxRecDepth 100000
set_option linter.unusedVariables false
set_option linter.unusedSimpArgs false
namespace Go.AM.SO
open Go.Proofs Go.AM.SD Go.AM.SE
def uZ(l:List Itn):List Nat:=l.foldl (fun out x=>mrg (fun a b=>a||b) out (natA x.2).al) []
theorem Qpd:∀{l:List Itn}{out:List Nat},out.Pairwise (·<·)->(∀e∈out,e<32)->(∀x∈l,(natA x.2).al.Pairwise (·<·)/\∀e∈(natA x.2).al,e<32)->(l.foldl (fun out x=>mrg (fun a b=>a||b) out (natA x.2).al) out).Pairwise (·<·)/\∀e∈l.foldl (fun out x=>mrg (fun a b=>a||b) out (natA x.2).al) out,e<32
 |[],out,h,c,_=>⟨h,c⟩|x::l,out,h,c,f=>by
  obtain⟨g,d⟩:=f x (by simp);rw[List.foldl_cons];refine Qpd (Qcf h g) (fun e he=>?_) fun y i=>f y (by simp[i]);rw[QbU h g]at he;obtain⟨h1,_⟩:=he;simp only[Bool.or_eq_true,decide_eq_true_eq]at h1;rcases h1 with h1|h1;·exact c e h1
  exact d e h1
theorem QrI{l:List Itn}(h:∀x∈l,(natA x.2).al.Pairwise (·<·)/\∀e∈(natA x.2).al,e<32):(uZ l).length<=32:=by obtain⟨h1,a⟩:=Qpd (l:=l) (out:=[]) (by simp) (by simp) h;exact QbD h1 a
theorem Qq0{l:List Itn}{i:Nat}{x:Itn}(h:l[i]?=some x):uZ (l.take (i+1))=mrg (fun a b=>a||b) (uZ (l.take i)) (natA x.2).al:=by unfold uZ;rw[take_succ' h,List.foldl_append];rfl
theorem Qf4{E:Int}{B:List Nat}{N:List (List UInt8)}{x:Itn}(b:ItOk x)(h:itEr E B N x=0):itNs N x=N++[x.1]/\au (natA x.2)=x.2/\WfA (natA x.2):=by cases ho:nmOk x.1 with|false=>rw[(Qo8 ho).1]at h;cases h|true=>
 by_cases hm:x.1∈N;·rw[(Qo9 ho hm).1]at h;cases h
 obtain⟨h1,a⟩:=Qpa (E:=E) (B:=B) ho hm;rw[h1]at h;unfold itE2 at h;split at h;·rename_i q;exact absurd h q
 rename_i q;exact⟨a,Qhq (by simpa using q) b.n⟩
abbrev nmZ(l:List Itn):List (List UInt8):=l.map (·.1)
theorem Qlw{l:List Itn}{i:Nat}{x:Itn}(h:l[i]?=some x):nmZ (l.take (i+1))=nmZ (l.take i)++[x.1]:=by unfold nmZ;rw[take_succ' h,List.map_append];rfl
def it0:Itn:=([],⟨[],0,[],[]⟩)
def csE(c:CelN)(i:Nat):Int:=itEr c.ev.length (List.range c.ev.length) (nmZ (c.cs.take i)) (c.cs.getD i it0)
def rsE(c:CelN)(i:Nat):Int:=itEr c.ev.length (uZ c.cs) (nmZ c.cs++nmZ (c.rs.take i)) (c.rs.getD i it0)
def celErr(c:CelN):Int:=if evErr c.ev≠0 then evErr c.ev else if c.cs.length=0 then 12 else if 8<c.cs.length\/12<c.cs.length+c.rs.length then 3 else if fe (csE c) c.cs.length≠0 then fe (csE c) c.cs.length else if fe (rsE c) c.rs.length≠0 then fe (rsE c) c.rs.length else cdErr (szZ c) c.xs c.ks
structure CelOk(c:CelN):Prop where
 el:c.ev.length<=9223372036854775807
 en:∀x∈c.ev,x.nm.length<=9223372036854775807
 cl:c.cs.length<=1000
 rl:c.rs.length<=1000
 xl:c.xs.length<=1000
 kl:c.ks.length<=1000
 ci:∀x∈c.cs,ItOk x
 ri:∀x∈c.rs,ItOk x
 xi:∀x∈c.xs,x.1.length<=9223372036854775807/\x.2.length<=8796093021952
 ki:∀x∈c.ks,x.1.length<=9223372036854775807/\x.2.1.length<=8796093021952
theorem QjL{l:List Evn}(h:evErr l=0):l.length<=32:=by
 unfold evErr at h;split at h;·cases h
 omega
theorem check21X(c:CelN)(h:CelOk c):PSpec Tryz.prog 29 [celZ c] (.int .i64 (celErr c)):=by
 have d:=QgX c;refine PSpec.QaB 64 ok29 rfl (by rw[noRefs,celZ,noRef,d];rfl) rfl ?_;have w:=check82X c.ev h.el h.en;have T:=h.cl;have S:=h.rl;have F:=conds85X c h.cl h.xl h.kl (fun x f=>(h.xi x f).2) (fun x f=>(h.ki x f).2);have hdC:=conds32X (szZ c) c.xs c.ks (by simp[szZ];omega) h.xl h.kl h.xi h.ki;unfold celErr;by_cases z0:¬evErr c.ev=0;·simp(disch:=first|omega|exact PairsOK.mk rfl|(simp only[lenW]<;>omega))only[s29,wW,wV,simprocAttr];refine cp w ?_;simp(disch:=first|omega|exact PairsOK.mk rfl|(simp only[lenW]<;>omega))only[z0,wW,wV,simprocAttr];exact⟨.inr trivial,_,rfl,rfl⟩
 replace z0:evErr c.ev=0:=Decidable.not_not.1 z0;rw[z0]at w;have M:=QjL z0;rw[if_neg (fun h=>h z0)];by_cases N:c.cs.length=0
 ·have g1:(c.cs.length:Int)=0:=by omega
  simp(disch:=first|omega|exact PairsOK.mk rfl|(simp only[lenW]<;>omega))only[s29,wW,wV,simprocAttr];refine cp w ?_;simp(disch:=first|omega|exact PairsOK.mk rfl|(simp only[lenW]<;>omega))only[g1,wW,wV,simprocAttr];exact⟨.inr trivial,_,rfl,by rw[if_pos N];rfl⟩
 have g1:¬(c.cs.length:Int)=0:=by omega
 rw[if_neg N];by_cases z2:8<c.cs.length
 ·have g2:(8:Int)<(c.cs.length:Int):=by omega
  simp(disch:=first|omega|exact PairsOK.mk rfl|(simp only[lenW]<;>omega))only[s29,wW,wV,simprocAttr];refine cp w ?_;simp(disch:=first|omega|exact PairsOK.mk rfl|(simp only[lenW]<;>omega))only[g1,g2,wW,wV,simprocAttr];exact⟨.inr trivial,_,rfl,by rw[if_pos (.inl z2)];rfl⟩
 have g2:¬(8:Int)<(c.cs.length:Int):=by omega
 by_cases z3:12<c.cs.length+c.rs.length
 ·have g3:(12:Int)<(c.cs.length:Int)+(c.rs.length:Int):=by omega
  simp(disch:=first|omega|exact PairsOK.mk rfl|(simp only[lenW]<;>omega))only[s29,wW,wV,simprocAttr];refine cp w ?_;simp(disch:=first|omega|exact PairsOK.mk rfl|(simp only[lenW]<;>omega))only[g1,g2,g3,wW,wV,simprocAttr];exact⟨.inr trivial,_,rfl,by rw[if_pos (.inr z3)];rfl⟩
 have g3:¬(12:Int)<(c.cs.length:Int)+(c.rs.length:Int):=by omega
 rw[if_neg (by omega)];simp(disch:=first|omega|exact PairsOK.mk rfl|(simp only[lenW]<;>omega))only[s29,wW,wV,simprocAttr];refine cp w ?_;simp(disch:=first|omega|exact PairsOK.mk rfl|(simp only[lenW]<;>omega))only[g1,g2,g3,wW,wV,simprocAttr];refine Qay 140 (fun i:Nat=>[(1,.ptr 50 0 0),(5,.map 68 0),(6,.sl 76 0 0 i 1),(7,.nilsl),(41,.int .i64 c.ev.length),(42,.int .i64 i)]) (fun i=>[(50,.cells 0 [evns c.ev,itsV c.cs,itsV c.rs,exsZ c.xs,cosZ c.ks]),(68,nmsB []),(76,.cells 0 (ints (nz (List.range i))))]) (fun i=>i<=c.ev.length) (fun i=>c.ev.length-i) 0 1 180 (fun _:Unit=>[(1,.ptr 50 0 0),(5,.map 68 0),(6,sliN (List.range c.ev.length)),(7,sliN [])]) (fun _=>[(50,.cells 0 [evns c.ev,itsV c.cs,itsV c.rs,exsZ c.xs,cosZ c.ks]),(68,nmsB [])]) (fun _=>True) ?_ (Nat.zero_le _) ?_ ?_;·refine⟨[(50,.blk 64 0),(68,.blk 90 0),(76,.nil)],rfl,au0,?_,au19⟩;exact RB.cells rfl rfl gg (RnL.same d) (RB.map rfl rfl gg Qgg (RB.newnil rfl rfl RB.nil))
 ·rintro i hi;by_cases a:i<c.ev.length
  ·have I:(ints (nz (List.range i))).length=i:=by simp[ints]
   simp(disch:=first|omega|exact PairsOK.mk rfl|(simp only[lenW]<;>omega))only[a,List.length_range,I,wW,wV,simprocAttr];refine⟨i+1,by omega,by omega,?_⟩;rw[List.range_succ,QaU,QaK];refine⟨[(50,.blk 50 0),(68,.blk 68 0),(76,.blk 76 1)],rfl,au0,?_,au19⟩;exact RB.cells rfl rfl gg (RnL.same d) (RB.map rfl rfl gg Qgg (RB.cells rfl rfl gg (RnL.same (SU.Qa8 (Qab _) rfl)) RB.nil))
  have e:i=c.ev.length:=by omega
  subst e;simp(disch:=first|omega|exact PairsOK.mk rfl|(simp only[lenW]<;>omega))only[a,wW,wV,simprocAttr];refine⟨(),[(50,.blk 50 0),(68,.blk 68 0)],rfl,RO.zero,?_,?_⟩;·exact RB.cells rfl rfl gg (RnL.same d) (RB.map rfl rfl gg Qgg RB.nil)
  exact RT.cons (Rn.x2 rfl rfl) (RT.cons (Rn.x3 rfl rfl) (RT.cons (Rn.fzm (b:=76) (g:=0) gg rfl rfl (by simp) (by simp[ints]) (RnL.same (Qab _))) (RT.cons Rn.nilK RT.nil)))
 rintro _ _;simp(disch:=first|omega|exact PairsOK.mk rfl|(simp only[lenW]<;>omega))only[wW,wV,simprocAttr];have p:∀i,(∀j,j<i->csE c j=0)->∀x∈c.cs.take i,au (natA x.2)=x.2/\WfA (natA x.2):=fun i k x f=>by
  obtain⟨j,y,rfl⟩:=List.getElem_of_mem f;rw[List.length_take]at y;have C:c.cs[j]?=some (c.cs.take i)[j]:=by rw[List.getElem_take];exact List.getElem?_eq_getElem (by omega)
  have h1:=k j (by omega);unfold csE at h1;rw[Qa5 C]at h1;exact(Qf4 (h.ci _ (List.mem_of_getElem? C)) h1).2
 have K:∀i,(∀j,j<i->csE c j=0)->(uZ (c.cs.take i)).length<=32:=fun i k=>QrI fun x f=>⟨(p i k x f).2.al,(p i k x f).2.al5⟩;refine Qay 240 (fun i:Nat=>[(1,.ptr 50 0 0),(5,.map 68 0),(6,sliN (List.range c.ev.length)),(7,sliN (uZ (c.cs.take i))),(51,itsV c.cs),(52,.int .i64 c.cs.length),(53,.int .i64 i)]) (fun i=>[(50,.cells 0 [evns c.ev,itsV c.cs,itsV c.rs,exsZ c.xs,cosZ c.ks]),(68,nmsB (nmZ (c.cs.take i)))]) (fun i=>i<=c.cs.length/\∀j,j<i->csE c j=0) (fun i=>c.cs.length-i) 0 3 280 (fun _:Unit=>[(1,.ptr 50 0 0),(5,.map 68 0),(7,sliN (uZ c.cs))]) (fun _=>[(50,.cells 0 [evns c.ev,itsV c.cs,itsV c.rs,exsZ c.xs,cosZ c.ks]),(68,nmsB (nmZ c.cs))]) (fun _=>∀j,j<c.cs.length->csE c j=0) ?_ ⟨Nat.zero_le _,fun j y=>absurd y (Nat.not_lt_zero _)⟩ ?_ ?_;·refine⟨[(50,.blk 50 0),(68,.blk 68 0)],rfl,au0,?_,au19⟩;exact RB.cells rfl rfl gg (RnL.same d) (RB.map rfl rfl gg Qgg RB.nil)
 ·rintro i⟨hi,k⟩;by_cases a:i<c.cs.length
  ·obtain⟨x,f⟩:=Qav a;have m:=List.mem_of_getElem? f;have g:=Qhr f;have l:5<=((c.cs.flatMap itV).drop (i*5)).length:=by rw[g];simp
   have t:(nmZ (c.cs.take i)).length<=100:=by simp[nmZ];omega
   have A:csE c i=itEr c.ev.length (List.range c.ev.length) (nmZ (c.cs.take i)) x:=by unfold csE;rw[Qa5 f]
   have o:=fun{E:Heap}(r:E.get 68=some (nmsB (nmZ (c.cs.take i))))=>item83XF x c.ev.length (List.range c.ev.length) (nmZ (c.cs.take i)) (h.ci x m) t (by simp;omega) r;rw[<-A]at o;by_cases q:csE c i=0
   ·obtain⟨G,R,L⟩:=Qf4 (h.ci x m) (A▸q);rw[G,q]at o;have u:=Qlw f;have O:=K i k;have P:=QbD L.al L.al5;have v:=union84 (uZ (c.cs.take i)) (natA x.2).al (by omega) (by omega);rw[<-Qq0 f]at v;have J:sli x.2.al=sliN (natA x.2).al:=by rw[<-Qcl];exact congrArg (fun b=>sli b.al) R.symm
    rw[<-J]at v;simp(disch:=first|omega|exact PairsOK.mk rfl|(simp only[lenW]<;>omega))only[a,g,l,wW,wV,simprocAttr];refine SU.chc (o gg) ?_;simp(disch:=first|omega|exact PairsOK.mk rfl|(simp only[lenW]<;>omega))only[wW,wV,simprocAttr];refine cp v ?_;simp(disch:=first|omega|exact PairsOK.mk rfl|(simp only[lenW]<;>omega))only[wW,wV,simprocAttr];refine⟨i+1,by omega,⟨by omega,fe_up k q⟩,?_⟩;rw[u];refine⟨[(50,.blk 50 0),(68,.blk 68 0)],rfl,au0,?_,au19⟩;exact RB.cells rfl rfl gg (RnL.same d) (RB.map rfl rfl gg (RnM.mapS fun _ _=>Rn.same rfl) RB.nil)
   have s:=fe_at (f:=csE c) rfl q k a;simp(disch:=first|omega|exact PairsOK.mk rfl|(simp only[lenW]<;>omega))only[a,g,l,wW,wV,simprocAttr];refine SU.chc (o gg) ?_;simp(disch:=first|omega|exact PairsOK.mk rfl|(simp only[lenW]<;>omega))only[q,wW,wV,simprocAttr];exact⟨.inr trivial,_,rfl,by rw[s,if_pos q];rfl⟩
  have e:i=c.cs.length:=by omega
  subst e;simp(disch:=first|omega|exact PairsOK.mk rfl|(simp only[lenW]<;>omega))only[a,List.take_length,wW,wV,simprocAttr];refine⟨(),k,?_⟩;refine⟨[(50,.blk 50 0),(68,.blk 68 0)],rfl,au0,?_,au19⟩;exact RB.cells rfl rfl gg (RnL.same d) (RB.map rfl rfl gg (RnM.mapS fun _ _=>Rn.same rfl) RB.nil)
 rintro _ B;rw[if_neg (fun h=>h (QbV B))];have Q:(uZ c.cs).length<=32:=by have:=K c.cs.length B;rwa[List.take_length]at this
 simp(disch:=first|omega|exact PairsOK.mk rfl|(simp only[lenW]<;>omega))only[wW,wV,simprocAttr];refine Qay 340 (fun i:Nat=>[(1,.ptr 50 0 0),(5,.map 68 0),(7,sliN (uZ c.cs)),(74,itsV c.rs),(75,.int .i64 c.rs.length),(76,.int .i64 i)]) (fun i=>[(50,.cells 0 [evns c.ev,itsV c.cs,itsV c.rs,exsZ c.xs,cosZ c.ks]),(68,nmsB (nmZ c.cs++nmZ (c.rs.take i)))]) (fun i=>i<=c.rs.length/\∀j,j<i->rsE c j=0) (fun i=>c.rs.length-i) 0 5 380 (fun _:Unit=>[(1,.ptr 50 0 0)]) (fun _=>[(50,.cells 0 [evns c.ev,itsV c.cs,itsV c.rs,exsZ c.xs,cosZ c.ks])]) (fun _=>fe (rsE c) c.rs.length=0) ?_ ⟨Nat.zero_le _,fun j y=>absurd y (Nat.not_lt_zero _)⟩ ?_ ?_;·rw[show nmZ c.cs++nmZ (c.rs.take 0)=nmZ c.cs by simp[nmZ]];refine⟨[(50,.blk 50 0),(68,.blk 68 0)],rfl,au0,?_,au19⟩;exact RB.cells rfl rfl gg (RnL.same d) (RB.map rfl rfl gg (RnM.mapS fun _ _=>Rn.same rfl) RB.nil)
 ·rintro i⟨hi,k⟩;by_cases a:i<c.rs.length
  ·obtain⟨x,f⟩:=Qav a;have m:=List.mem_of_getElem? f;have g:=Qhr f;have l:5<=((c.rs.flatMap itV).drop (i*5)).length:=by rw[g];simp
   have t:(nmZ c.cs++nmZ (c.rs.take i)).length<=100:=by simp[nmZ];omega
   have A:rsE c i=itEr c.ev.length (uZ c.cs) (nmZ c.cs++nmZ (c.rs.take i)) x:=by unfold rsE;rw[Qa5 f]
   have o:=fun{E:Heap}(r:E.get 68=some (nmsB (nmZ c.cs++nmZ (c.rs.take i))))=>item83XF x c.ev.length (uZ c.cs) (nmZ c.cs++nmZ (c.rs.take i)) (h.ri x m) t (by omega) r;rw[<-A]at o;by_cases q:rsE c i=0;·obtain⟨G,_,_⟩:=Qf4 (h.ri x m) (A▸q);rw[G,q]at o;have u:=Qlw f;simp(disch:=first|omega|exact PairsOK.mk rfl|(simp only[lenW]<;>omega))only[a,g,l,wW,wV,simprocAttr];refine SU.chc (o gg) ?_;simp(disch:=first|omega|exact PairsOK.mk rfl|(simp only[lenW]<;>omega))only[wW,wV,simprocAttr];refine⟨i+1,by omega,⟨by omega,fe_up k q⟩,?_⟩;rw[u,<-List.append_assoc];refine⟨[(50,.blk 50 0),(68,.blk 68 0)],rfl,au0,?_,au19⟩;exact RB.cells rfl rfl gg (RnL.same d) (RB.map rfl rfl gg (RnM.mapS fun _ _=>Rn.same rfl) RB.nil)
   have s:=fe_at (f:=rsE c) rfl q k a;simp(disch:=first|omega|exact PairsOK.mk rfl|(simp only[lenW]<;>omega))only[a,g,l,wW,wV,simprocAttr];refine SU.chc (o gg) ?_;simp(disch:=first|omega|exact PairsOK.mk rfl|(simp only[lenW]<;>omega))only[q,wW,wV,simprocAttr];exact⟨.inr trivial,_,rfl,by rw[s,if_pos q];rfl⟩
  simp(disch:=first|omega|exact PairsOK.mk rfl|(simp only[lenW]<;>omega))only[a,wW,wV,simprocAttr];refine⟨(),QbV fun j y=>k j (by omega),?_⟩;refine⟨[(50,.blk 50 0)],rfl,au0,?_,au19⟩;exact RB.cells rfl rfl gg (RnL.same d) RB.nil
 rintro _ H;rw[if_neg (fun h=>h H)];simp(disch:=first|omega|exact PairsOK.mk rfl|(simp only[lenW]<;>omega))only[wW,wV,simprocAttr];refine cp F ?_;simp(disch:=first|omega|exact PairsOK.mk rfl|(simp only[lenW]<;>omega))only[wW,wV,simprocAttr];refine cp hdC ?_;simp(disch:=first|omega|exact PairsOK.mk rfl|(simp only[lenW]<;>omega))only[wW,wV,simprocAttr];exact⟨.inr trivial,_,rfl,rfl⟩
end Go.AM.SO
namespace Go.AM.OK
open Go.Proofs
def s76:SFn:=⟨19,[.tmp 4,.tmp 5],(.seq (.region [Zz 4 (.mov (.c (.int .i64 0))) [],Zz 5 (.mov (.c .nilif)) [0]] [] [4,5]) (.seq (.region [Zm 6 0 [],Zz 7 (.call .heap (.f 118) [(.t 6)]) [0]] [] [6,7]) (.seq (.region [Zm 8 0 [],Zm 9 0 [],Zz 10 (.nilchk (.t 9)) [1],Zf 11 1 10 [2],Zl 12 11 [3],Zm 13 1 [],Zz 14 (.appendT 5 .dyn 1 1 (.t 12) (.t 13)) [4,5],Zz 15 (.nilchk (.t 8)) (Za [0] 7),Zf 16 1 15 (Za [7] 7),Zs 1 16 14 (Za [8,6,6] 7)] [] [0,8,9,10,11,12,13,14,15,16]) (.seq (.region [Zm 17 1 [],Zz 18 (.len 0 (.t 17)) [0],Zm 4 18 [1,0,1],Zz 5 (.mov (.c .nilif)) [2,0,1,2]] [] [1,17,18]) .ret))))⟩
def s77:SFn:=⟨14,[.tmp 2],(.seq (.region [Zz 2 (.mov (.c (.str []))) []] [] [2]) (.seq (.region [Zm 3 0 [],Zz 4 (.nilchk (.t 3)) [0],Zf 5 1 4 [1],Zl 6 5 [2],Zz 7 (.usd (.t 6)) [3],Zm 8 0 [],Zz 9 (.nilchk (.t 8)) [5],Zf 10 1 9 [6],Zl 11 10 [7],Zv 12 11 [8],Zz 13 (.ustr 5 (.t 7) (.t 12)) [4,9],Zm 2 13 (Za [10] 11)] [] [0,3,4,5,6,7,8,9,10,11,12,13]) .ret))⟩
def s42:SFn:=⟨18,[.tmp 2],(.seq (.region [Zz 2 (.mov (.c (.str []))) []] [] [2]) (.seq (.region [Zz 3 (.allocT 167 .dyn (.agg [.nilptr,.nilsl])) []] [] []) (.seq (.seq (.region [Zm 6 0 [],Zv 7 6 [0],Zz 8 (.mov (.c (.int .i64 0))) []] [] [0]) (.block 0 (.loop (.seq (.region [Zb 9 .lss 8 7 []] [] []) (.seq (.cond (.t 9) .skip (.exit 0)) (.seq (.block 1 (.seq (.region [Zi 10 1 6 8 [],Zl 11 10 [0],Zm 5 11 [1,0,1]] [] [9,10,11]) (.region [Zm 12 5 [],Zz 13 (.call .pure (.f 38) [(.t 12)]) [0],Zz 14 (.bin .add (.t 13) (.c (.str [32]))) [1],Zz 15 (.call .heap (.f 76) [(.t 3),(.t 14)]) [2,1]] [] [5,12,13,14,15]))) (.region [Zz 16 (.bin .add (.t 8) (.c (.int .i64 1))) [],Zm 8 16 [0]] [] [16]))))))) (.seq (.region [Zz 17 (.call .heap (.f 77) [(.t 3)]) [],Zm 2 17 [0,0,0]] [] [3,6,7,8,17]) .ret))))⟩
def s118:SFn:=⟨20,[],(.seq (.region [Zm 2 0 [],Zz 3 (.nilchk (.t 2)) [0],Zf 4 0 3 [1],Zl 5 4 [2],Zz 6 (.eq (.nil 1) false (.t 5) (.c .nilptr)) [3]] [] [2,3,4,5]) (.cond (.t 6) (.region [Zm 7 0 [],Zm 8 0 [],Zz 9 (.convP 167 2 (.t 8)) [1],Zz 10 (.ext 2 154 [(.t 9)]) [2],Zz 11 (.convP 167 2 (.t 10)) [3],Zz 12 (.nilchk (.t 7)) (Za [0] 5),Zf 13 0 12 (Za [5] 5),Zs 1 13 11 (Za [6,4,3] 5)] [] [0,6,7,8,9,10,11,12,13]) (.seq (.region [Zm 14 0 [],Zz 15 (.nilchk (.t 14)) [0],Zf 16 0 15 [1],Zl 17 16 [2],Zm 18 0 [],Zz 19 (.eqp true (.t 17) (.t 18)) [3,4]] [] [0,6,14,15,16,17,18]) (.cond (.t 19) .bad .skip))))⟩
def s67:SFn:=⟨18,[.tmp 2],(.seq (.region [Zz 2 (.mov (.c (.str []))) []] [] [2]) (.seq (.region [Zz 3 (.allocT 167 .dyn (.agg [.nilptr,.nilsl])) []] [] []) (.seq (.seq (.region [Zm 6 0 [],Zv 7 6 [0],Zz 8 (.mov (.c (.int .i64 0))) []] [] [0]) (.block 0 (.loop (.seq (.region [Zb 9 .lss 8 7 []] [] []) (.seq (.cond (.t 9) .skip (.exit 0)) (.seq (.block 1 (.seq (.region [Zi 10 1 6 8 [],Zl 11 10 [0],Zm 5 11 [1,0,1]] [] [9,10,11]) (.seq (.region [Zm 12 5 [],Zz 13 (.call .pure (.f 38) [(.t 12)]) [0],Zz 14 (.call .heap (.f 76) [(.t 3),(.t 13)]) [1,1]] [] [5,12,13,14]) (.region [Zz 15 (.call .heap (.f 103) [(.t 3),(.c (.int .u8 32))]) []] [] [15])))) (.region [Zz 16 (.bin .add (.t 8) (.c (.int .i64 1))) [],Zm 8 16 [0]] [] [16]))))))) (.seq (.region [Zz 17 (.call .heap (.f 77) [(.t 3)]) [],Zm 2 17 [0,0,0]] [] [3,6,7,8,17]) .ret))))⟩
def s103:SFn:=⟨17,[.tmp 4],(.seq (.region [Zz 4 (.mov (.c .nilif)) []] [] [4]) (.seq (.region [Zm 5 0 [],Zz 6 (.call .heap (.f 118) [(.t 5)]) [0]] [] [5,6]) (.seq (.region [Zm 7 0 [],Zm 8 0 [],Zz 9 (.nilchk (.t 8)) [1],Zf 10 1 9 [2],Zl 11 10 [3],Zm 12 1 [],Zz 13 (.bslice false .dyn 1 1 [(.int .u8 0)] [(0,1,(.t 12))]) [5],Zz 14 (.appendT 5 .dyn 1 1 (.t 11) (.t 13)) [4,6],Zz 15 (.nilchk (.t 7)) (Za [0] 8),Zf 16 1 15 (Za [8] 8),Zs 1 16 14 (Za [9,7,7] 8)] [] [0,1,7,8,9,10,11,12,13,14,15,16]) (.seq (.region [Zz 4 (.mov (.c .nilif)) []] [] []) .ret))))⟩
theorem ok76:okFn Tryz.prog 76 s76=true:=by kernel_rfl
theorem ok77:okFn Tryz.prog 77 s77=true:=by kernel_rfl
theorem ok42:okFn Tryz.prog 42 s42=true:=by kernel_rfl
theorem ok118:okFn Tryz.prog 118 s118=true:=by kernel_rfl
theorem ok67:okFn Tryz.prog 67 s67=true:=by kernel_rfl
theorem ok103:okFn Tryz.prog 103 s103=true:=by kernel_rfl
end Go.AM.OK
namespace Go.AM
variable{P:Program}{N:NM}{r:List SOper}{dead:List Nat}{d:Option Nat}{fs:List Fr}{n:Nat}{T:Tmps}{h:Heap}{Q:QC}
def byV(s:List UInt8):List AV:=s.map fun b=>.int .u8 b.toNat
theorem QiA(s:List UInt8):(byV s).length=s.length:=by simp[byV]
theorem Qm1(s u:List UInt8):byV (s++u)=byV s++byV u:=by simp[byV]
theorem Qbq:∀s:List UInt8,noRefs (byV s)=true|[]=>rfl|x::s=>by show(true&&noRefs (byV s))=true;rw[Qbq s];rfl
theorem Qlx:∀s:List UInt8,(byV s).all AV.one=true|[]=>rfl|x::s=>by show(true&&(byV s).all AV.one)=true;rw[Qlx s];rfl
theorem QnH:∀s:List UInt8,bytesIn (byV s)=some s:=by intro s;induction s with|nil=>rfl|cons x s a=>show(if 0<=(x.toNat:Int)/\(x.toNat:Int)<256 then(bytesIn (byV s)).map (UInt8.ofNat (x.toNat:Int).toNat::·)else none)=_;have:=x.toNat_lt;rw[if_pos ⟨by omega,by omega⟩,a];simp
theorem tNil{t k b g o:Nat}:aNil (.typed t k (.ptr b g o))=some (.typed t k (.ptr b g o)):=rfl
theorem tFA{off t k b g o:Nat}:aFAddr off (.typed t k (.ptr b g o))=some (.ptr b g (o+off)):=rfl
theorem tEq0:aEq (.nil 1) false .nilptr .nilptr=some (.bool true):=rfl
theorem tEq1{t k b g o:Nat}:aEq (.nil 1) false (.typed t k (.ptr b g o)) .nilptr=some (.bool false):=rfl
theorem tConv{t k b g o:Nat}:aConvP t k (.typed t k (.ptr b g o))=some (.typed t k (.ptr b g o)):=if_pos ⟨rfl,rfl⟩
theorem tExt{t k b g o:Nat}:aExt 2 [.typed t k (.ptr b g o)]=some (.typed t k (.ptr b g o)):=rfl
theorem tEqP{t k b g o:Nat}:aEqP true (.typed t k (.ptr b g o)) (.typed t k (.ptr b g o))=some (.bool false):=by simp[aEqP,AV.bare]
theorem QaH{t k:Nat}{v:AV}:AV.cells (.typed t k v)=[.typed t k v]:=rfl
theorem QaQ{t k:Nat}{v:AV}:AV.one (.typed t k v)=true:=rfl
theorem QaR{t k:Nat}{v:AV}:AV.boxable (.typed t k v)=true:=rfl
theorem tUsd{t b g len sz:Nat}:aUsd (.typed t 0 (.sl b g 0 (len+1) sz))=some (.typed t 0 (.ptr b g 0)):=rfl
theorem tLen{t k b g off len sz:Nat}:aLenC 1 (.typed t k (.sl b g off len sz))=.ret (.int .i64 len):=rfl
theorem Qf5{α β:Type}{m:HM α}{f:α->HM β}{h h1:Heap}{a:α}(hm:m.run h=some (a,h1)):(m.bind f).run h=(f a).run h1:=by induction m generalizing h with|ret b=>simp only[HM.run,Option.some.injEq,Prod.mk.injEq]at hm;obtain⟨rfl,rfl⟩:=hm;rfl|fail=>simp[HM.run]at hm|look b k c=>exact c _ hm|put b x k c=>
 simp only[HM.run,HM.bind]at hm⊢;cases d:Nat.blt b lim;·rw[d]at hm;simp at hm
 rw[d]at hm;simp only[cond_true]at hm⊢;exact c hm
theorem Qpe{t:Nat}{s:List UInt8}(i:0<s.length)(g:s.length<=140737488355328)(c:h.get n=none)(f:n<1099511627775)(hk:wR P N r dead fs (n+1) (putD T d (.typed t 0 (.sl n 0 0 s.length 1))) (h.set n (.cells 0 (byV s))) Q):wM P N (aAppendT t .dyn n 1 1 .nilsl (.str s)) d r dead fs n T h Q:=by
 obtain⟨k,a⟩:∃k,s.length=k+1:=⟨s.length-1,by omega⟩;have b:Nat.blt n lim=true:=by simp[Nat.blt,lim];omega
 have e:(aAppend .dyn n 1 1 .nilsl (.str s)).run h=some (.sl n 0 0 s.length 1,h.set n (.cells 0 (byV s))):=by have ho:=Qlx s;unfold byV at ho⊢;simp only[aAppend,aSrc,if_true,slLen,Nat.zero_add,a,Nat.mul_one];rw[if_pos ⟨by omega,by omega,ho⟩];simp[HM.new,HM.run,c,b]
 refine⟨_,_,?_,hk⟩;show((aAppend .dyn n 1 1 .nilsl (.str s)).bind fun v=>.ret (tagT t v)).run h=_;rw[Qf5 e];rfl
theorem Qqa{t b g len:Nat}{s:List UInt8}{cs:List AV}(c:h.get b=some (.cells g cs))(hc:len+1=cs.length)(j:len+1+s.length<=140737488355328)(i:b<1099511627775)(hk:wR P N r dead fs (n+1) (putD T d (.typed t 0 (.sl b (g+1) 0 (len+1+s.length) 1))) (h.set b (.cells (g+1) (cs++byV s))) Q):wM P N (aAppendT t .dyn n 1 1 (.typed t 0 (.sl b g 0 (len+1) 1)) (.str s)) d r dead fs n T h Q:=by
 have a:Nat.blt b lim=true:=by simp[Nat.blt,lim];omega
 have e:(aAppend .dyn n 1 1 (.sl b g 0 (len+1) 1) (.str s)).run h=some (.sl b (g+1) 0 (len+1+s.length) 1,h.set b (.cells (g+1) (cs++byV s))):=by have ho:=Qlx s;unfold byV at ho⊢;simp only[aAppend,aSrc,if_true,slLen,Nat.mul_one];rw[if_pos ⟨by omega,by omega,ho⟩];have f:cs.take (len+1)=cs:=List.take_of_length_le (by omega);simp[HM.cells,HM.run,c,a,f];rw[if_pos (by omega)];simp[HM.run,a]
 refine⟨_,_,?_,hk⟩;show(if t=t then _ else _:HM AV).run h=_;rw[if_pos rfl,Qf5 e];rfl
theorem Qpf{t b g len b2 g2:Nat}{x:UInt8}{cs:List AV}(f:h.get b=some (.cells g cs))(hc:len+1=cs.length)(i:h.get b2=some (.cells g2 (byV [x])))(k:len+2<=140737488355328)(j:b<1099511627775)(hk:wR P N r dead fs (n+1) (putD T d (.typed t 0 (.sl b (g+1) 0 (len+2) 1))) (h.set b (.cells (g+1) (cs++byV [x]))) Q):wM P N (aAppendT t .dyn n 1 1 (.typed t 0 (.sl b g 0 (len+1) 1)) (.sl b2 g2 0 1 1)) d r dead fs n T h Q:=by
 have a:Nat.blt b lim=true:=by simp[Nat.blt,lim];omega
 have e:(aAppend .dyn n 1 1 (.sl b g 0 (len+1) 1) (.sl b2 g2 0 1 1)).run h=some (.sl b (g+1) 0 (len+2) 1,h.set b (.cells (g+1) (cs++byV [x]))):=by have c:cs.take (len+1)=cs:=List.take_of_length_le (by omega);simp only[aAppend,aSrc,if_true,slLen,Nat.mul_one];simp[HM.cells,HM.run,i,f,a,c,byV];rw[if_pos ⟨by omega,rfl⟩];simp only[HM.run,f,Nat.beq_refl,cond_true];rw[if_pos (by omega)];simp[HM.run,a,c]
 refine⟨_,_,?_,hk⟩;show(if t=t then _ else _:HM AV).run h=_;rw[if_pos rfl,Qf5 e];rfl
theorem Qqb{t b g:Nat}{s:List UInt8}(k:0<s.length)(c:h.get b=some (.cells g (byV s)))(j:s.length<=140737488355328)(i:b<1099511627775)(hk:wR P N r dead fs (n+1) (putD T d (.str s)) (h.set b (.dead g)) Q):wM P N (aUstr t (.typed t 0 (.ptr b g 0)) (.int .i64 s.length)) d r dead fs n T h Q:=by
 have a:Nat.blt b lim=true:=by simp[Nat.blt,lim];omega
 refine⟨_,_,?_,hk⟩;have f:(byV s).take (s.length:Int).toNat=byV s:=List.take_of_length_le (by simp[byV]);simp only[aUstr];rw[if_pos ⟨trivial,by omega,by omega⟩];simp only[HM.cells,HM.run,c,Nat.beq_refl,cond_true,f,QnH];rw[if_pos (by omega)];simp[HM.run,a]
theorem RB.deadB{m:Nat}{π:Nat->Option Src}{h:Heap}{b g:Nat}{r:HL}(hm:Nat.blt b m=true)(a:h.get b=some (.dead g))(c:RB m π h r):RB m π h ((b,.dead g)::r):=⟨.inl ⟨by simpa using hm,a⟩,c⟩
theorem QaM{t:Nat}{x:AV}:wM P N (aBoxT t .dyn n x) d r dead fs n T h Q=if x.boxable=true then wN P N x.cells (.typed t x.cells.length (.ptr n 0 0)) d r dead fs n T h Q else False:=by unfold aBoxT;rw[Qc4,QfJ rfl];split<;>simp_all
end Go.AM
namespace Go.AM.SO
open Go.Proofs Go.AM.SD Go.AM.SE
theorem u8_wf{n:Int}(h:(Lit.int .u8 n).wf=true):0<=n/\n<256:=by grind[Lit.wf,IntKind.min,IntKind.max,IntKind.signed,IntKind.bits]
def u8O:Ty->Bool|.int k=>k==.u8|.arr _ t=>u8O t|.st t=>u8O t|.unit=>true|.pair a b=>u8O a&&u8O b|_=>false
theorem Qid{a b:List Nat}:u8s (a++b)=u8s a++u8s b:=by simp[u8s]
theorem Qf6:∀(t:Ty),u8O t=true->∀(d:t.D),t.wf d->∃l:List Nat,l.length=t.sz/\(∀x∈l,x<256)/\t.cells d=u8s l
 |.int k,h,d,hw=>by
  have:k=.u8:=by grind[u8O]
  subst this;have:=u8_wf hw;refine⟨[Int.toNat d],rfl,by simp;omega,?_⟩;show[AV.int .u8 d]=[AV.int .u8 ((Int.toNat d:Nat):Int)];grind|.bool,h,_,_=>by cases h|.str,h,_,_=>by cases h|.sl _,h,_,_=>by cases h|.st t,h,d,hw=>Qf6 t h d hw|.unit,_,_,_=>⟨[],rfl,by simp,rfl⟩|.pair a b,h,d,hw=>by simp only[u8O,Bool.and_eq_true]at h;obtain⟨l,h1,g,i⟩:=Qf6 a h.1 d.1 hw.1;obtain⟨m,g1,g2,g3⟩:=Qf6 b h.2 d.2 hw.2;refine⟨l++m,by rw[List.length_append,h1,g1];rfl,fun x c=>(List.mem_append.1 c).elim (g x) (g2 x),?_⟩;show a.cells d.1++b.cells d.2=_;rw[i,g3,Qid]|.arr n t,h,d,hw=>by
  obtain⟨f,c⟩:=hw;have key:∀l:List t.D,(∀x∈l,t.wf x)->∃r:List Nat,r.length=l.length*t.sz/\(∀x∈r,x<256)/\l.flatMap t.cells=u8s r:=by intro l;induction l with|nil=>intro _;exact⟨[],by simp,by simp,rfl⟩|cons a l j=>intro f;obtain⟨r,g1,g2,g3⟩:=j fun y o=>f y (by simp[o]);obtain⟨m,h1,g,i⟩:=Qf6 t h a (f a (by simp));refine⟨m++r,by grind,fun x c=>(List.mem_append.1 c).elim (g x) (g2 x),?_⟩;rw[List.flatMap_cons,g3,i,Qid]
  obtain⟨r,g1,g2,g3⟩:=key d c;refine⟨r,by rw[g1];show List.length d*t.sz=n*t.sz;rw[f],g2,g3⟩
end Go.AM.SO
namespace Go.AM.SO
open Go.Proofs Go.AM.SD Go.AM.SE
abbrev bldP:AV:=.typed 167 2 (.ptr 50 0 0)
abbrev bufG(g n:Nat):AV:=.typed 5 0 (.sl 60 g 0 n 1)
abbrev bufV(n:Nat):AV:=bufG 0 n
theorem copyCheck0:HSpec Tryz.prog 118 [bldP] (hp [(50,.cells 0 [.nilptr,.nilsl])]) (.tup []) (hp [(50,.cells 0 [bldP,.nilsl])]):=by refine HSpec.QcG (m:=51) 100 OK.ok118 rfl rfl rfl ?_;simp(disch:=first|omega|exact PairsOK.mk rfl|(simp only[lenW]<;>omega))only[OK.s118,QaD,QaN,QaG,QaO,QaL,Qaz,QaP,tNil,tFA,tEq0,tEq1,tConv,tExt,tEqP,QaH,QaQ,QaR,tUsd,tLen,wW,wV,simprocAttr];refine⟨.inl trivial,_,rfl,rfl,?_⟩;refine⟨[(50,.nil)],rfl,au0,?_,au16⟩;exact RB.cellsB rfl gg (RnL.cons (Rn.typed (Rn.x6 rfl)) (RnL.cons (Rn.same rfl) RnL.nil)) RB.nil
theorem copyCheck1(g n:Nat)(C:List AV)(a:noRefs C=true):HSpec Tryz.prog 118 [bldP] (hp [(50,.cells 0 [bldP,bufG g n]),(60,.cells g C)]) (.tup []) (hp [(50,.cells 0 [bldP,bufG g n]),(60,.cells g C)]):=by refine HSpec.QcG (m:=61) 100 OK.ok118 rfl rfl rfl ?_;simp(disch:=first|omega|exact PairsOK.mk rfl|(simp only[lenW]<;>omega))only[OK.s118,QaD,QaN,QaG,QaO,QaL,Qaz,QaP,tNil,tFA,tEq0,tEq1,tConv,tExt,tEqP,QaH,QaQ,QaR,tUsd,tLen,wW,wV,simprocAttr];refine⟨.inl trivial,_,rfl,rfl,?_⟩;refine⟨[(50,.nil),(60,.nil)],rfl,au0,?_,au16⟩;exact RB.cellsB rfl gg (RnL.cons (Rn.typed (Rn.x6 rfl)) (RnL.cons (Rn.typed (Rn.x5 rfl)) RnL.nil)) (RB.cellsB rfl gg (RnL.same a) RB.nil)
theorem write0(s:List UInt8)(a:0<s.length)(c:s.length<=1000000):HSpec Tryz.prog 76 [bldP,.str s] (hp [(50,.cells 0 [.nilptr,.nilsl])]) (.tup [.int .i64 s.length,.nilif]) (hp [(50,.cells 0 [bldP,bufV s.length]),(60,.cells 0 (byV s))]):=by have b:=copyCheck0;refine HSpec.QcG (m:=51) 100 OK.ok76 rfl rfl rfl ?_;simp(disch:=first|omega|exact PairsOK.mk rfl|(simp only[lenW]<;>omega))only[OK.s76,QaD,QaN,QaG,QaO,QaL,Qaz,QaP,tNil,tFA,tEq0,tEq1,tConv,tExt,tEqP,QaH,QaQ,QaR,tUsd,tLen,wW,wV,simprocAttr];refine ch b ?_;simp(disch:=first|omega|exact PairsOK.mk rfl|(simp only[lenW]<;>omega))only[QaD,QaN,QaG,QaO,QaL,Qaz,QaP,tNil,tFA,tEq0,tEq1,tConv,tExt,tEqP,QaH,QaQ,QaR,tUsd,tLen,wW,wV,simprocAttr];refine Qpe a (by omega) gg (by decide) ?_;simp(disch:=first|omega|exact PairsOK.mk rfl|(simp only[lenW]<;>omega))only[QaD,QaN,QaG,QaO,QaL,Qaz,QaP,tNil,tFA,tEq0,tEq1,tConv,tExt,tEqP,QaH,QaQ,QaR,tUsd,tLen,wW,wV,simprocAttr];refine⟨.inr trivial,_,rfl,rfl,?_⟩;refine⟨[(50,.nil),(60,.blk 110 0)],rfl,au0,?_,au16⟩;exact RB.cellsB rfl gg (RnL.cons (Rn.typed (Rn.x6 rfl)) (RnL.cons (Rn.typed (Rn.x1 rfl rfl)) RnL.nil)) (RB.cells rfl rfl gg (RnL.same (Qbq _)) RB.nil)
theorem write1(g n:Nat)(u s:List UInt8)(c:u.length=n)(hu:0<n)(d:n+s.length<=1000000):HSpec Tryz.prog 76 [bldP,.str s] (hp [(50,.cells 0 [bldP,bufG g n]),(60,.cells g (byV u))]) (.tup [.int .i64 s.length,.nilif]) (hp [(50,.cells 0 [bldP,bufG (g+1) (n+s.length)]),(60,.cells (g+1) (byV (u++s)))]):=by obtain⟨k,rfl⟩:∃k,n=k+1:=⟨n-1,by omega⟩;have b:=copyCheck1 g (k+1) (byV u) (Qbq _);have a:=QiA u;rw[Qm1];rw[c]at a;refine HSpec.QcG (m:=61) 100 OK.ok76 rfl rfl rfl ?_;simp(disch:=first|omega|exact PairsOK.mk rfl|(simp only[lenW]<;>omega))only[OK.s76,QaD,QaN,QaG,QaO,QaL,Qaz,QaP,tNil,tFA,tEq0,tEq1,tConv,tExt,tEqP,QaH,QaQ,QaR,tUsd,tLen,wW,wV,simprocAttr];refine ch b ?_;simp(disch:=first|omega|exact PairsOK.mk rfl|(simp only[lenW]<;>omega))only[QaD,QaN,QaG,QaO,QaL,Qaz,QaP,tNil,tFA,tEq0,tEq1,tConv,tExt,tEqP,QaH,QaQ,QaR,tUsd,tLen,wW,wV,simprocAttr];refine Qqa (cs:=byV u) gg a.symm (by omega) (by decide) ?_;simp(disch:=first|omega|exact PairsOK.mk rfl|(simp only[lenW]<;>omega))only[QaD,QaN,QaG,QaO,QaL,Qaz,QaP,tNil,tFA,tEq0,tEq1,tConv,tExt,tEqP,QaH,QaQ,QaR,tUsd,tLen,wW,wV,simprocAttr];refine⟨.inr trivial,_,rfl,rfl,?_⟩;refine⟨[(50,.nil),(60,.nil)],rfl,au0,?_,au16⟩;exact RB.cellsB rfl gg (RnL.cons (Rn.typed (Rn.x6 rfl)) (RnL.cons (Rn.typed (Rn.x5 rfl)) RnL.nil)) (RB.cellsB rfl gg (RnL.same (SU.Qa8 (Qbq _) (Qbq _))) RB.nil)
theorem writeB(g n:Nat)(u:List UInt8)(x:UInt8)(c:u.length=n)(hu:0<n)(d:n<=1000000):HSpec Tryz.prog 103 [bldP,.int .u8 x.toNat] (hp [(50,.cells 0 [bldP,bufG g n]),(60,.cells g (byV u))]) .nilif (hp [(50,.cells 0 [bldP,bufG (g+1) (n+1)]),(60,.cells (g+1) (byV (u++[x])))]):=by obtain⟨k,rfl⟩:∃k,n=k+1:=⟨n-1,by omega⟩;have b:=copyCheck1 g (k+1) (byV u) (Qbq _);have a:=QiA u;rw[Qm1];rw[c]at a;have f:byV [x]=[.int .u8 x.toNat]:=rfl;refine HSpec.QcG (m:=61) 100 OK.ok103 rfl rfl rfl ?_;simp(disch:=first|omega|exact PairsOK.mk rfl|(simp only[lenW]<;>omega))only[OK.s103,QaD,QaN,QaG,QaO,QaL,Qaz,QaP,tNil,tFA,tEq0,tEq1,tConv,tExt,tEqP,QaH,QaQ,QaR,tUsd,tLen,wW,wV,simprocAttr];refine ch b ?_;simp(disch:=first|omega|exact PairsOK.mk rfl|(simp only[lenW]<;>omega))only[QaD,QaN,QaG,QaO,QaL,Qaz,QaP,tNil,tFA,tEq0,tEq1,tConv,tExt,tEqP,QaH,QaQ,QaR,tUsd,tLen,wW,wV,simprocAttr];refine Qpf (cs:=byV u) (x:=x) gg a.symm gg (by omega) (by decide) ?_;simp(disch:=first|omega|exact PairsOK.mk rfl|(simp only[lenW]<;>omega))only[QaD,QaN,QaG,QaO,QaL,Qaz,QaP,tNil,tFA,tEq0,tEq1,tConv,tExt,tEqP,QaH,QaQ,QaR,tUsd,tLen,wW,wV,simprocAttr];refine⟨.inr trivial,_,rfl,rfl,?_⟩;refine⟨[(50,.nil),(60,.nil)],rfl,au0,?_,au16⟩;exact RB.cellsB rfl gg (RnL.cons (Rn.typed (Rn.x6 rfl)) (RnL.cons (Rn.typed (Rn.x5 rfl)) RnL.nil)) (RB.cellsB rfl gg (RnL.same (SU.Qa8 (Qbq _) (Qbq _))) RB.nil)
theorem string1(u:List UInt8)(hu:0<u.length)(a:u.length<=1000000):HSpec Tryz.prog 77 [bldP] (hp [(50,.cells 0 [bldP,bufV u.length]),(60,.cells 0 (byV u))]) (.str u) (hp [(50,.cells 0 [bldP,bufV u.length]),(60,.dead 0)]):=by obtain⟨k,hk⟩:∃k,u.length=k+1:=⟨u.length-1,by omega⟩;have b:=QiA u;rw[hk];refine HSpec.QcG (m:=61) 100 OK.ok77 rfl rfl rfl ?_;simp(disch:=first|omega|exact PairsOK.mk rfl|(simp only[lenW]<;>omega))only[OK.s77,QaD,QaN,QaG,QaO,QaL,Qaz,QaP,tNil,tFA,tEq0,tEq1,tConv,tExt,tEqP,QaH,QaQ,QaR,tUsd,tLen,wW,wV,simprocAttr];rw[<-hk,show(k:Int)+1=(u.length:Int)by omega];refine Qqb (s:=u) (b:=60) (g:=0) hu gg (by omega) (by decide) ?_;simp(disch:=first|omega|exact PairsOK.mk rfl|(simp only[lenW]<;>omega))only[QaD,QaN,QaG,QaO,QaL,Qaz,QaP,tNil,tFA,tEq0,tEq1,tConv,tExt,tEqP,QaH,QaQ,QaR,tUsd,tLen,wW,wV,simprocAttr];refine⟨.inr trivial,_,rfl,rfl,?_⟩;refine⟨[(50,.nil),(60,.nil)],rfl,au0,?_,au16⟩;exact RB.cellsB rfl gg (RnL.cons (Rn.typed (Rn.x6 rfl)) (RnL.cons (Rn.typed (Rn.x5 rfl)) RnL.nil)) (RB.deadB rfl gg RB.nil)
theorem string0:HSpec Tryz.prog 77 [bldP] (hp [(50,.cells 0 [.nilptr,.nilsl])]) (.str []) (hp [(50,.cells 0 [.nilptr,.nilsl])]):=by refine HSpec.QcG (m:=51) 100 OK.ok77 rfl rfl rfl ?_;simp(disch:=first|omega|exact PairsOK.mk rfl|(simp only[lenW]<;>omega))only[OK.s77,show aUsd .nilsl=some .nilptr from rfl,show∀t,aUstr t .nilptr (.int .i64 0)=.ret (.str [])from fun _=>rfl,QaD,QaN,QaG,QaO,QaL,Qaz,QaP,tNil,tFA,tEq0,tEq1,tConv,tExt,tEqP,QaH,QaQ,QaR,tUsd,tLen,wW,wV,simprocAttr];refine⟨.inr trivial,_,rfl,rfl,?_⟩;refine⟨[(50,.nil)],rfl,au0,?_,au16⟩;exact RB.cellsB rfl gg (RnL.same rfl) RB.nil
end Go.AM.SO
namespace Go.AM.SO
open Go.Proofs Go.AM.SD Go.AM.SE
noncomputable section
def itoB(x:Nat):Bool:=callR ansB noOrc TK.ft.get (exR ansB noOrc TK.ft.get 1000) (.c .pure) 38 [.int .i64 (.ofNat x)] .e 64 (fun u _ _=>eqAV (.str [UInt8.ofNat (48+x)]) u)
def itoA:Nat->Bool:=@Nat.rec (fun _=>Bool) true fun n a=>ifB a (itoB n) false
theorem itoA10:itoA 10=true:=by kernel_rfl
theorem Qm2:∀{n x:Nat},itoA n=true->x<n->itoB x=true
 |n+1,x,h,b=>by
  have e:itoA (n+1)=ifB (itoA n) (itoB n) false:=rfl;rw[e,QaI]at h;by_cases a:itoA n=true
  ·rw[if_pos a]at h;by_cases e:x=n;·rw[e];exact h
   exact Qm2 a (by omega)
  rw[if_neg a]at h;cases h
theorem itoa155{x:Nat}(h:x<10):PSpec Tryz.prog 38 [.int .i64 (x:Int)] (.str [UInt8.ofNat (48+x)]):=QdB (t:=TK.ft) TK.ft_ok Qd5 (d:=1000) (eqAV _) (fun u h=>(QdK _ _ h).symm) (Qm2 itoA10 h)
end
def bldH(t:List Nat):Nat->HL|0=>[(50,.cells 0 [.nilptr,.nilsl])]|i+1=>[(50,.cells 0 [bldP,bufV (keyT (t.take (i+1))).length]),(60,.cells 0 (byV (keyT (t.take (i+1)))))]
theorem Qb3(t:List Nat){i:Nat}(h:0<i):bldH t i=[(50,.cells 0 [bldP,bufV (keyT (t.take i)).length]),(60,.cells 0 (byV (keyT (t.take i))))]:=by obtain⟨k,rfl⟩:∃k,i=k+1:=⟨i-1,by omega⟩;rfl
theorem Qfe(t:List Nat):(keyT t).length=t.length*2:=by induction t with|nil=>rfl|cons x t a=>show(UInt8.ofNat (48+x)::32::keyT t).length=_;simp[a];omega
theorem Qly{t:List Nat}{i x:Nat}(h:t[i]?=some x):keyT (t.take (i+1))=keyT (t.take i)++[UInt8.ofNat (48+x)]++[32]:=by unfold keyT;rw[take_succ' h,List.flatMap_append];simp
theorem key98W(t:List Nat)(h:∀x∈t,x<10)(p:t.length<=1000):PSpec Tryz.prog 67 [sliN t] (.str (keyT t)):=by
 refine PSpec.of_rn 51 OK.ok67 rfl (by(try simp only[noRefs,Qab,noRef,noRefs,Bool.and_self,Bool.and_true])<;>rfl) rfl ?_;simp(disch:=first|omega|exact PairsOK.mk rfl|(simp only[lenW]<;>omega))only[OK.s67,QaM,QaD,QaN,QaG,QaO,QaL,Qaz,QaP,tNil,tFA,tEq0,tEq1,tConv,tExt,tEqP,QaH,QaQ,QaR,tUsd,tLen,wW,wV,simprocAttr];refine Qay 100 (fun i:Nat=>[(3,bldP),(6,sliN t),(7,.int .i64 t.length),(8,.int .i64 i)]) (bldH t) (fun i=>i<=t.length) (fun i=>t.length-i) 0 0 200 (fun _:Unit=>[(3,bldP)]) (fun _=>bldH t t.length) (fun _=>True) ?_ (Nat.zero_le _) ?_ ?_;·exact⟨[(50,.blk 52 0)],rfl,RO.zero,RB.cells rfl rfl gg (RnL.same rfl) RB.nil,RT.cons (Rn.typed (Rn.x2 rfl rfl)) au16⟩
 ·rintro i hi;by_cases a:i<t.length
  ·obtain⟨x,d⟩:=Qav a;have l:=itoa155 (h x (List.mem_of_getElem? d));have g:=Qly d;have c:=Qfe (t.take i);rw[List.length_take,Nat.min_eq_left (by omega)]at c;by_cases f:i=0
   ·subst f;have b:(ints (nz t)).head?=some (.int .i64 (x:Int)):=by simpa using QaW d
    dsimp only[bldH];have k:=write0 [UInt8.ofNat (48+x)] (by simp) (by simp);have j:HSpec Tryz.prog 103 [bldP,.int .u8 32] _ _ _:=writeB 0 1 [UInt8.ofNat (48+x)] 32 rfl (by decide) (by decide);have m:keyT (t.take 0)=[]:=rfl;rw[m,List.nil_append]at g;simp(disch:=first|omega|exact PairsOK.mk rfl|(simp only[lenW]<;>omega))only[a,b,QaM,QaD,QaN,QaG,QaO,QaL,Qaz,QaP,tNil,tFA,tEq0,tEq1,tConv,tExt,tEqP,QaH,QaQ,QaR,tUsd,tLen,wW,wV,simprocAttr];refine cp l ?_;simp(disch:=first|omega|exact PairsOK.mk rfl|(simp only[lenW]<;>omega))only[QaM,QaD,QaN,QaG,QaO,QaL,Qaz,QaP,tNil,tFA,tEq0,tEq1,tConv,tExt,tEqP,QaH,QaQ,QaR,tUsd,tLen,wW,wV,simprocAttr];refine ch k ?_;simp(disch:=first|omega|exact PairsOK.mk rfl|(simp only[lenW]<;>omega))only[QaM,QaD,QaN,QaG,QaO,QaL,Qaz,QaP,tNil,tFA,tEq0,tEq1,tConv,tExt,tEqP,QaH,QaQ,QaR,tUsd,tLen,wW,wV,simprocAttr];refine ch j ?_;simp(disch:=first|omega|exact PairsOK.mk rfl|(simp only[lenW]<;>omega))only[QaM,QaD,QaN,QaG,QaO,QaL,Qaz,QaP,tNil,tFA,tEq0,tEq1,tConv,tExt,tEqP,QaH,QaQ,QaR,tUsd,tLen,wW,wV,simprocAttr];refine⟨0+1,by omega,by omega,?_⟩;rw[Qb3 t (by omega),g];exact⟨[(50,.blk 50 0),(60,.blk 60 1)],rfl,RO.zero,RB.cells rfl rfl gg (RnL.cons (Rn.typed (Rn.x2 rfl rfl)) (RnL.cons (Rn.typed (Rn.x1 rfl rfl)) RnL.nil)) (RB.cells rfl rfl gg (RnL.same (Qbq _)) RB.nil),RT.cons (Rn.typed (Rn.x2 rfl rfl)) au16⟩
   rw[Qb3 t (by omega)];have k:=write1 0 (keyT (t.take i)).length (keyT (t.take i)) [UInt8.ofNat (48+x)] rfl (by omega) (by simp;omega);have j:HSpec Tryz.prog 103 [bldP,.int .u8 32] _ _ _:=writeB 1 ((keyT (t.take i)).length+1) (keyT (t.take i)++[UInt8.ofNat (48+x)]) 32 (by simp) (by omega) (by omega);simp(disch:=first|omega|exact PairsOK.mk rfl|(simp only[lenW]<;>omega))only[a,QaW d,QaM,QaD,QaN,QaG,QaO,QaL,Qaz,QaP,tNil,tFA,tEq0,tEq1,tConv,tExt,tEqP,QaH,QaQ,QaR,tUsd,tLen,wW,wV,simprocAttr];refine cp l ?_;simp(disch:=first|omega|exact PairsOK.mk rfl|(simp only[lenW]<;>omega))only[QaM,QaD,QaN,QaG,QaO,QaL,Qaz,QaP,tNil,tFA,tEq0,tEq1,tConv,tExt,tEqP,QaH,QaQ,QaR,tUsd,tLen,wW,wV,simprocAttr];refine ch k ?_;simp(disch:=first|omega|exact PairsOK.mk rfl|(simp only[lenW]<;>omega))only[QaM,QaD,QaN,QaG,QaO,QaL,Qaz,QaP,tNil,tFA,tEq0,tEq1,tConv,tExt,tEqP,QaH,QaQ,QaR,tUsd,tLen,wW,wV,simprocAttr];refine ch j ?_;simp(disch:=first|omega|exact PairsOK.mk rfl|(simp only[lenW]<;>omega))only[QaM,QaD,QaN,QaG,QaO,QaL,Qaz,QaP,tNil,tFA,tEq0,tEq1,tConv,tExt,tEqP,QaH,QaQ,QaR,tUsd,tLen,wW,wV,simprocAttr];refine⟨i+1,by omega,by omega,?_⟩;rw[Qb3 t (by omega),g,List.length_append,List.length_append];exact⟨[(50,.blk 50 0),(60,.blk 60 2)],rfl,RO.zero,RB.cells rfl rfl gg (RnL.cons (Rn.typed (Rn.x2 rfl rfl)) (RnL.cons (Rn.typed (Rn.x1 rfl rfl)) RnL.nil)) (RB.cells rfl rfl gg (RnL.same (Qbq _)) RB.nil),RT.cons (Rn.typed (Rn.x2 rfl rfl)) au16⟩
  have e:i=t.length:=by omega
  subst e;by_cases b:t.length=0;·rw[b];dsimp only[bldH];simp(disch:=first|omega|exact PairsOK.mk rfl|(simp only[lenW]<;>omega))only[a,b,QaM,QaD,QaN,QaG,QaO,QaL,Qaz,QaP,tNil,tFA,tEq0,tEq1,tConv,tExt,tEqP,QaH,QaQ,QaR,tUsd,tLen,wW,wV,simprocAttr];refine⟨(),?_⟩;exact⟨[(50,.blk 50 0)],rfl,RO.zero,RB.cells rfl rfl gg (RnL.same rfl) RB.nil,RT.cons (Rn.typed (Rn.x2 rfl rfl)) RT.nil⟩
  rw[Qb3 t (by omega)];simp(disch:=first|omega|exact PairsOK.mk rfl|(simp only[lenW]<;>omega))only[a,QaM,QaD,QaN,QaG,QaO,QaL,Qaz,QaP,tNil,tFA,tEq0,tEq1,tConv,tExt,tEqP,QaH,QaQ,QaR,tUsd,tLen,wW,wV,simprocAttr];refine⟨(),?_⟩;exact⟨[(50,.blk 50 0),(60,.blk 60 0)],rfl,RO.zero,RB.cells rfl rfl gg (RnL.cons (Rn.typed (Rn.x2 rfl rfl)) (RnL.cons (Rn.typed (Rn.x1 rfl rfl)) RnL.nil)) (RB.cells rfl rfl gg (RnL.same (Qbq _)) RB.nil),RT.cons (Rn.typed (Rn.x2 rfl rfl)) RT.nil⟩
 rintro _ _;have c:=Qfe t;by_cases b:t.length=0;·have e:t=[]:=List.eq_nil_of_length_eq_zero b;subst e;dsimp only[bldH,List.length_nil];simp(disch:=first|omega|exact PairsOK.mk rfl|(simp only[lenW]<;>omega))only[QaM,QaD,QaN,QaG,QaO,QaL,Qaz,QaP,tNil,tFA,tEq0,tEq1,tConv,tExt,tEqP,QaH,QaQ,QaR,tUsd,tLen,wW,wV,simprocAttr];refine ch string0 ?_;simp(disch:=first|omega|exact PairsOK.mk rfl|(simp only[lenW]<;>omega))only[QaM,QaD,QaN,QaG,QaO,QaL,Qaz,QaP,tNil,tFA,tEq0,tEq1,tConv,tExt,tEqP,QaH,QaQ,QaR,tUsd,tLen,wW,wV,simprocAttr];exact⟨.inr trivial,_,rfl,Rn.same rfl⟩
 rw[Qb3 t (by omega),List.take_length];have o:=string1 (keyT t) (by omega) (by omega);simp(disch:=first|omega|exact PairsOK.mk rfl|(simp only[lenW]<;>omega))only[QaM,QaD,QaN,QaG,QaO,QaL,Qaz,QaP,tNil,tFA,tEq0,tEq1,tConv,tExt,tEqP,QaH,QaQ,QaR,tUsd,tLen,wW,wV,simprocAttr];refine ch o ?_;simp(disch:=first|omega|exact PairsOK.mk rfl|(simp only[lenW]<;>omega))only[QaM,QaD,QaN,QaG,QaO,QaL,Qaz,QaP,tNil,tFA,tEq0,tEq1,tConv,tExt,tEqP,QaH,QaQ,QaR,tUsd,tLen,wW,wV,simprocAttr];exact⟨.inr trivial,_,rfl,Rn.same rfl⟩
theorem key72W(t:List Nat)(h:∀x∈t,x<10)(o:t.length<=1000):PSpec Tryz.prog 42 [sliN t] (.str (keyT t)):=by
 refine PSpec.of_rn 51 OK.ok42 rfl (by(try simp only[noRefs,Qab,noRef,noRefs,Bool.and_self,Bool.and_true])<;>rfl) rfl ?_;simp(disch:=first|omega|exact PairsOK.mk rfl|(simp only[lenW]<;>omega))only[OK.s42,QaM,QaD,QaN,QaG,QaO,QaL,Qaz,QaP,tNil,tFA,tEq0,tEq1,tConv,tExt,tEqP,QaH,QaQ,QaR,tUsd,tLen,wW,wV,simprocAttr];refine Qay 100 (fun i:Nat=>[(3,bldP),(6,sliN t),(7,.int .i64 t.length),(8,.int .i64 i)]) (bldH t) (fun i=>i<=t.length) (fun i=>t.length-i) 0 0 200 (fun _:Unit=>[(3,bldP)]) (fun _=>bldH t t.length) (fun _=>True) ?_ (Nat.zero_le _) ?_ ?_;·exact⟨[(50,.blk 52 0)],rfl,RO.zero,RB.cells rfl rfl gg (RnL.same rfl) RB.nil,RT.cons (Rn.typed (Rn.x2 rfl rfl)) au16⟩
 ·rintro i hi;by_cases a:i<t.length
  ·obtain⟨x,d⟩:=Qav a;have k:=itoa155 (h x (List.mem_of_getElem? d));have g:keyT (t.take (i+1))=keyT (t.take i)++[UInt8.ofNat (48+x),32]:=by rw[Qly d,List.append_assoc];rfl
   have c:=Qfe (t.take i);rw[List.length_take,Nat.min_eq_left (by omega)]at c;by_cases f:i=0
   ·subst f;have b:(ints (nz t)).head?=some (.int .i64 (x:Int)):=by simpa using QaW d
    dsimp only[bldH];have j:=write0 [UInt8.ofNat (48+x),32] (by simp) (by simp);have m:keyT (t.take 0)=[]:=rfl;rw[m,List.nil_append]at g;simp(disch:=first|omega|exact PairsOK.mk rfl|(simp only[lenW]<;>omega))only[a,b,QaM,QaD,QaN,QaG,QaO,QaL,Qaz,QaP,tNil,tFA,tEq0,tEq1,tConv,tExt,tEqP,QaH,QaQ,QaR,tUsd,tLen,wW,wV,simprocAttr];refine cp k ?_;simp(disch:=first|omega|exact PairsOK.mk rfl|(simp only[lenW]<;>omega))only[Qek,QaM,QaD,QaN,QaG,QaO,QaL,Qaz,QaP,tNil,tFA,tEq0,tEq1,tConv,tExt,tEqP,QaH,QaQ,QaR,tUsd,tLen,wW,wV,simprocAttr];refine ch j ?_;simp(disch:=first|omega|exact PairsOK.mk rfl|(simp only[lenW]<;>omega))only[QaM,QaD,QaN,QaG,QaO,QaL,Qaz,QaP,tNil,tFA,tEq0,tEq1,tConv,tExt,tEqP,QaH,QaQ,QaR,tUsd,tLen,wW,wV,simprocAttr];refine⟨0+1,by omega,by omega,?_⟩;rw[Qb3 t (by omega),g];exact⟨[(50,.blk 50 0),(60,.blk 60 0)],rfl,RO.zero,RB.cells rfl rfl gg (RnL.cons (Rn.typed (Rn.x2 rfl rfl)) (RnL.cons (Rn.typed (Rn.x1 rfl rfl)) RnL.nil)) (RB.cells rfl rfl gg (RnL.same (Qbq _)) RB.nil),RT.cons (Rn.typed (Rn.x2 rfl rfl)) au16⟩
   rw[Qb3 t (by omega)];have j:=write1 0 (keyT (t.take i)).length (keyT (t.take i)) [UInt8.ofNat (48+x),32] rfl (by omega) (by simp;omega);simp(disch:=first|omega|exact PairsOK.mk rfl|(simp only[lenW]<;>omega))only[a,QaW d,QaM,QaD,QaN,QaG,QaO,QaL,Qaz,QaP,tNil,tFA,tEq0,tEq1,tConv,tExt,tEqP,QaH,QaQ,QaR,tUsd,tLen,wW,wV,simprocAttr];refine cp k ?_;simp(disch:=first|omega|exact PairsOK.mk rfl|(simp only[lenW]<;>omega))only[Qek,QaM,QaD,QaN,QaG,QaO,QaL,Qaz,QaP,tNil,tFA,tEq0,tEq1,tConv,tExt,tEqP,QaH,QaQ,QaR,tUsd,tLen,wW,wV,simprocAttr];refine ch j ?_;simp(disch:=first|omega|exact PairsOK.mk rfl|(simp only[lenW]<;>omega))only[QaM,QaD,QaN,QaG,QaO,QaL,Qaz,QaP,tNil,tFA,tEq0,tEq1,tConv,tExt,tEqP,QaH,QaQ,QaR,tUsd,tLen,wW,wV,simprocAttr];refine⟨i+1,by omega,by omega,?_⟩;rw[Qb3 t (by omega),g,List.length_append];exact⟨[(50,.blk 50 0),(60,.blk 60 1)],rfl,RO.zero,RB.cells rfl rfl gg (RnL.cons (Rn.typed (Rn.x2 rfl rfl)) (RnL.cons (Rn.typed (Rn.x1 rfl rfl)) RnL.nil)) (RB.cells rfl rfl gg (RnL.same (Qbq _)) RB.nil),RT.cons (Rn.typed (Rn.x2 rfl rfl)) au16⟩
  have e:i=t.length:=by omega
  subst e;by_cases b:t.length=0;·rw[b];dsimp only[bldH];simp(disch:=first|omega|exact PairsOK.mk rfl|(simp only[lenW]<;>omega))only[a,b,QaM,QaD,QaN,QaG,QaO,QaL,Qaz,QaP,tNil,tFA,tEq0,tEq1,tConv,tExt,tEqP,QaH,QaQ,QaR,tUsd,tLen,wW,wV,simprocAttr];refine⟨(),?_⟩;exact⟨[(50,.blk 50 0)],rfl,RO.zero,RB.cells rfl rfl gg (RnL.same rfl) RB.nil,RT.cons (Rn.typed (Rn.x2 rfl rfl)) RT.nil⟩
  rw[Qb3 t (by omega)];simp(disch:=first|omega|exact PairsOK.mk rfl|(simp only[lenW]<;>omega))only[a,QaM,QaD,QaN,QaG,QaO,QaL,Qaz,QaP,tNil,tFA,tEq0,tEq1,tConv,tExt,tEqP,QaH,QaQ,QaR,tUsd,tLen,wW,wV,simprocAttr];refine⟨(),?_⟩;exact⟨[(50,.blk 50 0),(60,.blk 60 0)],rfl,RO.zero,RB.cells rfl rfl gg (RnL.cons (Rn.typed (Rn.x2 rfl rfl)) (RnL.cons (Rn.typed (Rn.x1 rfl rfl)) RnL.nil)) (RB.cells rfl rfl gg (RnL.same (Qbq _)) RB.nil),RT.cons (Rn.typed (Rn.x2 rfl rfl)) RT.nil⟩
 rintro _ _;have c:=Qfe t;by_cases b:t.length=0;·have e:t=[]:=List.eq_nil_of_length_eq_zero b;subst e;dsimp only[bldH,List.length_nil];simp(disch:=first|omega|exact PairsOK.mk rfl|(simp only[lenW]<;>omega))only[QaM,QaD,QaN,QaG,QaO,QaL,Qaz,QaP,tNil,tFA,tEq0,tEq1,tConv,tExt,tEqP,QaH,QaQ,QaR,tUsd,tLen,wW,wV,simprocAttr];refine ch string0 ?_;simp(disch:=first|omega|exact PairsOK.mk rfl|(simp only[lenW]<;>omega))only[QaM,QaD,QaN,QaG,QaO,QaL,Qaz,QaP,tNil,tFA,tEq0,tEq1,tConv,tExt,tEqP,QaH,QaQ,QaR,tUsd,tLen,wW,wV,simprocAttr];exact⟨.inr trivial,_,rfl,Rn.same rfl⟩
 rw[Qb3 t (by omega),List.take_length];have l:=string1 (keyT t) (by omega) (by omega);simp(disch:=first|omega|exact PairsOK.mk rfl|(simp only[lenW]<;>omega))only[QaM,QaD,QaN,QaG,QaO,QaL,Qaz,QaP,tNil,tFA,tEq0,tEq1,tConv,tExt,tEqP,QaH,QaQ,QaR,tUsd,tLen,wW,wV,simprocAttr];refine ch l ?_;simp(disch:=first|omega|exact PairsOK.mk rfl|(simp only[lenW]<;>omega))only[QaM,QaD,QaN,QaG,QaO,QaL,Qaz,QaP,tNil,tFA,tEq0,tEq1,tConv,tExt,tEqP,QaH,QaQ,QaR,tUsd,tLen,wW,wV,simprocAttr];exact⟨.inr trivial,_,rfl,Rn.same rfl⟩
end Go.AM.SO
namespace Go.AM.SO
open Go.Proofs Go.AM.SD Go.AM.SE
def itN(x:List UInt8×Aut):List AV:=[.str x.1,sliN x.2.al,.int .i64 (x.2.n:Int),sliN x.2.ms,egsN x.2.es]
abbrev itsN(l:List (List UInt8×Aut)):AV:=.fsl (l.flatMap itN) l.length 5
theorem Qcz(l:List (List UInt8×Aut)):noRefs (l.flatMap itN)=true:=Qa9 (fun x=>by simp only[itN,noRefs,noRef,Qab,Qaf];rfl) l
theorem Qci(l:List (List UInt8×Aut)):noRef (itsN l)=true:=by simp only[noRef];exact Qcz l
theorem QiB{l:List (List UInt8×Aut)}{i:Nat}{x:List UInt8×Aut}(h:l[i]?=some x):(l.flatMap itN).drop (i*5)=.str x.1::sliN x.2.al::.int .i64 (x.2.n:Int)::sliN x.2.ms::egsN x.2.es::(l.drop (i+1)).flatMap itN:=Qbw (f:=itN) (k:=5) (fun _=>rfl) h
end Go.AM.SO
namespace Go.AM.SO
open Go.Proofs Go.AM.SD Go.AM.SE
theorem QaX{x y:List AV}(a:noRefs x=true)(b:noRefs y=true):noRefs (x++y)=true:=by rw[Qah,a,b];rfl
inductive Xp where|mk(op val idx:Int)(args:List Xp)
instance:Inhabited Xp:=⟨.mk 0 0 0 []⟩
end Go.AM.SO
namespace Go.AM.SO
open Go.Proofs Go.AM.SD Go.AM.SE
structure CelA where
 ev:List Evn
 cs:List (List UInt8×Aut)rs:List (List UInt8×Aut)ks:List Con
abbrev zIt(x:List UInt8×Aut):Itn:=(x.1,au x.2)
def CelA.z(c:CelA):CelN:=⟨c.ev,c.cs.map zIt,c.rs.map zIt,[],c.ks⟩
theorem Qpg(l:List (List UInt8×Aut)):itsV (l.map zIt)=itsN l:=by
 have:(l.map zIt).flatMap itV=l.flatMap itN:=by rw[List.flatMap_map];congr 1;funext x;show[AV.str x.1,sli (nz x.2.al),.int .i64 (x.2.n:Int),sli (nz x.2.ms),egs (x.2.es.map eg)]=_;rw[Qcl,Qcl,QmN];rfl
 rw[itsV,this,List.length_map]
abbrev celG(c:CelA):AV:=.agg [evns c.ev,itsN c.cs,itsN c.rs,exsZ [],cosZ c.ks]
theorem Qph(c:CelA):celZ c.z=celG c:=by show AV.agg [evns c.ev,itsV (c.cs.map zIt),itsV (c.rs.map zIt),exsZ [],cosZ c.ks]=_;rw[Qpg,Qpg]
theorem QbF(c:CelA):noRefs [evns c.ev,itsN c.cs,itsN c.rs,exsZ [],cosZ c.ks]=true:=by rw[noRefs,noRefs,noRefs,noRefs,noRefs,Qc8,Qci,Qci,Qch,QdH];rfl
theorem Qcj(c:CelA):noRef (celG c)=true:=by rw[celG,noRef];exact QbF c
abbrev auN(l:List (List UInt8×Aut)):List Aut:=l.map (·.2)
theorem Qbz{l:List (List UInt8×Aut)}:(auN l).length=l.length:=List.length_map ..
theorem Qm3{x:List UInt8×Aut}:List.flatMap auC (List.map (fun x:List UInt8×Aut=>x.2) [x])=[sliN x.2.al,.int .i64 (x.2.n:Int),sliN x.2.ms,egsN x.2.es]:=rfl
abbrev allN(c:CelA):List Aut:=auN c.cs++auN c.rs
theorem Qed{c:CelA}:(allN c).length=c.cs.length+c.rs.length:=by simp[allN]
structure WfG(c:CelA):Prop where
 ok:CelOk c.z
 er:celErr c.z=0
 cj:∀a∈auN c.cs,WfJ a
 rj:∀a∈auN c.rs,WfJ a
 c0:0<c.cs.length
 l12:c.cs.length+c.rs.length<=12
 pl:(sync0 (auN c.cs)).1.length<=4096
 ql:(sync0 (allN c)).1.length<=4096
 eb:∀a∈allN c,∀e∈a.al,e<c.ev.length
 rsub:∀x∈c.rs,∀e∈x.2.al,∃y∈c.cs,e∈y.2.al
 kk:∀k∈c.ks,k.2.1.length<=1000/\∀x∈k.2.1,(0<=x.1/\x.1<(c.cs.length:Int))/\-4<x.2/\x.2<4
theorem WfG.all{c:CelA}(h:WfG c):∀a∈allN c,WfJ a:=fun a b=>(List.mem_append.1 b).elim (h.cj a) (h.rj a)
theorem checkG(c:CelA)(h:WfG c):PSpec Tryz.prog 29 [celG c] (.int .i64 0):=by have:=check21X c.z h.ok;rw[h.er,Qph]at this;exact this
theorem _root_.Go.AM.au22{p:Prop}(h:p:=by repeat(first|exact RT.nil|(refine RT.cons ?_ ?_;·(first|exact Rn.any|exact Rn.x1 rfl rfl|exact Rn.x2 rfl rfl|exact Rn.x3 rfl rfl|exact Rn.x4 rfl rfl|exact Rn.x5 rfl|exact Rn.x6 rfl|exact Rn.x7 rfl|(refine Rn.slot ?_ ?_;(first|rfl|(rw[Int.natCast_add];rfl));(first|rfl|(simp only[noRef,noRefs,Qah,Bool.and_self,Bool.and_true,Bool.true_and,Qab,Qap,Qaa,Qak,Qa1,Qaf,Qcz];done)))|(refine Rn.fn ?_ ?_<;>(repeat'(first|exact RnL.nil|refine RnL.cons ?_ ?_|exact Rn.same rfl|exact Rn.x6 rfl|exact Rn.x2 rfl rfl|exact Rn.x5 rfl|exact Rn.x1 rfl rfl))))))):p:=h
theorem automG(l:List (List UInt8×Aut))(j:l.length<=1000):PSpec Tryz.prog 31 [itsN l] (auts (auN l)):=by
 refine PSpec.of_rn 64 TP.ok31 rfl (by rw[noRefs,Qci];rfl) (Qbl _) ?_;have h:=Qci l;simp(disch:=first|omega|exact PairsOK.mk rfl|(simp only[lenW]<;>omega))only[TP.s31,Qac,Qad,Qae,wW,wV,simprocAttr];refine Qay 100 (fun i:Nat=>[(3,.sl 60 0 0 i 4),(6,itsN l),(7,.int .i64 l.length),(8,.int .i64 i)]) (fun i=>[(60,.cells 0 ((auN (l.take i)).flatMap auC))]) (fun i=>i<=l.length) (fun i=>l.length-i) 0 0 160 (fun _:Unit=>[(3,auts (auN l))]) (fun _=>[]) (fun _=>True) ?_ (Nat.zero_le _) ?_ ?_;·refine⟨[(60,.nil)],rfl,au0,?_,au22⟩;exact RB.newnil rfl rfl RB.nil
 ·rintro i hi;by_cases a:i<l.length
  ·obtain⟨x,g⟩:=Qav a;have b:=QiB g;have c:5<=((l.flatMap itN).drop (i*5)).length:=by rw[b];simp
   have d:(auN (l.take i)).length=i:=by rw[Qbz,List.length_take];omega
   have f:((auN (l.take i)).flatMap auC).length=i*4:=by rw[Qf0,d]
   simp(disch:=first|omega|exact PairsOK.mk rfl|(simp only[lenW]<;>omega))only[a,b,c,f,Qaa,Qak,Qac,Qad,Qae,wW,wV,simprocAttr];refine⟨i+1,by omega,by omega,?_⟩;rw[take_succ' g];show Rec _ _ [(60,.cells 0 ((List.map (fun x:List UInt8×Aut=>x.2) (l.take i++[x])).flatMap auC))] _ _;rw[List.map_append,List.flatMap_append,Qm3];refine⟨[(60,.blk 60 1)],rfl,au0,?_,au22⟩;exact RB.cells rfl rfl gg (RnL.same (QaX (Qa1 _) (Qa1 [x.2]))) RB.nil
  have e:i=l.length:=by omega
  subst e;simp(disch:=first|omega|exact PairsOK.mk rfl|(simp only[lenW]<;>omega))only[a,List.take_length,Qac,Qad,Qae,wW,wV,simprocAttr];exact⟨(),[],rfl,RO.zero,RB.nil,RT.cons (Rn.fzm (b:=60) (g:=0) gg rfl rfl Qbz (by rw[Qf0,Qbz]) (RnL.same (Qa1 _))) RT.nil⟩
 rintro _ _;simp(disch:=first|omega|exact PairsOK.mk rfl|(simp only[lenW]<;>omega))only[Qac,Qad,Qae,wW,wV,simprocAttr];exact⟨.inr trivial,_,rfl,Rn.same (Qbl _)⟩
theorem keyG{l:List Aut}(h:∀a∈l,WfJ a)(d:l.length<=12)(t:List Nat)(b:InT l t):PSpec Tryz.prog 67 [sliN t] (.str (keyT t)):=key98W t (fun x c=>b.ltJ h c) (by have:=b.1;omega)
theorem syncG{l:List Aut}(h:∀a∈l,WfJ a)(c:0<l.length)(b:l.length<=12)(d:(sync0 l).1.length<=4096):PSpec Tryz.prog 30 [auts l] (.tup [aV (syncA l),tuV (sync0 l).1,.int .i64 0]):=by have:=sync28J l h c b (keyG h b);unfold synV at this;rwa[if_pos d]at this
theorem plantG(c:CelA)(h:WfG c):PSpec Tryz.prog 10 [celG c] (.tup [aV (syncA (auN c.cs)),tuV (sync0 (auN c.cs)).1,.int .i64 0]):=by have b:=QbF c;refine PSpec.of_rn 64 TP.ok10 rfl (by rw[noRefs,Qcj];rfl) (Qo6 _) ?_;have g:=h.l12;have f:=h.c0;have hc:=checkG c h;have a:=automG c.cs (by omega);have d:=syncG h.cj (by rw[Qbz];omega) (by rw[Qbz];omega) h.pl;simp(disch:=first|omega|exact PairsOK.mk rfl|(simp only[lenW]<;>omega))only[TP.s10,Qac,Qad,Qae,wW,wV,simprocAttr];refine cp hc ?_;simp(disch:=first|omega|exact PairsOK.mk rfl|(simp only[lenW]<;>omega))only[Qac,Qad,Qae,wW,wV,simprocAttr];refine cp a ?_;simp(disch:=first|omega|exact PairsOK.mk rfl|(simp only[lenW]<;>omega))only[Qac,Qad,Qae,wW,wV,simprocAttr];refine cp d ?_;simp(disch:=first|omega|exact PairsOK.mk rfl|(simp only[lenW]<;>omega))only[Qac,Qad,Qae,wW,wV,simprocAttr];exact⟨.inr trivial,_,rfl,Rn.same (Qo6 _)⟩
end Go.AM.SO
namespace Go.AM.TQ
open Go.Proofs
set_option maxHeartbeats 4000000
noncomputable section
def cf:YA.Cf:={most:=.pure,always:=[142,156,120].map fun k=>(k,.heap),value:=.pure}
def s26:SFn:=by
 refine(?f:YA.Yt Tryz.prog cf 26 [[0],[19,20,18,21,22],[23],[1,4,5,24,25,26],[5,24,27,28,29,30,31],[32,33,34],[],[38,39,40,41],[8,43,44,45,42,46,47],[48,49,50,51,52,53,54],[55,56,57,58,59,60,61,62,63,64,65,66,67,68,69,70,71,72,73,74],[9,76,77,78,79,80,81,75,82,83,84,85,15],[14],[7,10,11,12,13,86,87,88,89,90,91,92,93,94,95],[10,11,12,13,86,96,97,98],[99,100],[101],[102,103,104,105,106,107],[7,16,17,108,109,110,111,112,113,114,115,116,117],[7,99,118],[1,4,6,35,36,37,119]] [(10,[(4,7),(5,7),(4,13),(5,13),(10,13),(11,13),(3,15),(5,15),(9,15),(11,15)])]) ?s ?h;case h=>exact YA.rr
 exact fun s _=>s
def s142:SFn:=by
 refine(?f:YA.Yt Tryz.prog cf 142 [[4],[6],[],[9,10],[11,12,13,14,15],[0,1,7,8,5,16,17],[4,5,16,18],[0,1,7,8]]) ?s ?h;case h=>exact YA.rr
 exact fun s _=>s
def s41:SFn:=by
 refine(?f:YA.Yt Tryz.prog cf 41 [[4,5],[0,7,8,9,10,11,12],[1,6,13,14,15,16,17,18,19]]) ?s ?h;case h=>exact YA.rr
 exact fun s _=>s
def s44:SFn:=by
 refine(?f:YA.Yt Tryz.prog cf 44 [[0,4,5,6,7],[10,11,12],[13],[1,2,8,14,15],[4,5,6,7,1,8,14,16,17,18,19],[26,27],[2,9,25],[25,29,30,31,32,33],[2,9,28,34],[2,9,28,20,21,22,23,24]]) ?s ?h;case h=>exact YA.rr
 exact fun s _=>s
def s45:SFn:=by
 refine(?f:YA.Yt Tryz.prog cf 45 [[0,1,2,6],[3,4,5,7]]) ?s ?h;case h=>exact YA.rr
 exact fun s _=>s
def s78:SFn:=by
 refine(?f:YA.Yt Tryz.prog cf 78 [[0,4],[6,7],[8],[1,2,5,9,10],[1,2,5,9,11,12,13]]) ?s ?h;case h=>exact YA.rr
 exact fun s _=>s
def s79:SFn:=by
 refine(?f:YA.Yt Tryz.prog cf 79 [[1,4],[0,3,5,6,7]]) ?s ?h;case h=>exact YA.rr
 exact fun s _=>s
def s80:SFn:=by
 refine(?f:YA.Yt Tryz.prog cf 80 [[0,2],[],[8],[],[12,13,14],[5,15,16,17,18,19],[20],[1,9,10,11,21],[],[25,26,27],[7,28,29,30,31,32],[33],[3,22,23,24,34]]) ?s ?h;case h=>exact YA.rr
 exact fun s _=>s
def s82:SFn:=by
 refine(?f:YA.Yt Tryz.prog cf 82 [[0,4,5],[10,11,12],[13],[1,2,6,14,15],[4,5,6,14],[1,2,16,17],[],[21,22,23],[9,24,25,26,27,28],[29],[7,18,19,20,30]]) ?s ?h;case h=>exact YA.rr
 exact fun s _=>s
def s83:SFn:=by
 refine(?f:YA.Yt Tryz.prog cf 83 [[6],[0,12,13,14,15],[],[19,20,21,22],[23,24,25,26,27],[8,28,30,31,32,33,34,35,36,37,29,38,39,40,9,11],[10,41],[1,2,16,17,18,7,42,43],[6,7,42,44],[1,2,16,17,18]]) ?s ?h;case h=>exact YA.rr
 exact fun s _=>s
def s119:SFn:=by
 refine(?f:YA.Yt Tryz.prog cf 119 [[0,4],[7,8,9,10,11],[1,2,12],[4,1,12],[],[16,17,18,19],[5,6,20,21,22],[2,13,14,15,29,23,28,27,25,26,24,30],[4,30,31],[2,13,14,15,29,23,28,27,25,26,24]]) ?s ?h;case h=>exact YA.rr
 exact fun s _=>s
def s120:SFn:=by
 refine(?f:YA.Yt Tryz.prog cf 120 [[4],[6],[],[9,10],[11,12,13,14,15],[0,1,7,8,5,16,17],[4,5,16,18],[0,1,7,8]]) ?s ?h;case h=>exact YA.rr
 exact fun s _=>s
def s121:SFn:=by
 refine(?f:YA.Yt Tryz.prog cf 121 [[3],[0,1,4,5,6]]) ?s ?h;case h=>exact YA.rr
 exact fun s _=>s
def s123:SFn:=by
 refine(?f:YA.Yt Tryz.prog cf 123 [[0,2],[1,3]]) ?s ?h;case h=>exact YA.rr
 exact fun s _=>s
def s124:SFn:=by
 refine(?f:YA.Yt Tryz.prog cf 124 [[0,4],[6,7],[8],[1,2,5,9,10],[4,1,2,5,9,11,12,13,14,15,16,17],[18],[18]]) ?s ?h;case h=>exact YA.rr
 exact fun s _=>s
def s126:SFn:=by
 refine(?f:YA.Yt Tryz.prog cf 126 [[0,6,7,8],[10,11,12],[13],[1,2,3,14,15],[8,6,7,14,16,17,18,19],[1,2,3,20],[6,7,8,1,2,3,20,21,22,23,24],[25],[9,26,27],[9,26]]) ?s ?h;case h=>exact YA.rr
 exact fun s _=>s
def s105:SFn:=by
 refine(?f:YA.Yt Tryz.prog cf 105 [[0,2,6],[1,3,9,10,11],[5,12,13,14],[15],[7,8,16],[7,8,16,17,18,19,20,21]]) ?s ?h;case h=>exact YA.rr
 exact fun s _=>s
def s158:SFn:=by
 refine(?f:YA.Yt Tryz.prog cf 158 [[3],[0,1,4,5,6,7,8,9]]) ?s ?h;case h=>exact YA.rr
 exact fun s _=>s
def s159:SFn:=by
 refine(?f:YA.Yt Tryz.prog cf 159 [[0,4],[],[2,8],[],[12,13,14],[7,15,16,17,18,19,20,21,22,23,24],[25],[1,5,9,10,11,26]]) ?s ?h;case h=>exact YA.rr
 exact fun s _=>s
def s143:SFn:=by
 refine(?f:YA.Yt Tryz.prog cf 143 [[0,3],[1,2,4,5,6,7]]) ?s ?h;case h=>exact YA.rr
 exact fun s _=>s
theorem ok26:okFn Tryz.prog 26 s26=true:=by kernel_rfl
theorem ok142:okFn Tryz.prog 142 s142=true:=by kernel_rfl
theorem ok41:okFn Tryz.prog 41 s41=true:=by kernel_rfl
theorem ok44:okFn Tryz.prog 44 s44=true:=by kernel_rfl
theorem ok45:okFn Tryz.prog 45 s45=true:=by kernel_rfl
theorem ok78:okFn Tryz.prog 78 s78=true:=by kernel_rfl
theorem ok79:okFn Tryz.prog 79 s79=true:=by kernel_rfl
theorem ok80:okFn Tryz.prog 80 s80=true:=by kernel_rfl
theorem ok82:okFn Tryz.prog 82 s82=true:=by kernel_rfl
theorem ok83:okFn Tryz.prog 83 s83=true:=by kernel_rfl
theorem ok119:okFn Tryz.prog 119 s119=true:=by kernel_rfl
theorem ok120:okFn Tryz.prog 120 s120=true:=by kernel_rfl
theorem ok121:okFn Tryz.prog 121 s121=true:=by kernel_rfl
theorem ok123:okFn Tryz.prog 123 s123=true:=by kernel_rfl
theorem ok124:okFn Tryz.prog 124 s124=true:=by kernel_rfl
theorem ok126:okFn Tryz.prog 126 s126=true:=by kernel_rfl
theorem ok105:okFn Tryz.prog 105 s105=true:=by kernel_rfl
theorem ok158:okFn Tryz.prog 158 s158=true:=by kernel_rfl
theorem ok159:okFn Tryz.prog 159 s159=true:=by kernel_rfl
theorem ok143:okFn Tryz.prog 143 s143=true:=by kernel_rfl
end
end Go.AM.TQ
namespace Go.AM.SO
open Go.Proofs Go.AM.SD Go.AM.SE
theorem index48{K:Nat}{cap:List AV}(q:Ed->Bool)(l:List Ed)(s:l.length<=1000000)(hc:noRefs cap=true)(hk:∀x∈l,PSpec Tryz.prog K (.agg [.int .i64 (x.1:Int),.int .i64 (x.2.1:Int),.int .i64 (x.2.2:Int)]::cap) (.bool (q x))):PSpec Tryz.prog 142 [egsN l,.fn K [] cap] (.int .i64 (idxQ q l)):=by
 refine PSpec.QaB 64 TQ.ok142 rfl (by rw[noRefs,noRefs,QbG hc,(Qak _)];rfl) rfl ?_;have c:=QbG (K:=K) hc;have o:=(Qby (k:=3) (fun _=>rfl) l:(l.flatMap edC).length=l.length*3);simp(disch:=first|omega|exact PairsOK.mk rfl|(simp only[lenW]<;>omega))only[TQ.s142,Qac,Qad,Qae,wW,wV,simprocAttr];refine Qbh 100 (fun i:Nat=>[(0,egsN l),(1,.fn K [] cap),(7,.int .i64 l.length),(8,.int .i64 i)]) (fun _=>[]) (fun i=>i<=l.length/\∀(j:Nat)y,j<i->l[j]?=some y->q y=false) (fun i=>l.length-i) 0 ?_ ⟨Nat.zero_le _,fun j y k=>absurd k (Nat.not_lt_zero _)⟩ ?_;·exact⟨[],rfl,RO.zero,RB.nil,RT.cons (Rn.same (Qak _)) (RT.cons (Rn.same c) (RT.cons (Rn.same rfl) (RT.cons (Rn.same rfl) RT.nil)))⟩
 rintro i⟨hi,m⟩;by_cases a:i<l.length
 ·obtain⟨x,b⟩:=Qav a;have h:=hk x (List.mem_of_getElem? b);have d:=QaZ b;have f:3<=(List.drop (i*3) (l.flatMap edC)).length:=by rw[List.length_drop,o];omega
  cases g:q x
  ·rw[g]at h;simp(disch:=first|omega|exact PairsOK.mk rfl|(simp only[lenW]<;>omega))only[a,d,f,List.head?_cons,Qac,Qad,Qae,wW,wV,simprocAttr];refine⟨_,by simpa using h,?_⟩;simp(disch:=first|omega|exact PairsOK.mk rfl|(simp only[lenW]<;>omega))only[Qac,Qad,Qae,wW,wV,simprocAttr];refine⟨i+1,by omega,⟨by omega,fun j y k p=>?_⟩,?_⟩
   ·by_cases e:j=i;·subst e;rw[b]at p;cases p;exact g
    exact m j y (by omega) p
   exact⟨[],rfl,RO.zero,RB.nil,RT.cons (Rn.same (Qak _)) (RT.cons (Rn.same c) (RT.cons (Rn.same rfl) (RT.cons (Rn.same rfl) RT.nil)))⟩
  rw[g]at h;simp(disch:=first|omega|exact PairsOK.mk rfl|(simp only[lenW]<;>omega))only[a,d,f,List.head?_cons,Qac,Qad,Qae,wW,wV,simprocAttr];refine⟨_,by simpa using h,?_⟩;simp(disch:=first|omega|exact PairsOK.mk rfl|(simp only[lenW]<;>omega))only[Qac,Qad,Qae,wW,wV,simprocAttr];refine⟨.inr trivial,_,rfl,?_⟩;rw[Qgf b g m];rfl
 simp(disch:=first|omega|exact PairsOK.mk rfl|(simp only[lenW]<;>omega))only[a,Qac,Qad,Qae,wW,wV,simprocAttr];refine⟨.inr trivial,_,rfl,?_⟩;rw[Qem fun x b=>by obtain⟨j,k,r⟩:=List.getElem_of_mem b;exact m j x (by omega) (by rw[List.getElem?_eq_getElem k,r])];rfl
end Go.AM.SO
namespace Go.AM.SO
open Go.Proofs Go.AM.SD Go.AM.SE
variable{S t:List Nat}{xs:List (Nat×List (Nat×Nat))}{ks:List (List (Nat×Int)×Int)}
theorem Qht{α:Type}{q:α->Bool}{A:List α}:-1<=idxQ q A/\(0<=idxQ q A->idxQ q A<A.length):=by
 unfold idxQ;by_cases a:A.any q=true;·rw[if_pos a];have:A.findIdx q<A.length:=List.findIdx_lt_length_of_exists (by simpa using a);exact⟨by omega,fun _=>by omega⟩
 rw[if_neg a];exact⟨by omega,fun h=>by omega⟩
end Go.AM.SO
namespace Go.AM.SO
open Go.Proofs Go.AM.SD Go.AM.SE
def gkV(t:List Nat)(l:List (Int×Int)):Int:=(l.map fun x=>x.2*(t.getD x.1.toNat 0:Int)).foldl (·+·) 0
theorem Qlz{t:List Nat}{l:List (Int×Int)}{i:Nat}{x:Int×Int}(h:l[i]?=some x):gkV t (l.take (i+1))=gkV t (l.take i)+x.2*(t.getD x.1.toNat 0:Int):=by unfold gkV;rw[take_succ' h,List.map_append,List.foldl_append];rfl
theorem Qm4{a b:Int}(h:-4<a/\a<4)(c:0<=b/\b<10):-30<=a*b/\a*b<=30:=by
 obtain rfl|rfl|rfl|rfl|rfl|rfl|rfl:a=-3\/a=-2\/a=-1\/a=0\/a=1\/a=2\/a=3:=by omega
 all_goals omega
theorem QjM{t:List Nat}(c:∀x∈t,x<10){l:List (Int×Int)}(a:∀x∈l,-4<x.2/\x.2<4):∀i,i<=l.length->-30*(i:Int)<=gkV t (l.take i)/\gkV t (l.take i)<=30*(i:Int)
 |0,_=>by simp[gkV]|i+1,hi=>by
  obtain⟨x,b⟩:=Qav (l:=l) (i:=i) (by omega);rw[Qlz b];have h1:=QjM c a i (by omega);have d:(0:Int)<=(t.getD x.1.toNat 0:Int)/\(t.getD x.1.toNat 0:Int)<10:=by
   refine⟨by omega,?_⟩;rcases Nat.lt_or_ge x.1.toNat t.length with h|h;·have :=c (t.getD x.1.toNat 0) (by rw[List.getD_eq_getElem?_getD,List.getElem?_eq_getElem h];exact List.getElem_mem h);omega
   rw[List.getD_eq_getElem?_getD,List.getElem?_eq_none h];decide
  have f:=Qm4 (a x (List.mem_of_getElem? b)) d;omega
structure KOk(t:List Nat)(k:Con):Prop where
 kl:k.2.1.length<=1000
 kt:∀x∈t,x<10
 kc:∀x∈k.2.1,(0<=x.1/\x.1<(t.length:Int))/\-4<x.2/\x.2<4
theorem _root_.Go.AM.au23{p:Prop}(h:p:=by repeat(first|exact RT.nil|(refine RT.cons ?_ ?_;·(first|exact Rn.any|exact Rn.x1 rfl rfl|exact Rn.x2 rfl rfl|exact Rn.x3 rfl rfl|exact Rn.x4 rfl rfl|exact Rn.x5 rfl|exact Rn.x6 rfl|exact Rn.x7 rfl|(refine Rn.slot ?_ ?_;(first|rfl|(rw[Int.natCast_add];rfl));(first|rfl|(simp only[noRef,noRefs,Qah,Bool.and_self,Bool.and_true,Bool.true_and,Qab,Qap,Qaa,Qbe,QbE,QbH];done)))|(refine Rn.fn ?_ ?_<;>(repeat'(first|exact RnL.nil|refine RnL.cons ?_ ?_|exact Rn.same rfl|exact Rn.x6 rfl|exact Rn.x2 rfl rfl|exact Rn.x5 rfl|exact Rn.x1 rfl rfl))))))):p:=h
theorem _root_.Go.AM.au24{p:Prop}(h:p:=by repeat'(first|exact RB.nil|(refine RnL.same ?_;first|rfl|(simp only[noRef,noRefs,Qah,Bool.and_self,Bool.and_true,Bool.true_and,Qab,Qap,Qaa,Qbe,QbE,QbH];done))|exact RnM.keyM rfl|exact RnL.nil|exact(True.intro:RnM _ _ _ [] [])|refine RnL.cons ?_ ?_|(refine Rn.same ?_;first|rfl|(simp only[noRef,noRefs,Qah,Bool.and_self,Bool.and_true,Bool.true_and,Qab,Qap,Qaa,Qbe,QbE,QbH];done))|exact Rn.x1 rfl rfl|exact Rn.x2 rfl rfl|exact Rn.x3 rfl rfl|exact Rn.x4 rfl rfl|exact Rn.x5 rfl|exact Rn.x6 rfl|exact Rn.x7 rfl|refine RB.newnil rfl rfl ?_|refine RB.cells rfl rfl rfl ?_ ?_|refine RB.map rfl rfl rfl ?_ ?_|refine RB.cellsB rfl rfl ?_ ?_|refine RB.mapB rfl rfl ?_ ?_)):p:=h
theorem gvalue264(t:List Nat)(k:Con)(a:KOk t k):PSpec Tryz.prog 159 [.agg (coZ k),sliN t] (.int .i64 (gkV t k.2.1)):=by
 have g:noRefs (coZ k)=true:=by simp only[coZ,noRefs,noRef,QbH];rfl
 refine PSpec.QaB 64 TQ.ok159 rfl (by rw[noRefs,noRefs,Qaa,noRef,g];rfl) rfl ?_;have u:=Qc9 k.2.1;have j:=a.kl;have l:=QjM a.kt fun x f=>(a.kc x f).2;show wS _ _ _ _ _ (argT 0 [.agg [.str k.1,prs k.2.1,.int .i64 k.2.2],sliN t]) _ _;simp(disch:=first|omega|exact PairsOK.mk rfl|(simp only[lenW]<;>omega))only[TQ.s159,Qac,Qad,Qae,wW,wV,simprocAttr];refine Qay 100 (fun i:Nat=>[(1,sliN t),(5,.int .i64 (gkV t (k.2.1.take i))),(9,prs k.2.1),(10,.int .i64 k.2.1.length),(11,.int .i64 i)]) (fun _=>[]) (fun i=>i<=k.2.1.length) (fun i=>k.2.1.length-i) 0 0 160 (fun _:Unit=>[(5,.int .i64 (gkV t k.2.1))]) (fun _=>[]) (fun _=>True) ?_ (Nat.zero_le _) ?_ ?_;·exact⟨[],rfl,RO.zero,RB.nil,RT.cons (Rn.same (Qaa _)) (RT.cons (Rn.same rfl) (RT.cons (Rn.same (Qbp _)) au23))⟩
 ·rintro i hi;by_cases b:i<k.2.1.length
  ·obtain⟨x,f⟩:=Qav b;obtain⟨h1,s⟩:=a.kc x (List.mem_of_getElem? f);have j:=a.kl;obtain⟨x1,x2⟩:=x;obtain⟨q,rfl⟩:∃q:Nat,x1=(q:Int):=⟨x1.toNat,by have:=h1.1;dsimp only at this;omega⟩;have h1:q<t.length:=by have:=h1.2;dsimp only at this;omega
   dsimp only at s;obtain⟨y,o⟩:=Qav h1;have v:=a.kt y (List.mem_of_getElem? o);have p:t.getD q 0=y:=by rw[List.getD_eq_getElem?_getD,o];rfl
   have c:=QeJ f;have h:2<=((k.2.1.flatMap prZ).drop (i*2)).length:=by rw[c];simp
   have d:=Qlz (t:=t) f;rw[Int.toNat_natCast,p]at d;have hp:=Qm4 s (b:=(y:Int)) ⟨by omega,by omega⟩;have w:=l i hi;have r:wr .i64 (x2*(y:Int))=x2*(y:Int):=QfF (by omega) (by omega);have m:wr .i64 (gkV t (k.2.1.take i)+x2*(y:Int))=gkV t (k.2.1.take i)+x2*(y:Int):=QfF (by omega) (by omega);simp(disch:=first|omega|exact PairsOK.mk rfl|(simp only[lenW]<;>omega))only[b,c,h,h1,QaW o,r,m,Qac,Qad,Qae,wW,wV,simprocAttr];refine⟨i+1,by omega,by omega,?_⟩;rw[d];exact⟨[],rfl,RO.zero,RB.nil,RT.cons (Rn.same (Qaa _)) (RT.cons (Rn.same rfl) (RT.cons (Rn.same (Qbp _)) au23))⟩
  have e:i=k.2.1.length:=by omega
  subst e;simp(disch:=first|omega|exact PairsOK.mk rfl|(simp only[lenW]<;>omega))only[b,List.take_length,Qac,Qad,Qae,wW,wV,simprocAttr];exact⟨(),⟨[],rfl,au0,au24,au23⟩⟩
 rintro _ _;simp(disch:=first|omega|exact PairsOK.mk rfl|(simp only[lenW]<;>omega))only[Qac,Qad,Qae,wW,wV,simprocAttr];exact⟨.inr trivial,_,rfl,rfl⟩
def gkQ(t:List Nat)(k:Con):Bool:=decide (k.2.2<gkV t k.2.1)
theorem gexcd263(t:List Nat)(k:Con)(b:KOk t k):PSpec Tryz.prog 158 [sliN t,.fptr (coZ k)] (.bool (gkQ t k)):=by
 have a:noRefs (coZ k)=true:=by simp only[coZ,noRefs,noRef,QbH];rfl
 refine PSpec.QaB 64 TQ.ok158 rfl (by rw[noRefs,noRefs,Qaa,noRef,a];rfl) rfl ?_;have c:=gvalue264 t k b;show wS _ _ _ _ _ (argT 0 [sliN t,.fptr [.str k.1,prs k.2.1,.int .i64 k.2.2]]) _ _;unfold gkQ;simp(disch:=first|omega|exact PairsOK.mk rfl|(simp only[lenW]<;>omega))only[TQ.s158,Qac,Qad,Qae,wW,wV,simprocAttr];refine cp c ?_;simp(disch:=first|omega|exact PairsOK.mk rfl|(simp only[lenW]<;>omega))only[Qac,Qad,Qae,wW,wV,simprocAttr];exact⟨.inr trivial,_,rfl,rfl⟩
def gcF(k:Con):AV:=.fn 158 [] [.fptr (coZ k)]
abbrev gcL(l:List Con):AV:=.fsl (l.map gcF) l.length 1
theorem QcW(k:Con):noRef (gcF k)=true:=by simp only[gcF,coZ,noRef,noRefs,QbH];rfl
theorem QcX(l:List Con):noRef (gcL l)=true:=by rw[gcL,noRef];exact Qax QcW _
theorem Qq1{l:List Con}{i:Nat}{x:Con}(h:l[i]?=some x):((l.map gcF).drop i).head?=some (gcF x):=by rw[List.head?_drop,List.getElem?_map,h];rfl
theorem gindex218{K:Nat}{cap:List AV}(q:Con->Bool)(l:List Con)(s:l.length<=1000000)(hc:noRefs cap=true)(hk:∀x∈l,PSpec Tryz.prog K (gcF x::cap) (.bool (q x))):PSpec Tryz.prog 120 [gcL l,.fn K [] cap] (.int .i64 (idxQ q l)):=by
 refine PSpec.QaB 64 TQ.ok120 rfl (by rw[noRefs,noRefs,QbG hc,(QcX _)];rfl) rfl ?_;have c:=QbG (K:=K) hc;have o:=(show(l.map gcF).length=l.length*1 by simp);simp(disch:=first|omega|exact PairsOK.mk rfl|(simp only[lenW]<;>omega))only[TQ.s120,Qac,Qad,Qae,wW,wV,simprocAttr];refine Qbh 100 (fun i:Nat=>[(0,gcL l),(1,.fn K [] cap),(7,.int .i64 l.length),(8,.int .i64 i)]) (fun _=>[]) (fun i=>i<=l.length/\∀(j:Nat)y,j<i->l[j]?=some y->q y=false) (fun i=>l.length-i) 0 ?_ ⟨Nat.zero_le _,fun j y k=>absurd k (Nat.not_lt_zero _)⟩ ?_;·exact⟨[],rfl,RO.zero,RB.nil,RT.cons (Rn.same (QcX _)) (RT.cons (Rn.same c) (RT.cons (Rn.same rfl) (RT.cons (Rn.same rfl) RT.nil)))⟩
 rintro i⟨hi,m⟩;by_cases a:i<l.length
 ·obtain⟨x,b⟩:=Qav a;have h:=hk x (List.mem_of_getElem? b);have d:=Qq1 b;have f:1<=(List.drop (i*1) (l.map gcF)).length:=by rw[List.length_drop,o];omega
  cases g:q x
  ·rw[g]at h;simp(disch:=first|omega|exact PairsOK.mk rfl|(simp only[lenW]<;>omega))only[a,d,f,List.head?_cons,Qac,Qad,Qae,wW,wV,simprocAttr];refine⟨_,by simpa using h,?_⟩;simp(disch:=first|omega|exact PairsOK.mk rfl|(simp only[lenW]<;>omega))only[Qac,Qad,Qae,wW,wV,simprocAttr];refine⟨i+1,by omega,⟨by omega,fun j y k p=>?_⟩,?_⟩
   ·by_cases e:j=i;·subst e;rw[b]at p;cases p;exact g
    exact m j y (by omega) p
   exact⟨[],rfl,RO.zero,RB.nil,RT.cons (Rn.same (QcX _)) (RT.cons (Rn.same c) (RT.cons (Rn.same rfl) (RT.cons (Rn.same rfl) RT.nil)))⟩
  rw[g]at h;simp(disch:=first|omega|exact PairsOK.mk rfl|(simp only[lenW]<;>omega))only[a,d,f,List.head?_cons,Qac,Qad,Qae,wW,wV,simprocAttr];refine⟨_,by simpa using h,?_⟩;simp(disch:=first|omega|exact PairsOK.mk rfl|(simp only[lenW]<;>omega))only[Qac,Qad,Qae,wW,wV,simprocAttr];refine⟨.inr trivial,_,rfl,?_⟩;rw[Qgf b g m];rfl
 simp(disch:=first|omega|exact PairsOK.mk rfl|(simp only[lenW]<;>omega))only[a,Qac,Qad,Qae,wW,wV,simprocAttr];refine⟨.inr trivial,_,rfl,?_⟩;rw[Qem fun x b=>by obtain⟨j,k,r⟩:=List.getElem_of_mem b;exact m j x (by omega) (by rw[List.getElem?_eq_getElem k,r])];rfl
structure GOkT(S:List Int)(t:List Nat)(ks:List Con):Prop where
 ln:t.length=S.length
 l3:t.length<=1000
 lt:∀(i:Nat)x n,t[i]?=some x->S[i]?=some n->(x:Int)<n
 kl:∀k∈ks,KOk t k
 kn:ks.length<=1000
variable{S:List Int}{t:List Nat}{ks:List Con}
theorem gcall219(h:GOkT S t ks){y:Con}(a:y∈ks):PSpec Tryz.prog 121 [gcF y,.fptr [sliN t]] (.bool (gkQ t y)):=by refine PSpec.QaB 64 TQ.ok121 rfl (by rw[noRefs,QcW,noRefs];simp only[noRefs,noRef,Qab];rfl) rfl ?_;have hc:=gexcd263 t y (h.kl y a);simp(disch:=first|omega|exact PairsOK.mk rfl|(simp only[lenW]<;>omega))only[TQ.s121,gcF,Qac,Qad,Qae,wW,wV,simprocAttr];refine⟨_,by simpa using hc,?_⟩;simp(disch:=first|omega|exact PairsOK.mk rfl|(simp only[lenW]<;>omega))only[Qac,Qad,Qae,wW,wV,simprocAttr];exact⟨.inr trivial,_,rfl,rfl⟩
theorem gviolated171(h:GOkT S t ks):PSpec Tryz.prog 79 [gcL ks,sliN t] (.int .i64 (idxQ (gkQ t) ks)):=by have a:=QcX ks;refine PSpec.QaB 64 TQ.ok79 rfl (by rw[noRefs,a,noRefs,Qaa];rfl) rfl ?_;have c:=gindex218 (K:=121) (cap:=[.fptr [sliN t]]) (gkQ t) ks (by have:=h.kn;omega) (by simp only[noRefs,noRef,Qab];rfl) fun x b=>gcall219 h b;simp(disch:=first|omega|exact PairsOK.mk rfl|(simp only[lenW]<;>omega))only[TQ.s79,Qac,Qad,Qae,wW,wV,simprocAttr];refine SU.chc (HSpec.lend (FrzL.cons (FrzTo.same _) (FrzL.cons (FrzTo.fn FrzL.nil (FrzL.cons (FrzTo.ptr (g:=0) (cs:=[sliN t]) gg (FrzL.same _)) FrzL.nil)) FrzL.nil)) c rfl) ?_;simp(disch:=first|omega|exact PairsOK.mk rfl|(simp only[lenW]<;>omega))only[Qac,Qad,Qae,wW,wV,simprocAttr];exact⟨.inr trivial,_,rfl,rfl⟩
theorem gmk221(k:Con):PSpec Tryz.prog 123 [.agg (coZ k)] (gcF k):=by
 have a:noRefs (coZ k)=true:=by simp only[coZ,noRefs,noRef,QbH];rfl
 refine PSpec.of_rn 64 TQ.ok123 rfl (by rw[noRefs,noRef,a];rfl) (QcW _) ?_;show wS _ _ _ _ _ (argT 0 [.agg [.str k.1,prs k.2.1,.int .i64 k.2.2]]) _ _;simp(disch:=first|omega|exact PairsOK.mk rfl|(simp only[lenW]<;>omega))only[TQ.s123,Qac,Qad,Qae,wW,wV,simprocAttr];refine⟨.inr trivial,_,rfl,?_⟩;exact Rn.fn RnL.nil (RnL.cons (Rn.frzp (b:=64) (g:=0) rfl (Nat.zero_le _) (fun c b _ e=>by simp[π0]at e) (by simp) (RnL.same a)) RnL.nil)
theorem Qpi(x:Con):(gcF x).cells=[gcF x]:=rfl
theorem Qq2(x:Con):(gcF x).one=true:=rfl
theorem Qq3(x:Con):(gcF x).boxable=true:=rfl
theorem gconds172(hk:ks.length<=1000):PSpec Tryz.prog 80 [cdZ S [] ks] (gcL ks):=by
 have b:=@QbZ S [] ks;refine PSpec.of_rn 64 TQ.ok80 rfl (by rw[noRefs,noRef,b];rfl) (QcX _) ?_;have j:=QeK ks;show wS _ _ _ _ _ (argT 0 [.agg [sli S,exsZ [],cosZ ks]]) _ _;simp(disch:=first|omega|exact PairsOK.mk rfl|(simp only[lenW]<;>omega))only[TQ.s80,Qac,Qad,Qae,wW,wV,simprocAttr];refine Qoo (Qop ?_);simp(disch:=first|omega|exact PairsOK.mk rfl|(simp only[lenW]<;>omega))only[Qac,Qad,Qae,wW,wV,simprocAttr];refine Qay 200 (fun i:Nat=>[(3,.sl 60 0 0 i 1),(22,cosZ ks),(23,.int .i64 ks.length),(24,.int .i64 i)]) (fun i=>[(60,.cells 0 ((ks.take i).map gcF))]) (fun i=>i<=ks.length) (fun i=>ks.length-i) 0 2 260 (fun _:Unit=>[(3,gcL ks)]) (fun _=>[]) (fun _=>True) ⟨[(60,.nil)],rfl,au0,?_,au23⟩ (Nat.zero_le _) ?_ ?_;·exact RB.newnil rfl rfl RB.nil
 ·rintro i hi;by_cases a:i<ks.length
  ·obtain⟨k,hk⟩:=Qav a;have c:=Qfc hk;have g:3<=((ks.flatMap coZ).drop (i*3)).length:=by rw[c];simp
   have f:((ks.take i).map gcF).length=i:=by rw[List.length_map,List.length_take];omega
   have hm:=gmk221 k;have hc:=Qpi k;have ho:=Qq2 k;have l:=Qq3 k;have h:(ks.take (i+1)).map gcF=(ks.take i).map gcF++[gcF k]:=by rw[take_succ' hk,List.map_append];rfl
   have d:=QcW k;unfold coZ at hm;generalize gcF k=F at*;simp(disch:=first|omega|exact PairsOK.mk rfl|(simp only[lenW]<;>omega))only[a,c,g,Qac,Qad,Qae,wW,wV,simprocAttr];refine cp hm ?_;simp(disch:=first|omega|exact PairsOK.mk rfl|(simp only[lenW]<;>omega))only[hc,ho,l,f,d,Qac,Qad,Qae,wW,wV,simprocAttr];refine⟨i+1,by omega,by omega,?_⟩;rw[h];refine⟨[(60,.blk 60 1)],rfl,au0,?_,au23⟩;exact RB.cells rfl rfl gg (RnL.same (QaX (Qax QcW _) (by rw[noRefs,d];rfl))) RB.nil
  have e:i=ks.length:=by omega
  subst e;simp(disch:=first|omega|exact PairsOK.mk rfl|(simp only[lenW]<;>omega))only[a,List.take_length,Qac,Qad,Qae,wW,wV,simprocAttr];exact⟨(),[],rfl,RO.zero,RB.nil,RT.cons (Rn.fzm (b:=60) (g:=0) gg rfl rfl rfl (by rw[List.length_map];simp) (RnL.same (Qax QcW _))) RT.nil⟩
 rintro _ _;simp(disch:=first|omega|exact PairsOK.mk rfl|(simp only[lenW]<;>omega))only[Qac,Qad,Qae,wW,wV,simprocAttr];exact⟨.inr trivial,_,rfl,Rn.same (QcX _)⟩
theorem gcheck217(h:GOkT S t ks):PSpec Tryz.prog 119 [cdZ S [] ks,sliN t] (.int .i64 0):=by
 have a:=@QbZ S [] ks;refine PSpec.QaB 64 TQ.ok119 rfl (by rw[noRefs,noRef,a,noRefs,Qaa];rfl) rfl ?_;have k:=h.l3;have c:(t.length=S.length)=True:=eq_true h.ln;have f:((t.length:Int)=(S.length:Int))=True:=eq_true (by rw[h.ln]);show wS _ _ _ _ _ (argT 0 [.agg [sli S,exsZ [],cosZ ks],sliN t]) _ _;simp(disch:=first|omega|exact PairsOK.mk rfl|(simp only[lenW]<;>omega))only[TQ.s119,c,f,Qac,Qad,Qae,wW,wV,simprocAttr];refine Qay 100 (fun i:Nat=>[(2,.ptr 51 0 0),(13,sliN t),(14,.int .i64 t.length),(15,.int .i64 i)]) (fun _=>[(51,.cells 0 [sli S,exsZ [],cosZ ks])]) (fun i=>i<=t.length) (fun i=>t.length-i) 0 0 160 (fun _:Unit=>[]) (fun _=>[]) (fun _=>True) ?_ (Nat.zero_le _) ?_ ?_;·refine⟨[(51,.blk 64 0)],rfl,au0,?_,au23⟩;exact RB.cells rfl rfl gg (RnL.same a) RB.nil
 ·rintro i hi;by_cases b:i<t.length
  ·obtain⟨x,g⟩:=Qav b;obtain⟨n,j⟩:=Qav (l:=S) (i:=i) (by rw[<-h.ln];exact b);have d:i<S.length:=by rw[<-h.ln];exact b
   have l:=h.lt i x n g j;have g1:¬(x:Int)<0:=by omega
   have g2:¬(n:Int)<=(x:Int):=by omega
   simp(disch:=first|omega|exact PairsOK.mk rfl|(simp only[lenW]<;>omega))only[b,d,QaW g,QaT j,g1,g2,Qac,Qad,Qae,wW,wV,simprocAttr];refine⟨i+1,by omega,by omega,?_⟩;refine⟨[(51,.blk 51 0)],rfl,au0,?_,au23⟩;exact RB.cells rfl rfl gg (RnL.same a) RB.nil
  simp(disch:=first|omega|exact PairsOK.mk rfl|(simp only[lenW]<;>omega))only[b,Qac,Qad,Qae,wW,wV,simprocAttr];exact⟨(),⟨[],rfl,au0,au24,au23⟩⟩
 rintro _ _;simp(disch:=first|omega|exact PairsOK.mk rfl|(simp only[lenW]<;>omega))only[Qac,Qad,Qae,wW,wV,simprocAttr];exact⟨.inr trivial,_,rfl,rfl⟩
def vioG(t:List Nat)(ks:List Con):Int×Int×Bool:=if idxQ (gkQ t) ks<0 then(0,0,false)else(2,idxQ (gkQ t) ks,true)
theorem gviolated116(h:GOkT S t ks)(c:PSpec Tryz.prog 62 [cdZ S [] ks] (.int .i64 0)):PSpec Tryz.prog 44 [cdZ S [] ks,sliN t] (.tup [.int .i64 (vioG t ks).1,.int .i64 (vioG t ks).2.1,.bool (vioG t ks).2.2,.int .i64 0]):=by
 have b:=@QbZ S [] ks;have h1:PSpec Tryz.prog 78 [cdZ S [] ks,sliN t] (.int .i64 0):=by refine PSpec.QaB 64 TQ.ok78 rfl (by rw[noRefs,noRef,b,noRefs,Qaa];rfl) rfl ?_;have d:=gcheck217 h;show wS _ _ _ _ _ (argT 0 [.agg [sli S,exsZ [],cosZ ks],sliN t]) _ _;simp(disch:=first|omega|exact PairsOK.mk rfl|(simp only[lenW]<;>omega))only[TQ.s78,Qac,Qad,Qae,wW,wV,simprocAttr];refine cp c ?_;simp(disch:=first|omega|exact PairsOK.mk rfl|(simp only[lenW]<;>omega))only[Qac,Qad,Qae,wW,wV,simprocAttr];refine cp d ?_;simp(disch:=first|omega|exact PairsOK.mk rfl|(simp only[lenW]<;>omega))only[Qac,Qad,Qae,wW,wV,simprocAttr];exact⟨.inr trivial,_,rfl,rfl⟩
 refine PSpec.QaB 64 TQ.ok44 rfl (by rw[noRefs,noRef,b,noRefs,Qaa];rfl) rfl ?_;have d:=gconds172 (S:=S) h.kn;have j:=gviolated171 h;have hle:=@Qht _ (gkQ t) ks;have g:=h.kn;unfold vioG;generalize idxQ (gkQ t) ks=a at*;show wS _ _ _ _ _ (argT 0 [.agg [sli S,exsZ [],cosZ ks],sliN t]) _ _;simp(disch:=first|omega|exact PairsOK.mk rfl|(simp only[lenW]<;>omega))only[TQ.s44,Qac,Qad,Qae,wW,wV,simprocAttr];refine cp h1 ?_;simp(disch:=first|omega|exact PairsOK.mk rfl|(simp only[lenW]<;>omega))only[Qac,Qad,Qae,wW,wV,simprocAttr];refine cp d ?_;simp(disch:=first|omega|exact PairsOK.mk rfl|(simp only[lenW]<;>omega))only[Qac,Qad,Qae,wW,wV,simprocAttr];refine cp j ?_;by_cases f:a<0;·simp(disch:=first|omega|exact PairsOK.mk rfl|(simp only[lenW]<;>omega))only[f,Qac,Qad,Qae,wW,wV,simprocAttr];exact⟨.inr trivial,_,rfl,rfl⟩
 have hw:wr .i64 (a-0)=a:=by rw[Int.sub_zero];exact QfF (by omega) (by omega)
 have i:¬a<((0:Nat):Int):=by omega
 simp(disch:=first|omega|exact PairsOK.mk rfl|(simp only[lenW]<;>omega))only[f,i,hw,Qac,Qad,Qae,wW,wV,simprocAttr];exact⟨.inr trivial,_,rfl,rfl⟩
end Go.AM.SO
namespace Go.AM.TR
open Go.Proofs
set_option maxHeartbeats 4000000
noncomputable section
def cf:YA.Cf:={most:=.pure,always:=[30,31].map fun k=>(k,.heap)}
def s40:SFn:=by
 refine(?f:YA.Yt Tryz.prog cf 40 [[0,2,3],[8,9,10],[5],[12,13,14,15,11,16,17,18,19,20,21,22],[23],[1,4,5,24,25],[2,3,24,27,28,29,30,31,32,33,34,35,36,26,37,38,39,40,41,42,43],[44],[1,4,5,45,46],[2,3,1,5,45,47,48,49,50,51,52,53,54,55],[56,57,58],[],[62,63,64,65],[6,7,66,67,68,69,70,71,72],[73],[4,59,60,61,74]] [(9,[(4,6)])]) ?s ?h;case h=>exact YA.rr
 exact fun s _=>s
def s81:SFn:=by
 refine(?f:YA.Yt Tryz.prog cf 81 [[2,11,12,13,14,15,16,10,17,18,6],[5],[],[22,23,24],[25,26,27,28],[8,9,29,30,31],[37,38]]) ?s ?h;case h=>exact YA.rr
 exact fun s _=>s
theorem ok40:okFn Tryz.prog 40 s40=true:=by kernel_rfl
theorem ok81:okFn Tryz.prog 81 s81=true:=by kernel_rfl
end
end Go.AM.TR
namespace Go.AM
variable{P:Program}
theorem HRel.give{ok:Okc}{c:Ctx ok}{h:Heap}{w:World}(H:HRel c h w){b g len sz:Nat}{ds:List AV}(F:h.get b=some (.cells g ds))(Q:noRefs ds=true)(T:ds.length=len*sz)(G:Nat.blt b 1099511627775=true):∃c2,Evo c w c2 w/\HRel c2 (h.set b (.dead g)) w/\(∀v,VRel c w (.sl b g 0 len sz) v->VRel c2 w (.fsl ds len sz) v)/\∀x v,noRef x=true->VRel c w x v->VRel c2 w x v:=by
 have j:b<1099511627775:=by simp_all
 have a:Live h b g:=⟨_,F,rfl,fun _=>by simp⟩;let c2:Ctx ok:={c with F:=fun k=>c.F k\/∃base,c.ρ b g=some (.loc k base),O:=fun k=>c.O k/\¬∃base,c.ρ b g=some (.loc k base)};have d:∀k,(h.set b (.dead g)).get k=if k=b then some (.dead g)else h.get k:=fun k=>by
  by_cases e:k=b;·subst e;rw[QaA j,if_pos rfl]
  simp_all[QaE]
 have s:∀k y,Live (h.set b (.dead g)) k y->k≠b/\Live h k y:=by
  rintro k y⟨x,hk,hg,B⟩;rw[d]at hk;split at hk;·grind
  rename_i e;exact⟨e,x,hk,hg,B⟩
 have E:=Evo.refl c w;have E2:Evo c w c2 w:=⟨E.os,E.tape,E.output,E.size,E.shape,E.keep,E.rho,fun k hk=>.inl (E.frz k hk),fun k hk=>by
  rcases hk with hk|⟨base,hk⟩;·simp_all
  exact .inr (.inl (H.owned a hk)),fun k hk=>E.own k hk.1,E.base⟩;refine⟨c2,E2,⟨fun k hk y=>?_,fun k x hk y p=>?_,fun k x hk=>?_,fun k y L U t base i l1 J p1 X=>H.inj k y L U t base i (s _ _ l1).2 (s _ _ J).2 p1 X,fun k f hO=>?_,fun k f=>?_,fun k hO=>H.inO k hO.1⟩,fun v V=>?_,fun x v O Y=>VRel.noRef (c:=c) (c':=c2) (fun _ h=>.inl h) _ _ O Y⟩
 ·rw[d]at hk;split at hk;·cases hk
  exact H.fresh k hk y
 ·rw[d]at hk;split at hk;·rename_i e;subst e;cases hk;exact H.later k _ F y p
  exact H.later k x hk y p
 ·rw[d]at hk;split at hk;·cases hk;trivial
  rename_i e;refine BRel.mono (c:=c) (c':=c2) (w:=w) (w':=w) ⟨fun _ _ _ h=>h,fun _ h=>.inl h,fun _ _ _ h=>h,fun _ C _ I h=>⟨C,I,h,rfl⟩⟩ (fun t base B hp=>?_) (H.blk k x hk);have m:Live h k x.gen:=⟨x,hk,rfl,B⟩;exact⟨⟨H.owned m hp,fun⟨i,u⟩=>e (H.inj _ _ _ _ _ _ _ m a hp u)⟩,rfl⟩
 ·rcases f with f|f;·exact H.disj k f hO.1
  grind
 ·rcases f with f|⟨base,f⟩;·exact H.inF k f
  exact H.inO k (H.owned a f)
 simp only[VRel]at V;rcases V with⟨hp,rfl,_,rfl⟩|⟨t,base,o,cap,C,e,I,hp,rfl,M,Z,r⟩;·simp_all[VRel]
 obtain⟨C',e',N,hO,q,P,R,l⟩:=H.here F hp;rw[Z]at q;cases q;have f:c2.F t:=.inr ⟨base,hp⟩;by_cases S:cap=0
 ·have A:len=0:=by omega
  subst A;have:ds=[]:=List.eq_nil_of_length_eq_zero (by rw[T];simp);subst this;simp only[VRel];simp_all
 obtain⟨rfl,hbd⟩:=r.resolve_left S;have K:=VPre.noRef2 (c:=c) (c':=c2) (fun _ h=>.inl h) Q l;simp only[VRel];grind
theorem HSpec.give1{f b g len sz:Nat}{ds:List AV}{h:Heap}{v:AV}(S:PSpec P f [.fsl ds len sz] v)(j:h.get b=some (.cells g ds))(o:noRefs ds=true)(m:ds.length=len*sz)(d:Nat.blt b 1099511627775=true):HSpec P f [.sl b g 0 len sz] h v (h.set b (.dead g)):=by
 have l:=S;obtain⟨_,_,q,hc,_⟩:=S;refine⟨hc,fun c w a H r=>?_⟩;obtain⟨c2,E2,H2,V2,_⟩:=H.give j o m d;have i:VRels c2 w [.fsl ds len sz] a.toList:=by grind[VRels]
 refine((l.pure H2 i).2).mono ?_;rintro e s⟨k,p,rfl,E,H',V⟩;exact⟨k,p,rfl,E2.trans E,H',V⟩
end Go.AM
namespace Go.AM
variable{P:Program}
def tight(i:Nat)(f:FP):Prop:=f.all=false/\∀b,b∈f.R\/b∈f.W->b∈[i]
def wpRS(P:Program)(z:Nat):Nat->List SOper->Tmps->Heap->(Tmps->Heap->Nat->Prop)->Prop|n,[],T,h,K=>K T h n|n,s::r,T,h,K=>∃v h1 f,StepV P n s T h v h1 f/\(n=z->tight n f)/\wpRS P z (n+1) r (putD T s.dst v) h1 K
theorem QjN{z:Nat}:∀{r:List SOper}{n:Nat}{T:Tmps}{h:Heap}{K:Tmps->Heap->Nat->Prop},z<n->wpR P n r T h K->wpRS P z n r T h K|[],n,T,h,K,_,hk=>hk|s::r,n,T,h,K,c,⟨v,h1,f,a,b⟩=>⟨v,h1,f,a,fun e=>by omega,QjN (by omega) b⟩
theorem Qq4{s:SOper}{K:Tmps->Heap->Nat->Prop}:∀(k:Nat)(r:List SOper)(n:Nat)(T:Tmps)(h:Heap),r[k]?=some s->wpR P n (r.take k) T h (fun T1 h1 d=>∃v a f,StepV P d s T1 h1 v a f/\tight d f/\wpR P (d+1) (r.drop (k+1)) (putD T1 s.dst v) a K)->wpRS P (n+k) n r T h K:=by intro k;induction k with
 |zero=>intro r n T h e hw;cases r with|nil=>cases e|cons t r=>rw[List.getElem?_cons_zero,Option.some.injEq]at e;subst e;rw[List.take_zero]at hw;simp only[wpR]at hw;obtain⟨v,a,f,b,c,g⟩:=hw;rw[List.drop_succ_cons,List.drop_zero]at g;exact⟨v,a,f,b,fun _=>c,QjN (by omega) g⟩
 |succ k i=>intro r n T h e hw;cases r with|nil=>cases e|cons t r=>rw[List.take_succ_cons]at hw;simp only[wpR]at hw;obtain⟨v,h1,f,b,c⟩:=hw;refine⟨v,h1,f,b,fun e=>by omega,?_⟩;rw[show n+(k+1)=n+1+k by omega];exact i r (n+1) _ _ (by simpa using e) c
theorem QlA{z:Nat}:∀{r:List SOper}{n:Nat}{T:Tmps}{h:Heap}{K:Tmps->Heap->Nat->Prop},wpRS P z n r T h K->∃T' h' n',K T' h' n'/\∀d,(∀s∈r,s.dst≠some d)->lk T' d=lk T d|[],n,T,h,K,hk=>⟨T,h,n,hk,fun _ _=>rfl⟩|s::r,n,T,h,K,⟨v,h1,f,c,_,a⟩=>by obtain⟨T',h',n',hk,he⟩:=QlA a;refine⟨T',h',n',hk,fun d b=>?_⟩;simp_all[QbI]
def touch3(z i:Nat)(ax:Opd->Option (List Nat))(s:SOp):Option (List Nat):=bif Nat.beq i z then some [i]else touch2 i ax s
def touchesN(z:Nat)(C:Claims)(n:Nat)(T:Tmps):List SOper->Abs->List (Option (List Nat))|[],_=>[]|s::r,A=>touch3 z n (absO T A) s.op::touchesN z C (n+1) T r (match s.dst with|some d=>(d,absH C d (s.op.absV n (absO T A)))::A|none=>A)
theorem QlB{T0:Tmps}{C:Claims}{z:Nat}:∀{r:List SOper}{n:Nat}{A:Abs}{T:Tmps}{h:Heap}{K:Tmps->Heap->Nat->Prop}(hA:AbsOK T0 A T)(K':List FP->Tmps->Heap->Nat->Prop)(l:∀T h n,K T h n->∀d u,clm C d=some u->Pts (lk T d) u)(a:ssa C r=true),(∀fs T h n',fs.length=r.length->(∀(j:Nat)i,(touchesN z C n T0 r A).getD j none=some i->(fs.getD j ⟨false,[],[]⟩).all=false/\∀b,b∈(fs.getD j ⟨false,[],[]⟩).R\/b∈(fs.getD j ⟨false,[],[]⟩).W->b∈i)->K T h n'->K' fs T h n')->wpRS P z n r T h K->wpRF P n r T h K'
 |[],n,A,T,h,K,hA,K',l,a,p,hw=>p [] T h n rfl (fun j i c=>by simp_all) hw|s::r,n,A,T,h,K,hA,K',l,a,p,hw=>by
  obtain⟨v,h1,f,t,B,w⟩:=hw;simp only[ssa,Bool.and_eq_true]at a;obtain⟨g,m⟩:=a;refine⟨v,h1,f,t,?_⟩;have q:AbsOK T0 (match s.dst with|some d=>(d,absH C d (s.op.absV n (absO T0 A)))::A|none=>A) (putD T s.dst v):=by cases e:s.dst with|none=>exact hA|some d=>
   refine AbsOK.up hA fun u k=>?_;unfold absH at k;split at k
   ·rename_i y hc;cases k;obtain⟨T',F,n',hk,he⟩:=QlA w;have x:=l T' F n' hk d _ hc;rw[he d ?_,QbI,if_pos e]at x;·exact x
    intro E o;rw[e]at g;simp only[hc,Option.isNone_some,Bool.false_or,List.all_eq_true]at g;have:=g E o;intro H;simp_all
   exact QeX hA.opd k t
  refine QlB q (fun fs T h n=>K' (f::fs) T h n) l m (fun fs T h n' G hf hk=>?_) w;refine p (f::fs) T h n' (by simp[G]) (fun j i c=>?_) hk;cases j with
  |zero=>simp only[touchesN,List.getD_cons_zero]at c⊢;unfold touch3 at c;cases e:Nat.beq n z with|true=>rw[e]at c;simp only[cond_true,Option.some.injEq]at c;subst c;exact B (by simpa using e)|false=>rw[e]at c;exact QfP hA.opd c t
  |succ j=>simp only[touchesN,List.getD_cons_succ]at c⊢;exact hf j i c
def NewAt(P:Program)(N:NM)(x:Opd)(ag:List Opd)(d:Option Nat)(r:List SOper)(n:Nat)(T:Tmps)(h:Heap)(Q:QC):Prop:=∃f a len sz,ev T x=.fn f [] []/\NSpec P f (evs T ag) a len sz/\noRefs a=true/\n<lim/\h.get n=none/\wR P N r [] [] (n+1) (putD T d (.sl n 0 0 len sz)) (h.set n (.cells 0 a)) Q
theorem QnI(C:Claims)(k:Nat){x:Opd}{ag:List Opd}{d:Option Nat}{N:NM}{ops:List SOper}{p:Nat×Nat}{u:List (Nat×Nat)}{dead:List Nat}{fs:List Fr}{n:Nat}{T:Tmps}{h:Heap}{Q:QC}{af:List Nat}(hk:ops[k]?=some ⟨d,.call .heap x ag,af,none⟩)(i:ssa C ops=true)(hp:pairsOK (touchesN (n+k) C n T ops []) (p::u)=true)(hw:wR P N (ops.take k) [] [] n T h fun e T h n=>NewAt P N x ag d (ops.drop (k+1)) n T h fun e T h n=>Clms T C/\wX P N .normal fs n (rm T dead) h Q):wS P N (.region ops (p::u) dead) fs n T h Q:=by
 have rm0:∀T:Tmps,rm T []=T:=by intro T;induction T with|nil=>rfl|cons p T m=>obtain⟨j,v⟩:=p;simp[rm,m]
 refine QlB (C:=C) (z:=n+k) (K:=fun T h n=>Clms T C/\wX P N .normal fs n (rm T dead) h Q) AbsOK.nil _ (fun T h n hk d w hc=>hk.1.get d w hc) i (fun O T h V X hf hk=>⟨?_,hk.2⟩) ?_
 ·rw[List.all_eq_true];intro q E;have:=List.all_eq_true.1 hp q E;split at this
  ·rename_i a b F o;obtain⟨f1,f2⟩:=hf _ _ F;obtain⟨g1,g2⟩:=hf _ _ o;have S:∀x y,x∈a->y∈b->x≠y:=by grind
   have U:∀xs g:List Nat,(∀x∈xs,∀y∈g,x≠y)->disj xs g=true:=by intro xs g t;unfold disj;grind
   grind[FP.apart]
  cases this
 refine Qq4 k ops n T h hk ?_;have l:wpR P n (ops.take k) T h fun T h n=>NewAt P N x ag d (ops.drop (k+1)) n (rm T []) h fun e T h n=>Clms T C/\wX P N .normal fs n (rm T dead) h Q:=hw;simp only[rm0]at l;have mono:∀{r:List SOper}{n:Nat}{T:Tmps}{h:Heap}{K K':Tmps->Heap->Nat->Prop},(∀T h n,K T h n->K' T h n)->wpR P n r T h K->wpR P n r T h K':=by intro r;induction r with|nil=>intro n T h K K' hi hw;exact hi _ _ _ hw|cons s r m=>intro n T h K K' hi hw;obtain⟨v,h1,f,A,H⟩:=hw;exact⟨v,h1,f,A,m hi H⟩
 refine mono (fun T1 h1 c t=>?_) l;obtain⟨f,g,len,sz,R,I,L,M,J,G⟩:=t;refine⟨.sl c 0 0 len sz,h1.set c (.cells 0 g),⟨false,[c],[c]⟩,?_,⟨rfl,fun b o=>?_⟩,?_⟩;·refine⟨.call .heap f (evs T1 ag),h1,?_,.inr (.inr (.inl ⟨evs T1 ag,[],.inl ⟨rfl,rfl⟩,.inl ⟨g,len,sz,I,.inr ⟨L,rfl⟩,M,J,rfl,rfl,rfl⟩⟩))⟩;simp_all[aop,aCall,HM.run]
 ·simpa using o
 have B:wpR P (c+1) (ops.drop (k+1)) (putD T1 d (.sl c 0 0 len sz)) (h1.set c (.cells 0 g)) fun T h n=>Clms (rm T []) C/\wX P N .normal fs n (rm (rm T []) dead) h Q:=G;simp_all
end Go.AM
namespace Go.AM.SO
open Go.Proofs Go.AM.SD Go.AM.SE
theorem check112B(a:Aut)(h:WfA a):PSpec Tryz.prog 32 [aV a] (.int .i64 0):=check112 a h (by have:=WfA.el1 h;omega)
theorem QiC{l:List Aut}{ev:List Nat}{T:List (List Nat)}{j:Nat}{t:List Nat}{x:Ed}(h:x∈rowE l ev T j t):x.1=j/\x.2.1∈ev/\∃n,stepT l t x.2.1=some n/\x.2.2=ixT T n:=by unfold rowE at h;obtain⟨e,he,a⟩:=List.mem_filterMap.1 h;cases b:stepT l t e with|none=>rw[b]at a;cases a|some n=>rw[b]at a;simp only[Option.map_some,Option.some.injEq]at a;subst a;exact⟨rfl,he,n,b,rfl⟩
theorem QgY{l:List Aut}{T:List (List Nat)}{j:Nat}{t:List Nat}:∀{ev:List Nat},ev.Pairwise (·<·)->(rowE l ev T j t).Pairwise fun x y=>x.1<y.1\/(x.1=y.1/\x.2.1<y.2.1)|[],_=>by simp[rowE]|e::ev,h=>by rw[List.pairwise_cons]at h;have a:=QgY (l:=l) (T:=T) (j:=j) (t:=t) h.2;unfold rowE at a⊢;rw[List.filterMap_cons];cases d:stepT l t e with|none=>exact a|some n=>simp only[Option.map_some];rw[List.pairwise_cons];refine⟨fun y b=>?_,a⟩;obtain⟨h1,c,_⟩:=QiC (l:=l) (T:=T) (j:=j) (t:=t) (ev:=ev) (by unfold rowE;exact b);exact .inr ⟨h1.symm,h.1 _ c⟩
theorem QgZ{f:Nat->List Ed}(hf:∀j,(f j).Pairwise (fun x y=>x.1<y.1\/(x.1=y.1/\x.2.1<y.2.1))/\∀x∈f j,x.1=j):∀i,((List.range i).flatMap f).Pairwise fun x y=>x.1<y.1\/(x.1=y.1/\x.2.1<y.2.1)|0=>by simp|i+1=>by rw[List.range_succ,List.flatMap_append,List.flatMap_cons,List.flatMap_nil,List.append_nil,List.pairwise_append];refine⟨QgZ hf i,(hf i).1,fun x a y c=>?_⟩;obtain⟨j,b,a⟩:=List.mem_flatMap.1 a;have:=List.mem_range.1 b;rw[(hf j).2 x a,(hf i).2 y c];exact .inl this
theorem out199(a:Aut)(v:Nat)(h:WfA a)(b:v<=100000):PSpec Tryz.prog 125 [aV a,.int .i64 (v:Int)] (egsN (sOut a.es (fun _=>true) v)):=out58 a v h (by have:=WfA.el1 h;omega) (by omega)
end Go.AM.SO
namespace Go.AM.SO
open Go.Proofs Go.AM.SD Go.AM.SE
theorem state207(a:Aut)(v:Nat)(h:WfA a)(b:v<a.n):PSpec Tryz.prog 124 [aV a,.int .i64 (v:Int)] (.int .i64 0):=by
 refine PSpec.QaB 64 TQ.ok124 rfl (by(try simp only[noRefs,Qab,Qal,Qaf,noRef,noRefs,Bool.and_self,Bool.and_true])<;>rfl) rfl ?_;have hc:=check112B a h;have g1:¬(v:Int)<0:=by omega
 have g2:¬(a.n:Int)<=(v:Int):=by omega
 simp(disch:=first|omega|exact PairsOK.mk rfl|(simp only[lenW]<;>omega))only[TQ.s124,Qac,Qad,Qae,wW,wV,simprocAttr];refine cp hc ?_;simp(disch:=first|omega|exact PairsOK.mk rfl|(simp only[lenW]<;>omega))only[g1,g2,Qac,Qad,Qae,wW,wV,simprocAttr];exact⟨.inr trivial,_,rfl,rfl⟩
def evO(a:Aut)(v:Nat):List Nat:=(sOut a.es (fun _=>true) v).map (·.2.1)
theorem _root_.Go.AM.au25{p:Prop}(h:p:=by repeat(first|exact RT.nil|(refine RT.cons ?_ ?_;·(first|exact Rn.any|exact Rn.x1 rfl rfl|exact Rn.x2 rfl rfl|exact Rn.x3 rfl rfl|exact Rn.x4 rfl rfl|exact Rn.x5 rfl|exact Rn.x6 rfl|exact Rn.x7 rfl|(refine Rn.slot ?_ ?_;(first|rfl|(rw[Int.natCast_add];rfl));(first|rfl|(simp only[noRef,noRefs,Qah,Bool.and_self,Bool.and_true,Bool.true_and,Qab,Qap,Qaa,Qak,Qa1,Qaf,SU.QfZ];done)))|(refine Rn.fn ?_ ?_<;>(repeat'(first|exact RnL.nil|refine RnL.cons ?_ ?_|exact Rn.same rfl|exact Rn.x6 rfl|exact Rn.x2 rfl rfl|exact Rn.x5 rfl|exact Rn.x1 rfl rfl))))))):p:=h
theorem enabled161(a:Aut)(v:Nat)(h:WfA a)(k:v<a.n):PSpec Tryz.prog 82 [aV a,.int .i64 (v:Int)] (.tup [sliN (evO a v),.int .i64 0]):=by
 have l:=h.n5;have b:noRef (.tup [sliN (evO a v),.int .i64 0])=true:=by rw[noRef,noRefs,Qaa];rfl
 refine PSpec.of_rn 64 TQ.ok82 rfl (by(try simp only[noRefs,Qab,Qal,Qaf,noRef,noRefs,Bool.and_self,Bool.and_true])<;>rfl) b ?_;have hc:=state207 a v h k;have ho:=out199 a v h (by omega);have j:(sOut a.es (fun _=>true) v).length<=131072:=Nat.le_trans (List.length_filter_le ..) (WfA.el1 h);unfold evO at b⊢;generalize sOut a.es (fun _=>true) v=o at*;simp(disch:=first|omega|exact PairsOK.mk rfl|(simp only[lenW]<;>omega))only[TQ.s82,Qac,Qad,Qae,wW,wV,simprocAttr];refine cp hc ?_;simp(disch:=first|omega|exact PairsOK.mk rfl|(simp only[lenW]<;>omega))only[Qac,Qad,Qae,wW,wV,simprocAttr];refine cp ho ?_;simp(disch:=first|omega|exact PairsOK.mk rfl|(simp only[lenW]<;>omega))only[Qac,Qad,Qae,wW,wV,simprocAttr];refine Qay 120 (fun i:Nat=>[(7,.sl 60 0 0 i 1),(18,egsN o),(19,.int .i64 o.length),(20,.int .i64 i)]) (fun i=>[(60,.cells 0 (ints (nz ((o.take i).map (·.2.1)))))]) (fun i=>i<=o.length) (fun i=>o.length-i) 0 0 180 (fun _:Unit=>[(7,sliN (o.map (·.2.1)))]) (fun _=>[]) (fun _=>True) ?_ (Nat.zero_le _) ?_ ?_;·refine⟨[(60,.nil)],rfl,au0,?_,au25⟩;exact RB.newnil rfl rfl RB.nil
 ·rintro i hi;by_cases c:i<o.length
  ·obtain⟨e,he⟩:=Qav c;have d:=QaZ he;have f:3<=((o.flatMap edC).drop (i*3)).length:=by rw[d];simp
   have g:(ints (nz ((o.take i).map (·.2.1)))).length=i:=by simp[ints];omega
   simp(disch:=first|omega|exact PairsOK.mk rfl|(simp only[lenW]<;>omega))only[c,d,f,g,Qac,Qad,Qae,wW,wV,simprocAttr];refine⟨i+1,by omega,by omega,?_⟩;rw[take_succ' he,List.map_append,QaU,QaK];refine⟨[(60,.blk 60 1)],rfl,au0,?_,au25⟩;exact RB.cells rfl rfl gg (RnL.same (SU.Qa8 (Qab _) rfl)) RB.nil
  have e:i=o.length:=by omega
  subst e;simp(disch:=first|omega|exact PairsOK.mk rfl|(simp only[lenW]<;>omega))only[c,List.take_length,Qac,Qad,Qae,wW,wV,simprocAttr];exact⟨(),[],rfl,RO.zero,RB.nil,RT.cons (Rn.fzm (b:=60) (g:=0) gg rfl rfl (by simp) (by simp[ints]) (RnL.same (Qab _))) RT.nil⟩
 rintro _ _;simp(disch:=first|omega|exact PairsOK.mk rfl|(simp only[lenW]<;>omega))only[Qac,Qad,Qae,wW,wV,simprocAttr];exact⟨.inr trivial,_,rfl,Rn.same b⟩
theorem ev262(x:Ed)(e:Nat):PSpec Tryz.prog 143 [.agg [.int .i64 (x.1:Int),.int .i64 (x.2.1:Int),.int .i64 (x.2.2:Int)],.fptr [.int .i64 (e:Int)]] (.bool (decide (x.2.1=e))):=by refine PSpec.QaB 64 TQ.ok143 rfl rfl rfl ?_;have a:decide ((x.2.1:Int)=(e:Int))=decide (x.2.1=e):=decide_eq_decide.2 (by omega);simp(disch:=first|omega|exact PairsOK.mk rfl|(simp only[lenW]<;>omega))only[TQ.s143,a,Qac,Qad,Qae,wW,wV,simprocAttr];exact⟨.inr trivial,_,rfl,rfl⟩
theorem QlC{α:Type}{q:α->Bool}:∀l:List α,l.find? q=l[l.findIdx q]?|[]=>rfl|x::l=>by rw[List.find?_cons,List.findIdx_cons];cases q x with|true=>rfl|false=>simpa using QlC l
def nxI(a:Aut)(v e:Nat):Int:=match stepA a.es v e with|some t=>(t:Int)|none=>-1
theorem Qpj(es:List Ed)(v e:Nat):stepA es v e=((sOut es (fun _=>true) v).find? fun x=>decide (x.2.1=e)).map (·.2.2):=by unfold stepA sOut;rw[List.find?_filter];congr 2;funext x;by_cases h:x.2.1=e<;>by_cases a:x.1=v<;>simp[h,a]
theorem next226(a:Aut)(v e:Nat)(h:WfA a)(p:v<a.n):PSpec Tryz.prog 105 [aV a,.int .i64 (v:Int),.int .i64 (e:Int)] (.int .i64 (nxI a v e)):=by
 have q:=h.n5;refine PSpec.QaB 64 TQ.ok105 rfl (by(try simp only[noRefs,Qab,Qal,Qaf,noRef,noRefs,Bool.and_self,Bool.and_true])<;>rfl) rfl ?_;have ho:=out199 a v h (by omega);have g:(sOut a.es (fun _=>true) v).length<=131072:=Nat.le_trans (List.length_filter_le ..) (WfA.el1 h);have l:=index48 (K:=143) (cap:=[.fptr [.int .i64 (e:Int)]]) (fun x=>decide (x.2.1=e)) (sOut a.es (fun _=>true) v) (by omega) rfl fun x _=>ev262 x e;unfold nxI;rw[Qpj];generalize sOut a.es (fun _=>true) v=o at*;rw[QlC];have r:=@Qht _ (fun x:Ed=>decide (x.2.1=e)) o;have m:idxQ (fun x:Ed=>decide (x.2.1=e)) o=-1/\o[o.findIdx fun x=>decide (x.2.1=e)]?=none\/∃y,idxQ (fun x:Ed=>decide (x.2.1=e)) o=((o.findIdx fun x=>decide (x.2.1=e):Nat):Int)/\o[o.findIdx fun x=>decide (x.2.1=e)]?=some y:=by
  unfold idxQ;by_cases c:o.any (fun x=>decide (x.2.1=e))=true;·rw[if_pos c];obtain⟨y,j⟩:=Qav (List.findIdx_lt_length_of_exists (p:=fun x:Ed=>decide (x.2.1=e)) (xs:=o) (by simpa using c));exact .inr ⟨y,rfl,j⟩
  rw[if_neg c];refine .inl ⟨rfl,List.getElem?_eq_none (Nat.le_of_not_lt fun b=>c ?_)⟩;rw[List.any_eq_true];exact⟨_,List.getElem_mem b,List.findIdx_getElem (w:=b)⟩
 generalize(o.findIdx fun x=>decide (x.2.1=e))=k at*;generalize idxQ (fun x:Ed=>decide (x.2.1=e)) o=i at*;simp(disch:=first|omega|exact PairsOK.mk rfl|(simp only[lenW]<;>omega))only[TQ.s105,Qac,Qad,Qae,wW,wV,simprocAttr];refine cp ho ?_;simp(disch:=first|omega|exact PairsOK.mk rfl|(simp only[lenW]<;>omega))only[Qac,Qad,Qae,wW,wV,simprocAttr];refine SU.chc (HSpec.lend (FrzL.cons (FrzTo.same _) (FrzL.cons (FrzTo.fn FrzL.nil (FrzL.cons (FrzTo.ptr (g:=0) (cs:=[.int .i64 (e:Int)]) gg (FrzL.same _)) FrzL.nil)) FrzL.nil)) l rfl) ?_;rcases m with⟨rfl,hk⟩|⟨y,rfl,hk⟩;·simp(disch:=first|omega|exact PairsOK.mk rfl|(simp only[lenW]<;>omega))only[Qac,Qad,Qae,wW,wV,simprocAttr];rw[hk];exact⟨.inr trivial,_,rfl,rfl⟩
 have f:k<o.length:=(List.getElem?_eq_some_iff.1 hk).1;have g1:¬(k:Int)<0:=by omega
 have d:=QaZ hk;simp(disch:=first|omega|exact PairsOK.mk rfl|(simp only[lenW]<;>omega))only[g1,f,d,Qac,Qad,Qae,wW,wV,simprocAttr];rw[hk];exact⟨.inr trivial,_,rfl,rfl⟩
theorem step208(a:Aut)(v e:Nat)(h:WfA a)(c:v<a.n)(he:e∈a.al):PSpec Tryz.prog 126 [aV a,.int .i64 (v:Int),.int .i64 (e:Int)] (.tup [.int .i64 (((stepA a.es v e).getD 0:Nat):Int),.bool (stepA a.es v e).isSome,.int .i64 0]):=by refine PSpec.QaB 64 TQ.ok126 rfl (by(try simp only[noRefs,Qab,Qal,Qaf,noRef,noRefs,Bool.and_self,Bool.and_true])<;>rfl) rfl ?_;have f:=QbD h.al h.al5;have hc:=state207 a v h c;have d:=contains62 (nz a.al) (e:Int) (by simp;omega);have hm:decide ((e:Int)∈nz a.al)=true:=decide_eq_true (List.mem_map.2 ⟨e,he,rfl⟩);rw[hm,Qcl]at d;have b:=next226 a v e h c;unfold nxI at b;simp(disch:=first|omega|exact PairsOK.mk rfl|(simp only[lenW]<;>omega))only[TQ.s126,Qac,Qad,Qae,wW,wV,simprocAttr];refine cp hc ?_;simp(disch:=first|omega|exact PairsOK.mk rfl|(simp only[lenW]<;>omega))only[Qac,Qad,Qae,wW,wV,simprocAttr];refine cp d ?_;simp(disch:=first|omega|exact PairsOK.mk rfl|(simp only[lenW]<;>omega))only[Qac,Qad,Qae,wW,wV,simprocAttr];refine cp b ?_;cases i:stepA a.es v e with|none=>simp(disch:=first|omega|exact PairsOK.mk rfl|(simp only[lenW]<;>omega))only[Qac,Qad,Qae,wW,wV,simprocAttr];exact⟨.inr trivial,_,rfl,rfl⟩|some t=>
 have g:(0:Int)<=(t:Int):=by omega
 simp(disch:=first|omega|exact PairsOK.mk rfl|(simp only[lenW]<;>omega))only[g,Qac,Qad,Qae,wW,wV,simprocAttr];exact⟨.inr trivial,_,rfl,rfl⟩
end Go.AM.SO
namespace Go.AM.SO
open Go.Proofs Go.AM.SD Go.AM.SE
theorem Qq5{l:List Aut}{Q:List Nat->Prop}{i e:Nat}{t:List Nat}{s:List (List Nat)×List Ed}(a:∀n,stepT l t e=some n->Q n)(h:∀x∈s.1,Q x):∀x∈(pEv l i t s e).1,Q x:=by grind[pEv]
theorem QlD{l:List Aut}{Q:List Nat->Prop}{i:Nat}{t:List Nat}:∀{ev:List Nat}{s:List (List Nat)×List Ed},(∀e∈ev,∀n,stepT l t e=some n->Q n)->(∀x∈s.1,Q x)->∀x∈(pRow l ev i t s).1,Q x|[],s,_,h=>h|e::ev,s,b,h=>QlD (ev:=ev) (s:=pEv l i t s e) (fun c a=>b c (by simp[a])) (Qq5 (fun n=>b e (by simp) n) h)
theorem Qpk{l:List Aut}{ev:List Nat}{Q:List Nat->Prop}(a:∀t,Q t->∀e∈ev,∀n,stepT l t e=some n->Q n):∀{k i:Nat}{s:List (List Nat)×List Ed},(∀x∈s.1,Q x)->∀x∈(pQ l ev k i s).1,Q x|0,_,_,h=>h|k+1,i,s,h=>by unfold pQ;cases b:s.1[i]? with|none=>exact h|some t=>exact Qpk a (QlD (a t (h t (List.mem_of_getElem? b))) h)
theorem QnJ{A B:List Aut}{t n:List Nat}{e:Nat}(b:(A++B).length<=t.length)(h:stepT (A++B) t e=some n):stepT A (t.take A.length) e=some (n.take A.length):=by
 obtain⟨h1,g,c⟩:=(Qe7 b).1 h;rw[List.length_append]at b;refine(Qe7 (by grind)).2 ⟨by simp_all,fun i hi=>?_,fun i a hi d=>?_⟩;·grind
 have f:=c i a (by grind) (by grind);simp_all
theorem Qqc{A B:List Aut}{t:List Nat}(h:InT (A++B) t):InT A (t.take A.length):=by refine⟨by rw[List.length_take,h.1,List.length_append];omega,fun i a b=>?_⟩;have hi:i<A.length:=(List.getElem?_eq_some_iff.1 b).1;have:=h.2 i a (by grind);simp_all
theorem Qqd{A B:List Aut}{t:List Nat}(h:InT (A++B) t):InT B (t.drop A.length):=by refine⟨by rw[List.length_drop,h.1,List.length_append];omega,fun i a b=>?_⟩;have:=h.2 (A.length+i) a (by grind);simp_all
end Go.AM.SO
namespace Go.AM.SO
open Go.Proofs Go.AM.SD Go.AM.SE
theorem Qff{l:List Aut}(h:∀a∈l,WfJ a)(q:(sync0 l).1.length<=4096):WfA (syncA l):=by
 have hw:∀a∈l,∀e∈a.es,e.1<a.n/\e.2.2<a.n:=fun a c=>(h a c).wf.esn;have d:∀a∈l,0<a.n:=fun a c=>(h a c).pos;have o:=QjG d hw;have b:∀e∈(sync0 l).2,e.2.1∈evA l/\e.1<(sync0 l).1.length/\e.2.2<(sync0 l).1.length:=fun e he=>by rw[o.ed]at he;obtain⟨j,k,he⟩:=List.mem_flatMap.1 he;have k:=List.mem_range.1 k;obtain⟨h1,r,n,s,q⟩:=QiC he;obtain⟨t,u⟩:=Qav k;rw[List.getD_eq_getElem?_getD,u]at s;have hm:=o.cl j t k u _ r n s;exact⟨r,by omega,by rw[q];exact Qia hm⟩
 obtain⟨i,g⟩:=Qdm h;have p:∀x∈evA l,x<32:=fun x f=>by obtain⟨a,c,m⟩:=(g x).1 f;exact(h a c).wf.al5 x m
 refine⟨i,p,q,?_,fun x f=>?_,?_,fun e he=>⟨(b e he).2.1,(b e he).2.2⟩,fun e he=>(b e he).1⟩;·exact List.pairwise_lt_range.filter _
 ·exact List.mem_range.1 (List.mem_filter.1 f).1
 show(sync0 l).2.Pairwise _;rw[o.ed];exact QgZ (fun j=>⟨QgY i,fun x f=>(QiC f).1⟩) _
theorem Qq6{c:CelA}(h:WfG c){e:Nat}(he:e∈evA (allN c)):e∈evA (auN c.cs):=by
 obtain⟨a,b,d⟩:=((Qdm h.all).2 e).1 he;rcases List.mem_append.1 (show a∈auN c.cs++auN c.rs from b)with b|b;·exact((Qdm h.cj).2 e).2 ⟨a,b,d⟩
 obtain⟨x,i,rfl⟩:=List.mem_map.1 b;obtain⟨y,g,f⟩:=h.rsub x i e d;exact((Qdm h.cj).2 e).2 ⟨y.2,List.mem_map.2 ⟨y,g,rfl⟩,f⟩
theorem gproj{c:CelA}(h:WfG c):∀t∈(sync0 (allN c)).1,InT (allN c) t/\t.take c.cs.length∈(sync0 (auN c.cs)).1:=by
 have hA:=h.cj;have b:=h.all;have l:=QjG (fun a d=>(hA a d).pos) (fun a d=>(hA a d).wf.esn);have g:=Qe9 (l:=allN c) (fun a d=>(b a d).pos);show∀t∈(pQ (allN c) (evA (allN c)) (box (allN c)+1) 0 ([List.replicate (allN c).length 0],[])).1,_;refine Qpk (Q:=fun t=>InT (allN c) t/\t.take c.cs.length∈(sync0 (auN c.cs)).1) ?_ ?_;·rintro t⟨k,hp⟩e he n j;refine⟨Qe8 (fun a d=>(b a d).wf.esn) k j,?_⟩;have f:=QnJ (A:=auN c.cs) (B:=auN c.rs) (Nat.le_of_eq k.1.symm) j;rw[Qbz]at f;exact l.cl _ _ (Qia hp) (QmW hp) e (Qq6 h he) _ f
 intro x i;have i:x=List.replicate (allN c).length 0:=by simpa using i
 subst i;refine⟨g.inT _ (by simp),?_⟩;have:(List.replicate (allN c).length 0).take c.cs.length=List.replicate (auN c.cs).length 0:=by simp_all[Qed]
 rw[this];exact sync_pre.subset (by simp)
def szG(c:CelA):List Int:=c.cs.map fun x=>((x.2.n:Nat):Int)
theorem szG_z(c:CelA):szZ c.z=szG c:=by show(c.cs.map zIt).map (·.2.n)=_;rw[List.map_map];rfl
theorem condsG(c:CelA)(h:WfG c):PSpec Tryz.prog 63 [celG c] (cdZ (szG c) [] c.ks):=by have:=conds85X c.z h.ok.cl h.ok.xl h.ok.kl (fun x a=>(h.ok.xi x a).2) (fun x a=>(h.ok.ki x a).2);rw[Qph,szG_z]at this;exact this
theorem conds0(c:CelA)(h:WfG c):PSpec Tryz.prog 62 [cdZ (szG c) [] c.ks] (.int .i64 0):=by
 have h1:=conds32X (szZ c.z) [] c.ks (by rw[szG_z];simp[szG];have:=h.l12;omega) (Nat.zero_le _) h.ok.kl (fun x b=>(by cases b)) h.ok.ki;have a:cdErr (szZ c.z) [] c.ks=0:=by
  have:=h.er;unfold celErr at this;split at this;·exact absurd this (by assumption)
  split at this;·cases this
  split at this;·cases this
  split at this;·exact absurd this (by assumption)
  split at this;·exact absurd this (by assumption)
  exact this
 rw[a,szG_z]at h1;exact h1
theorem tokG{c:CelA}(h:WfG c){t:List Nat}(f:InT (auN c.cs) t):GOkT (szG c) t c.ks:=by
 have g:t.length=c.cs.length:=by rw[f.1,Qbz]
 have l:=h.l12;refine⟨by rw[g];simp[szG],by omega,fun i x n hi a=>?_,fun k hk=>⟨(h.kk k hk).1,fun x b=>f.ltJ h.cj b,fun x b=>?_⟩,h.ok.kl⟩
 ·have d:i<c.cs.length:=by rw[<-g];exact(List.getElem?_eq_some_iff.1 hi).1
  obtain⟨y,j⟩:=Qav d;have h1:=f.2 i y.2 (by rw[List.getElem?_map,j];rfl);rw[List.getD_eq_getElem?_getD,hi]at h1;unfold szG at a;rw[List.getElem?_map,j]at a;simp only[Option.map_some,Option.some.injEq]at a;subst a;have h1:x<y.2.n:=by simpa using h1
  omega
 rw[g];exact(h.kk k hk).2 x b
theorem violG(c:CelA)(h:WfG c){t:List Nat}(a:InT (auN c.cs) t):PSpec Tryz.prog 44 [cdZ (szG c) [] c.ks,sliN t] (.tup [.int .i64 (vioG t c.ks).1,.int .i64 (vioG t c.ks).2.1,.bool (vioG t c.ks).2.2,.int .i64 0]):=gviolated116 (tokG h a) (conds0 c h)
theorem key115G{l:List Aut}(h:∀a∈l,WfJ a)(d:l.length<=12){t:List Nat}(b:InT l t):PSpec Tryz.prog 42 [sliN t] (.str (keyT t)):=key72W t (fun x c=>b.ltJ h c) (by have:=b.1;omega)
end Go.AM.SO
namespace Go.AM.SO
open Go.Proofs Go.AM.SD Go.AM.SE
theorem Qq7{t:List Nat}{n:Nat}:(ints (nz t)).take n=ints (nz (t.take n)):=by simp[ints,nz,List.map_take]
theorem Qqe{t:List Nat}{n:Nat}:(ints (nz t)).drop n=ints (nz (t.drop n)):=by simp[ints,nz,List.map_drop]
theorem Ql6{cs:List AV}{len sz:Nat}{k c:IntKind}{b m:Int}(h:0<b):aSliceC (some sz) (.fsl cs len sz) none (some (.int k b)) (some (.int c m))=if b<=m/\m<=len then some (.fsl (cs.take (b.toNat*sz)) b.toNat sz)else none:=by
 have e:¬((0:Int)=0/\b=0/\m=0):=by omega
 have a:(0:Int)<=b:=by omega
 simp only[aSliceC,if_true,aSlice,bnd,Int.le_refl,true_and,a,Int.toNat_zero,Nat.zero_mul,List.drop_zero,Nat.sub_zero];rw[if_neg (by omega)]
end Go.AM.SO
namespace Go.AM.SO
open Go.Proofs Go.AM.SD Go.AM.SE
theorem _root_.Go.AM.au26{p:Prop}(h:p:=by repeat(first|exact RT.nil|(refine RT.cons ?_ ?_;·(first|exact Rn.any|exact Rn.x1 rfl rfl|exact Rn.x2 rfl rfl|exact Rn.x3 rfl rfl|exact Rn.x4 rfl rfl|exact Rn.x5 rfl|exact Rn.x6 rfl|exact Rn.x7 rfl|(refine Rn.slot ?_ ?_;(first|rfl|(rw[Int.natCast_add];rfl));(first|rfl|(simp only[noRef,noRefs,Qah,Bool.and_self,Bool.and_true,Bool.true_and,Qab,Qap,Qaa,Qak,Qa1,Qaf,Qcz,Qcg,Qbe,Qbo];done)))|(refine Rn.fn ?_ ?_<;>(repeat'(first|exact RnL.nil|refine RnL.cons ?_ ?_|exact Rn.same rfl|exact Rn.x6 rfl|exact Rn.x2 rfl rfl|exact Rn.x5 rfl|exact Rn.x1 rfl rfl))))))):p:=h
theorem autoGH(l:List (List UInt8×Aut))(j:l.length<=1000):HSpec Tryz.prog 31 [itsN l] .e (.sl 60 0 0 l.length 4) (hp [(60,.cells 0 ((auN l).flatMap auC))]):=by
 refine HSpec.QbA 100 TP.ok31 rfl ?_;have h:=Qci l;simp(disch:=first|omega|exact PairsOK.mk rfl|(simp only[lenW]<;>omega))only[TP.s31,Qac,Qad,Qae,Qag,Qaj,Qam,wW,wV,simprocAttr];refine Qay 100 (fun i:Nat=>[(3,.sl 60 0 0 i 4),(6,itsN l),(7,.int .i64 l.length),(8,.int .i64 i)]) (fun i=>[(60,.cells 0 ((auN (l.take i)).flatMap auC))]) (fun i=>i<=l.length) (fun i=>l.length-i) 0 0 160 (fun _:Unit=>[(3,.sl 60 0 0 l.length 4)]) (fun _=>[(60,.cells 0 ((auN l).flatMap auC))]) (fun _=>True) ?_ (Nat.zero_le _) ?_ ?_;·refine⟨[(60,.nil)],rfl,au0,?_,au26⟩;exact RB.newnil rfl rfl RB.nil
 ·rintro i hi;by_cases a:i<l.length
  ·obtain⟨x,g⟩:=Qav a;have b:=QiB g;have c:5<=((l.flatMap itN).drop (i*5)).length:=by rw[b];simp
   have d:(auN (l.take i)).length=i:=by rw[Qbz,List.length_take];omega
   have f:((auN (l.take i)).flatMap auC).length=i*4:=by rw[Qf0,d]
   simp(disch:=first|omega|exact PairsOK.mk rfl|(simp only[lenW]<;>omega))only[a,b,c,f,Qaa,Qak,Qac,Qad,Qae,Qag,Qaj,Qam,wW,wV,simprocAttr];refine⟨i+1,by omega,by omega,?_⟩;rw[take_succ' g];show Rec _ _ [(60,.cells 0 ((List.map (fun x:List UInt8×Aut=>x.2) (l.take i++[x])).flatMap auC))] _ _;rw[List.map_append,List.flatMap_append,Qm3];refine⟨[(60,.blk 60 1)],rfl,au0,?_,au26⟩;exact RB.cells rfl rfl gg (RnL.same (QaX (Qa1 _) (Qa1 [x.2]))) RB.nil
  have e:i=l.length:=by omega
  subst e;simp(disch:=first|omega|exact PairsOK.mk rfl|(simp only[lenW]<;>omega))only[a,List.take_length,Qac,Qad,Qae,Qag,Qaj,Qam,wW,wV,simprocAttr];refine⟨(),?_⟩;refine⟨[(60,.blk 60 0)],rfl,au0,?_,au26⟩;exact RB.cells rfl rfl gg (RnL.same (Qa1 _)) RB.nil
 rintro _ _;simp(disch:=first|omega|exact PairsOK.mk rfl|(simp only[lenW]<;>omega))only[Qac,Qad,Qae,Qag,Qaj,Qam,wW,wV,simprocAttr];refine⟨.inr trivial,_,rfl,?_⟩;refine⟨[(60,.blk 60 0)],rfl,au0,?_,au26⟩;exact RB.cells rfl rfl gg (RnL.same (Qa1 _)) RB.nil
abbrev gtG(c:CelA)(p q:Aut)(P T:List (List Nat)):List AV:=[evns c.ev,itsN c.cs,itsN c.rs,exsZ [],cosZ c.ks,sliN p.al,.int .i64 (p.n:Int),sliN p.ms,egsN p.es,tuV P,sliN q.al,.int .i64 (q.n:Int),sliN q.ms,egsN q.es,tuV T,sli (szG c),exsZ [],cosZ c.ks,fmapG keyC (ixV P) P]
def gtC(c:CelA):List AV:=gtG c (syncA (auN c.cs)) (syncA (allN c)) (sync0 (auN c.cs)).1 (sync0 (allN c)).1
abbrev gtP(c:CelA)(p q:Aut)(P T:List (List Nat)):List AV:=[evns c.ev,itsN c.cs,itsN c.rs,exsZ [],cosZ c.ks,sliN p.al,.int .i64 (p.n:Int),sliN p.ms,egsN p.es,tuV P,sliN q.al,.int .i64 (q.n:Int),sliN q.ms,egsN q.es,tuV T,sli (szG c),exsZ [],cosZ c.ks]
theorem Qfg(c:CelA)(p q:Aut)(P T:List (List Nat)):noRefs (gtP c p q P T)=true:=by have h1:=QbF c;simp only[noRefs,Bool.and_eq_true,Bool.and_true]at h1;obtain⟨a,a2,a3,a4,a5⟩:=h1;simp only[noRefs,a,a2,a3,a4,a5,Qap,Qaa,Qak,Qbo];rfl
theorem Qen(c:CelA)(p q:Aut)(P T:List (List Nat)):noRefs (gtG c p q P T)=true:=by have h1:=QbF c;simp only[noRefs,Bool.and_eq_true,Bool.and_true]at h1;obtain⟨a,a2,a3,a4,a5⟩:=h1;simp only[noRefs,a,a2,a3,a4,a5,Qap,Qaa,Qak,Qbo];rw[show noRef (fmapG keyC (ixV P) P)=true by rw[fmapG,noRef,Qax (fun _=>rfl),Qax (fun _=>rfl)];rfl];rfl
theorem openG(c:CelA)(h:WfG c):PSpec Tryz.prog 40 [celG c] (.tup [.fptr (gtC c),.int .i64 0]):=by
 have E:=QbF c;have v:noRef (.tup [.fptr (gtC c),.int .i64 0])=true:=by rw[noRef,noRefs,noRef,gtC,Qen];rfl
 refine PSpec.of_rn 64 TR.ok40 rfl (by rw[noRefs,Qcj];rfl) v ?_;have K:=h.l12;have L:=h.c0;have I:=plantG c h;have hA:=autoGH c.cs (by omega);have H:=automG c.rs (by omega);have y:=syncG h.all (by rw[Qed];omega) (by rw[Qed];omega) h.ql;have G:=condsG c h;have b:=Qge (fun a r=>(h.cj a r).pos) fun a r=>(h.cj a r).wf.esn;have J:=h.pl;have f:=Qbo (sync0 (auN c.cs)).1;have g:((auN c.cs).flatMap auC).length=c.cs.length*4:=by rw[Qf0,Qbz]
 have k:((auN c.rs).flatMap auC).length=c.rs.length*4:=by rw[Qf0,Qbz]
 have u:(auN c.rs).length=c.rs.length:=Qbz;have j:((auN c.rs).flatMap auC).all AV.one=true:=Qfa (fun _=>rfl) _;have w:PSpec Tryz.prog 30 [.fsl ((auN c.cs).flatMap auC++(auN c.rs).flatMap auC) (c.cs.length+c.rs.length) 4] (.tup [aV (syncA (allN c)),tuV (sync0 (allN c)).1,.int .i64 0]):=by rw[<-List.flatMap_append,<-Qed];exact y
 clear y;rw[gtC];generalize syncA (auN c.cs)=p at*;generalize syncA (allN c)=q at*;generalize(sync0 (auN c.cs))=F at*;generalize(sync0 (allN c)).1=T at*;obtain⟨P,es⟩:=F;dsimp only at*;simp(disch:=first|omega|exact PairsOK.mk rfl|(simp only[lenW]<;>omega))only[TR.s40,Qac,Qad,Qae,Qag,Qaj,Qam,wW,wV,simprocAttr];refine cp I ?_;simp(disch:=first|omega|exact PairsOK.mk rfl|(simp only[lenW]<;>omega))only[Qac,Qad,Qae,Qag,Qaj,Qam,wW,wV,simprocAttr];refine QnI [] 4 (x:=.f 31) (ag:=[.t 30]) (d:=some 31) rfl rfl rfl ?_;simp(disch:=first|omega|exact PairsOK.mk rfl|(simp only[lenW]<;>omega))only[Qac,Qad,Qae,Qag,Qaj,Qam,wW,wV,simprocAttr];refine⟨31,(auN c.cs).flatMap auC,c.cs.length,4,rfl,⟨hA.1,by show noRefs [itsN c.cs]=true;rw[noRefs,Qci];rfl,60,0,0,_,_,rfl,Nat.zero_le _,gg,hA⟩,Qa1 _,by decide,gg,?_⟩;simp(disch:=first|omega|exact PairsOK.mk rfl|(simp only[lenW]<;>omega))only[Qac,Qad,Qae,Qag,Qaj,Qam,wW,wV,simprocAttr];refine ch (PSpec.toH H _) ?_;simp(disch:=first|omega|exact PairsOK.mk rfl|(simp only[lenW]<;>omega))only[g,k,u,j,Qac,Qad,Qae,Qag,Qaj,Qam,wW,wV,simprocAttr];refine ch (HSpec.give1 (g:=1) w gg (QaX (Qa1 _) (Qa1 _)) (by rw[List.length_append,g,k];omega) rfl) ?_;simp(disch:=first|omega|exact PairsOK.mk rfl|(simp only[lenW]<;>omega))only[Qac,Qad,Qae,Qag,Qaj,Qam,wW,wV,simprocAttr];refine⟨trivial,?_⟩;refine cp G ?_;simp(disch:=first|omega|exact PairsOK.mk rfl|(simp only[lenW]<;>omega))only[Qac,Qad,Qae,Qag,Qaj,Qam,wW,wV,simprocAttr];refine Qay 200 (fun i:Nat=>[(4,.ptr 52 0 0),(59,tuV P),(60,.int .i64 P.length),(61,.int .i64 i)]) (fun i=>[(52,.cells 0 [evns c.ev,itsN c.cs,itsN c.rs,exsZ [],cosZ c.ks,sliN p.al,.int .i64 (p.n:Int),sliN p.ms,egsN p.es,tuV P,sliN q.al,.int .i64 (q.n:Int),sliN q.ms,egsN q.es,tuV T,sli (szG c),exsZ [],cosZ c.ks,.map 53 0]),(53,.map 0 (mapG keyC (ixV P) (P.take i)))]) (fun i=>i<=P.length) (fun i=>P.length-i) 0 0 260 (fun _:Unit=>[(4,.ptr 52 0 0)]) (fun _=>[(52,.cells 0 [evns c.ev,itsN c.cs,itsN c.rs,exsZ [],cosZ c.ks,sliN p.al,.int .i64 (p.n:Int),sliN p.ms,egsN p.es,tuV P,sliN q.al,.int .i64 (q.n:Int),sliN q.ms,egsN q.es,tuV T,sli (szG c),exsZ [],cosZ c.ks,fmapG keyC (ixV P) P])]) (fun _=>True) ?_ (Nat.zero_le _) ?_ ?_;·refine⟨[(52,.blk 69 0),(53,.blk 116 0)],rfl,RO.set rfl (RO.set rfl RO.zero),?_,RT.cons (Rn.x2 rfl rfl) (RT.cons (Rn.same f) au26)⟩;exact RB.cells rfl rfl gg (RnL.append (xs:=gtP c p q P T) (ys:=gtP c p q P T) (RnL.same (Qfg c p q P T)) (RnL.one (Rn.x3 rfl rfl))) (RB.map rfl rfl gg (RnM.mapG fun _ _=>⟨rfl,rfl⟩) RB.nil)
 ·rintro i hi;by_cases d:i<P.length
  ·obtain⟨t,l⟩:=Qav d;have o:=b.inT t (List.mem_of_getElem? l);have hk:=key115G h.cj (by rw[Qbz];omega) o;have m:t∉P.take i:=fun hm=>by have B:ixT (P.take i) t=i:=(Qgh (List.take_prefix i P) hm).trans (Qo4 b.nd l);have C:=Qia hm;rw[B,List.length_take]at C;omega
   have s:updG (ixV P) t (.int .i64 ((i:Nat):Int))=ixV P:=by
    funext x;unfold updG;split;·rename_i e;subst e;unfold ixV;rw[Qo4 b.nd l]
    rfl
   simp(disch:=first|omega|exact PairsOK.mk rfl|(simp only[lenW]<;>omega))only[d,QmZ l,Qac,Qad,Qae,Qag,Qaj,Qam,wW,wV,simprocAttr];refine cp hk ?_;simp(disch:=first|omega|exact PairsOK.mk rfl|(simp only[lenW]<;>omega))only[Qac,Qad,Qae,Qag,Qaj,Qam,wW,wV,simprocAttr];refine Qcu (c:=keyC) (f:=ixV P) (x:=t) (l:=P.take i) (g:=0) gg (Qf1 h.cj o fun x A=>b.inT x (List.mem_of_mem_take A)) m (by omega) ?_;rw[s];simp(disch:=first|omega|exact PairsOK.mk rfl|(simp only[lenW]<;>omega))only[Qac,Qad,Qae,Qag,Qaj,Qam,wW,wV,simprocAttr];refine⟨i+1,by omega,by omega,?_⟩;rw[take_succ' l];refine⟨[(52,.blk 52 0),(53,.blk 53 0)],rfl,RO.zero,?_,RT.cons (Rn.x2 rfl rfl) (RT.cons (Rn.same f) au26)⟩;exact RB.cells rfl rfl gg (RnL.append (xs:=gtP c p q P T) (ys:=gtP c p q P T) (RnL.same (Qfg c p q P T)) (RnL.one (Rn.x3 rfl rfl))) (RB.map rfl rfl gg (RnM.mapG fun _ _=>⟨rfl,rfl⟩) RB.nil)
  have e:i=P.length:=by omega
  subst e;simp(disch:=first|omega|exact PairsOK.mk rfl|(simp only[lenW]<;>omega))only[d,List.take_length,Qac,Qad,Qae,Qag,Qaj,Qam,wW,wV,simprocAttr];refine⟨(),[(52,.blk 52 0)],rfl,RO.zero,?_,RT.cons (Rn.x2 rfl rfl) RT.nil⟩;exact RB.cells rfl rfl gg (RnL.append (xs:=gtP c p q P T) (ys:=gtP c p q P T) (RnL.same (Qfg c p q P T)) (RnL.one (Rn.fzM (b:=53) (g:=0) gg rfl rfl fun _ _=>⟨rfl,rfl⟩))) RB.nil
 rintro _ _;simp(disch:=first|omega|exact PairsOK.mk rfl|(simp only[lenW]<;>omega))only[Qac,Qad,Qae,Qag,Qaj,Qam,wW,wV,simprocAttr];refine⟨.inr trivial,_,rfl,?_⟩;refine Rn.tup (RnL.cons ?_ (RnL.same rfl));exact Rn.frzp (b:=52) (g:=0) rfl (Nat.zero_le _) (fun N M _ e=>by simp[π0]at e) (by simp) (RnL.same (Qen c p q P T))
theorem QdA(c:CelA):noRef (.fptr (gtC c))=true:=by rw[noRef,gtC];exact Qen _ _ _ _ _
theorem gsplit(c:CelA)(t:List Nat)(k:0<c.cs.length)(h:c.cs.length<=t.length):PSpec Tryz.prog 41 [.fptr (gtC c),sliN t] (.tup [sliN (t.take c.cs.length),sliN (t.drop c.cs.length)]):=by
 have a:noRef (.tup [sliN (t.take c.cs.length),sliN (t.drop c.cs.length)])=true:=by rw[noRef,noRefs,noRefs,Qaa,Qaa];rfl
 refine PSpec.of_rn 64 TQ.ok41 rfl (by rw[noRefs,QdA,noRefs,Qaa];rfl) a ?_;have i:=QdA c;rw[gtC]at i⊢;generalize syncA (auN c.cs)=p at*;generalize syncA (allN c)=q at*;generalize(sync0 (auN c.cs)).1=P at*;generalize(sync0 (allN c)).1=T at*;have hle:(c.cs.length:Int)<=(t.length:Int):=by omega
 have f:(0:Int)<(c.cs.length:Int):=by omega
 have d:(t.drop c.cs.length).take (t.length-c.cs.length)=t.drop c.cs.length:=List.take_of_length_le (by rw[List.length_drop];exact Nat.le_refl _);have b:min c.cs.length t.length=c.cs.length:=Nat.min_eq_left h;simp(disch:=first|omega|exact PairsOK.mk rfl|(simp only[lenW]<;>omega))only[TQ.s41,hle,Ql6,Qq7,Qqe,d,Qac,Qad,Qae,Qag,Qaj,Qam,wW,wV,simprocAttr];refine⟨.inr trivial,_,rfl,?_⟩;have j:sliN (t.take c.cs.length)=.fsl (ints (nz (t.take c.cs.length))) c.cs.length 1:=by rw[sliN,List.length_take,b]
 have g:sliN (t.drop c.cs.length)=.fsl (ints (nz (t.drop c.cs.length))) (t.length-c.cs.length) 1:=by rw[sliN,List.length_drop]
 rw[j,g]at a⊢;exact Rn.same a
def grQ(c:CelA)(r:List Nat)(e:Nat)(i:Nat):Bool:=match c.rs[i]? with|some y=>y.2.al.contains e&&(stepA y.2.es (r.getD i 0) e).isNone|none=>false
def grI(c:CelA)(r:List Nat)(e:Nat):Int:=idxQ (grQ c r e) (List.range c.rs.length)
theorem _root_.Go.AM.au27{p:Prop}(h:p:=by repeat'(first|exact RB.nil|(refine RnL.same ?_;first|rfl|(simp only[noRef,noRefs,Qah,Bool.and_self,Bool.and_true,Bool.true_and,Qab,Qap,Qaa,Qak,Qa1,Qaf,Qcz,Qcg,Qbe,Qbo];done))|exact RnM.keyM rfl|exact RnL.nil|exact(True.intro:RnM _ _ _ [] [])|refine RnL.cons ?_ ?_|(refine Rn.same ?_;first|rfl|(simp only[noRef,noRefs,Qah,Bool.and_self,Bool.and_true,Bool.true_and,Qab,Qap,Qaa,Qak,Qa1,Qaf,Qcz,Qcg,Qbe,Qbo];done))|exact Rn.x1 rfl rfl|exact Rn.x2 rfl rfl|exact Rn.x3 rfl rfl|exact Rn.x4 rfl rfl|exact Rn.x5 rfl|exact Rn.x6 rfl|exact Rn.x7 rfl|refine RB.newnil rfl rfl ?_|refine RB.cells rfl rfl rfl ?_ ?_|refine RB.map rfl rfl rfl ?_ ?_|refine RB.cellsB rfl rfl ?_ ?_|refine RB.mapB rfl rfl ?_ ?_)):p:=h
theorem grefuser(c:CelA)(hw:WfG c)(r:List Nat)(e:Nat)(K:r.length=c.rs.length)(hrn:∀(i:Nat)y,c.rs[i]?=some y->r.getD i 0<y.2.n):PSpec Tryz.prog 83 [.fptr (gtC c),sliN r,.int .i64 (e:Int)] (.int .i64 (grI c r e)):=by
 refine PSpec.QaB 64 TQ.ok83 rfl (by rw[noRefs,QdA,noRefs,Qaa];rfl) rfl ?_;have H:=hw.l12;rw[gtC];generalize syncA (auN c.cs)=p at*;generalize syncA (allN c)=q at*;generalize(sync0 (auN c.cs)).1=P at*;generalize(sync0 (allN c)).1=T at*;have g:=Qci c.rs;simp(disch:=first|omega|exact PairsOK.mk rfl|(simp only[lenW]<;>omega))only[TQ.s83,Qac,Qad,Qae,Qag,Qaj,Qam,wW,wV,simprocAttr];refine Qay 100 (fun i:Nat=>[(1,sliN r),(2,.int .i64 (e:Int)),(16,itsN c.rs),(17,.int .i64 c.rs.length),(18,.int .i64 i)]) (fun _=>[]) (fun i=>i<=c.rs.length/\∀(j:Nat)y,j<i->(List.range c.rs.length)[j]?=some y->grQ c r e y=false) (fun i=>c.rs.length-i) 0 0 200 (fun _:Unit=>[]) (fun _=>[]) (fun _=>∀x∈List.range c.rs.length,grQ c r e x=false) ?_ ⟨Nat.zero_le _,fun j y G=>absurd G (Nat.not_lt_zero _)⟩ ?_ ?_;·exact⟨[],rfl,RO.zero,RB.nil,RT.cons (Rn.same (Qaa _)) (RT.cons (Rn.same rfl) (RT.cons (Rn.same g) au26))⟩
 ·rintro i⟨hi,w⟩;by_cases b:i<c.rs.length
  ·obtain⟨x,k⟩:=Qav b;have f:=hw.rj x.2 (List.mem_map_of_mem (List.mem_of_getElem? k));have h:=QiB k;have B:5<=((c.rs.flatMap itN).drop (i*5)).length:=by rw[h];simp
   have A:i<r.length:=by omega
   obtain⟨v,F⟩:=Qav A;have s:r.getD i 0=v:=by rw[List.getD_eq_getElem?_getD,F];rfl
   have o:=hrn i x k;rw[s]at o;have d:(List.range c.rs.length)[i]?=some i:=by simp[b]
   have C:=has189 x.2.al e f.wf.al (by have:=Qll f.wf;omega);have a:grQ c r e i=(x.2.al.contains e&&(stepA x.2.es v e).isNone):=by unfold grQ;rw[k];dsimp only;rw[s]
   have m:∀q:grQ c r e i=false,i+1<=c.rs.length/\∀(j:Nat)y,j<i+1->(List.range c.rs.length)[j]?=some y->grQ c r e y=false:=fun q=>⟨by omega,fun j y G E=>by
    by_cases J:j=i;·subst J;rw[d]at E;cases E;exact q
    exact w j y (by omega) E⟩;cases u:x.2.al.contains e;·rw[u,Bool.false_and]at a;rw[u]at C;simp(disch:=first|omega|exact PairsOK.mk rfl|(simp only[lenW]<;>omega))only[b,h,B,Qac,Qad,Qae,Qag,Qaj,Qam,wW,wV,simprocAttr];refine cp C ?_;simp(disch:=first|omega|exact PairsOK.mk rfl|(simp only[lenW]<;>omega))only[Qac,Qad,Qae,Qag,Qaj,Qam,wW,wV,simprocAttr];refine⟨i+1,by omega,m a,?_⟩;exact⟨[],rfl,RO.zero,RB.nil,RT.cons (Rn.same (Qaa _)) (RT.cons (Rn.same rfl) (RT.cons (Rn.same g) au26))⟩
   have I:=step208 x.2 v e f.wf o (List.contains_iff_mem.1 u);rw[u,Bool.true_and]at a;rw[u]at C;simp(disch:=first|omega|exact PairsOK.mk rfl|(simp only[lenW]<;>omega))only[b,h,B,Qac,Qad,Qae,Qag,Qaj,Qam,wW,wV,simprocAttr];refine cp C ?_;simp(disch:=first|omega|exact PairsOK.mk rfl|(simp only[lenW]<;>omega))only[A,QaW F,Qac,Qad,Qae,Qag,Qaj,Qam,wW,wV,simprocAttr];refine cp I ?_;cases l:stepA x.2.es v e with|none=>rw[l]at a;simp(disch:=first|omega|exact PairsOK.mk rfl|(simp only[lenW]<;>omega))only[Qac,Qad,Qae,Qag,Qaj,Qam,wW,wV,simprocAttr];refine⟨.inr trivial,_,rfl,?_⟩;unfold grI;rw[Qgf d a w];rfl|some t=>rw[l]at a;simp(disch:=first|omega|exact PairsOK.mk rfl|(simp only[lenW]<;>omega))only[Qac,Qad,Qae,Qag,Qaj,Qam,wW,wV,simprocAttr];refine⟨i+1,by omega,m a,?_⟩;exact⟨[],rfl,RO.zero,RB.nil,RT.cons (Rn.same (Qaa _)) (RT.cons (Rn.same rfl) (RT.cons (Rn.same g) au26))⟩
  simp(disch:=first|omega|exact PairsOK.mk rfl|(simp only[lenW]<;>omega))only[b,Qac,Qad,Qae,Qag,Qaj,Qam,wW,wV,simprocAttr];refine⟨(),fun x k=>?_,⟨[],rfl,au0,au27,au26⟩⟩;have:=List.mem_range.1 k;exact w x x (by omega) (by simp[this])
 rintro _ w;simp(disch:=first|omega|exact PairsOK.mk rfl|(simp only[lenW]<;>omega))only[Qac,Qad,Qae,Qag,Qaj,Qam,wW,wV,simprocAttr];refine⟨.inr trivial,_,rfl,?_⟩;unfold grI;rw[Qem w];rfl
def grF(c:CelA)(k:Nat)(r:List Nat):AV:=.fn 81 [] [.fptr [.fptr (gtC c)],.fptr [.int .i64 (k:Int)],.fptr [sliN r]]
theorem Qf7(c:CelA)(k:Nat)(r:List Nat):noRef (grF c k r)=true:=by have:=QdA c;rw[noRef]at this;simp only[grF,noRef,noRefs,Qab,this];rfl
theorem grefF(c:CelA)(k:Nat)(r:List Nat):PSpec Tryz.prog 45 [.fptr (gtC c),.int .i64 (k:Int),sliN r] (grF c k r):=by
 have a:=QdA c;refine PSpec.of_rn 64 TQ.ok45 rfl (by rw[noRefs,a,noRefs,noRefs,Qaa];rfl) (Qf7 _ _ _) ?_;unfold grF;have f:(AV.fptr (gtC c)).boxable=true:=rfl;have hc:(AV.fptr (gtC c)).cells=[.fptr (gtC c)]:=rfl;have ho:(AV.fptr (gtC c)).one=true:=rfl;generalize AV.fptr (gtC c)=S at*;simp(disch:=first|omega|exact PairsOK.mk rfl|(simp only[lenW]<;>omega))only[TQ.s45,f,hc,ho,Qac,Qad,Qae,Qag,Qaj,Qam,wW,wV,simprocAttr];refine⟨.inr trivial,_,rfl,?_⟩;refine Rn.fn RnL.nil (RnL.cons (Rn.frzp (b:=64) (g:=0) rfl (Nat.zero_le _) (fun b d _ e=>by simp[π0]at e) (by simp) (RnL.same ?_)) (RnL.cons (Rn.frzp (b:=65) (g:=0) rfl (Nat.zero_le _) (fun b d _ e=>by simp[π0]at e) (by simp) (RnL.same rfl)) (RnL.cons (Rn.frzp (b:=66) (g:=0) rfl (Nat.zero_le _) (fun b d _ e=>by simp[π0]at e) (by simp) (RnL.same ?_)) RnL.nil)));·show noRefs [S]=true;rw[noRefs,a];rfl
 show noRefs [sliN r]=true;rw[noRefs,Qaa];rfl
end Go.AM.SO
namespace Go.AM.SO
open Go.Proofs Go.AM.SD Go.AM.SE
theorem fm_at{α β:Type}{f:α->Option β}{l:List α}{i:Nat}{x:α}{y:β}(b:l[i]?=some x)(c:f x=some y):(l.filterMap f)[((l.take i).filterMap f).length]?=some y:=by
 have hi:i<l.length:=(List.getElem?_eq_some_iff.1 b).1;have e:l=l.take i++x::l.drop (i+1):=by have a:l[i]=x:=(List.getElem?_eq_some_iff.1 b).2;rw[<-a,List.getElem_cons_drop,List.take_append_drop]
 have d:l.filterMap f=(l.take i).filterMap f++y::(l.drop (i+1)).filterMap f:=by
  conv=>lhs;rw[e]
  rw[List.filterMap_append,List.filterMap_cons,c]
 rw[d,List.getElem?_append_right (Nat.le_refl _),Nat.sub_self,List.getElem?_cons_zero]
theorem Qq8{α β:Type}{f:α->Option β}{l:List α}{i:Nat}{x:α}(a:l[i]?=some x):((l.take (i+1)).filterMap f).length=((l.take i).filterMap f).length+(match f x with|some _=>1|none=>0):=by rw[take_succ' a,List.filterMap_append,List.length_append,List.filterMap_cons];cases f x<;>rfl
end Go.AM.SO
namespace Go.AM.SO
open Go.Proofs Go.AM.SD Go.AM.SE
def gyE(c:CelA)(r:List Nat)(e:Nat):Option (Nat×Int):=if 0<=grI c r e then some (e,grI c r e)else none
def gys(c:CelA)(k:Nat)(r:List Nat):List (Nat×Int):=(evO (syncA (auN c.cs)) k).filterMap (gyE c r)
theorem Qq9{c:CelA}{r:List Nat}{e:Nat}:-1<=grI c r e/\grI c r e<=c.rs.length:=by have:=@Qht _ (grQ c r e) (List.range c.rs.length);unfold grI;rw[List.length_range]at this;omega
theorem grefused(c:CelA)(hw:WfG c){k:Nat}(hk:k<(syncA (auN c.cs)).n)(r:List Nat)(L:r.length=c.rs.length)(hrn:∀(i:Nat)y,c.rs[i]?=some y->r.getD i 0<y.2.n){b m:Nat}(H:Nat->Heap)(H':Heap)(n:Nat)(hf:Fresh m (H 0))(M:n<=(gys c k r).length)(hY:∀(j:Nat)y,j<n->(gys c k r)[j]?=some y->RSpec Tryz.prog b 0 [.int .i64 (y.1:Int),.int .i64 y.2] (H j) (.bool true) (H (j+1)))(F:(n=(gys c k r).length/\H'=H n)\/∃y,(gys c k r)[n]?=some y/\RSpec Tryz.prog b 0 [.int .i64 (y.1:Int),.int .i64 y.2] (H n) (.bool false) H'):HSpec Tryz.prog 81 [.yld b 0,.fptr [.fptr (gtC c)],.fptr [.int .i64 (k:Int)],.fptr [sliN r]] (H 0) (.tup []) H':=by
 refine HSpec.of_I m 1099511627000 TR.ok81 rfl hf ?_;have s:=enabled161 (syncA (auN c.cs)) k (Qff hw.cj hw.pl) hk;have K:=fun e=>grefuser c hw r e L hrn;have G:=fun e=>@Qq9 c r e;have J:(evO (syncA (auN c.cs)) k).length<=131073:=by unfold evO;rw[List.length_map];exact Nat.le_trans (List.length_filter_le ..) (Nat.le_trans (WfA.el1 (Qff hw.cj hw.pl)) (by decide))
 have u:gtC c=gtC c:=rfl;conv at u=>rhs;rw[gtC]
 have N:∃S,S=AV.fptr (gtC c):=⟨_,rfl⟩;unfold gys at M hY F;rw[gtC]at*;generalize evO (syncA (auN c.cs)) k=o at*;generalize syncA (auN c.cs)=p at*;generalize syncA (allN c)=q at*;generalize(sync0 (auN c.cs)).1=P at*;generalize(sync0 (allN c)).1=T at*;simp(disch:=first|omega|exact PairsOK.mk rfl|(simp only[lenW]<;>omega))only[TR.s81,Qac,Qad,Qae,Qag,Qaj,Qam,wW,wV,simprocAttr];refine cp s ?_;simp(disch:=first|omega|exact PairsOK.mk rfl|(simp only[lenW]<;>omega))only[Qac,Qad,Qae,Qag,Qaj,Qam,wW,wV,simprocAttr];refine Qp9 1099511627100 (fun i:Nat=>[(0,.yld b 0),(1,.fptr [.fptr (gtG c p q P T)]),(3,.fptr [sliN r]),(19,sliN o),(20,.int .i64 o.length),(21,.int .i64 i)]) (fun i=>H ((o.take i).filterMap (gyE c r)).length) (fun i=>i<=o.length/\((o.take i).filterMap (gyE c r)).length<=n) (fun i=>o.length-i) 0 ?_ (fun _=>rfl) ⟨Nat.zero_le _,Nat.zero_le _⟩ ?_;·repeat(first|exact Sub.nil|refine Sub.cons (by first|rfl|(rw[Int.natCast_add];rfl)) ?_)
 rintro i⟨hi,hc⟩;by_cases d:i<o.length
 ·obtain⟨x,C⟩:=Qav d;have a:=Qq8 (f:=gyE c r) C;have t:=K x;have O:=G x;by_cases A:0<=grI c r x
  ·have g:gyE c r x=some (x,grI c r x):=by unfold gyE;rw[if_pos A]
   have f:=fm_at C g;rw[g]at a;rcases Nat.lt_or_ge ((o.take i).filterMap (gyE c r)).length n with B|I;·have l:=hY _ _ B f;dsimp only at l a;rw[<-a]at l;simp(disch:=first|omega|exact PairsOK.mk rfl|(simp only[lenW]<;>omega))only[d,QaW C,Qac,Qad,Qae,Qag,Qaj,Qam,wW,wV,simprocAttr];refine cp t ?_;generalize grI c r x=v at*;simp(disch:=first|omega|exact PairsOK.mk rfl|(simp only[lenW]<;>omega))only[A,Qac,Qad,Qae,Qag,Qaj,Qam,wW,wV,simprocAttr];refine cy l ?_;simp(disch:=first|omega|exact PairsOK.mk rfl|(simp only[lenW]<;>omega))only[Qac,Qad,Qae,Qag,Qaj,Qam,wW,wV,simprocAttr];refine⟨i+1,by omega,⟨by omega,by omega⟩,?_,fun _=>rfl⟩;repeat(first|exact Sub.nil|refine Sub.cons (by first|rfl|(rw[Int.natCast_add];rfl)) ?_)
   have h:((o.take i).filterMap (gyE c r)).length=n:=by omega
   rcases F with⟨he,_⟩|⟨y,E,w⟩;·have :=(List.getElem?_eq_some_iff.1 f).1;omega
   rw[h]at f⊢;rw[f]at E;cases E;dsimp only at w;simp(disch:=first|omega|exact PairsOK.mk rfl|(simp only[lenW]<;>omega))only[d,QaW C,Qac,Qad,Qae,Qag,Qaj,Qam,wW,wV,simprocAttr];refine cp t ?_;generalize grI c r x=v at*;simp(disch:=first|omega|exact PairsOK.mk rfl|(simp only[lenW]<;>omega))only[A,Qac,Qad,Qae,Qag,Qaj,Qam,wW,wV,simprocAttr];refine cy w ?_;simp(disch:=first|omega|exact PairsOK.mk rfl|(simp only[lenW]<;>omega))only[Qac,Qad,Qae,Qag,Qaj,Qam,wW,wV,simprocAttr];exact⟨.inr trivial,_,rfl,rfl,fun _=>trivial⟩
  have g:gyE c r x=none:=by unfold gyE;rw[if_neg A]
  rw[g]at a;dsimp only at a;simp(disch:=first|omega|exact PairsOK.mk rfl|(simp only[lenW]<;>omega))only[d,QaW C,Qac,Qad,Qae,Qag,Qaj,Qam,wW,wV,simprocAttr];refine cp t ?_;generalize grI c r x=v at*;simp(disch:=first|omega|exact PairsOK.mk rfl|(simp only[lenW]<;>omega))only[A,Qac,Qad,Qae,Qag,Qaj,Qam,wW,wV,simprocAttr];refine⟨i+1,by omega,⟨by omega,by omega⟩,?_,fun _=>by rw[a];rfl⟩;repeat(first|exact Sub.nil|refine Sub.cons (by first|rfl|(rw[Int.natCast_add];rfl)) ?_)
 have e:i=o.length:=by omega
 subst e;rw[List.take_length]at hc⊢;have h:n=(o.filterMap (gyE c r)).length:=by omega
 simp(disch:=first|omega|exact PairsOK.mk rfl|(simp only[lenW]<;>omega))only[d,Qac,Qad,Qae,Qag,Qaj,Qam,wW,wV,simprocAttr];refine⟨.inl trivial,_,rfl,rfl,fun _=>?_⟩;rcases F with⟨_,he⟩|⟨y,E,_⟩;·rw[he,h]
 rw[List.getElem?_eq_none (by omega)]at E;cases E
end Go.AM.SO
namespace Go.AM.SO
open Go.Proofs Go.AM.SD Go.AM.SE
theorem clone41(l:List Nat)(a:l.length<=1000000):PSpec Tryz.prog 43 [sliN l] (sliN l):=by
 have h:=(clone56 l a).freeze (b:=83) (g:=0) (ds:=ints (nz l)) gg (by
  have:∀m:List Int,flatVs (ints m)=true:=fun m=>by induction m with|nil=>rfl|cons x m b=>simp only[ints,List.map_cons,flatVs,Bool.and_eq_true];exact⟨rfl,b⟩
  exact this _) (by simp[ints]) rfl;have e:(ints (nz l)).take (l.length*1)=ints (nz l):=by rw[List.take_of_length_le (by simp[ints])]
 rw[e]at h;exact⟨by rw[noRefs,Qaa];rfl,Qaa _,_,h⟩
abbrev lpA:SCode:=(.seq (.region [Zm 16 100 []] [] [99,100]) (.region [Zm 17 101 []] [] [101]))
abbrev lpB:SCode:=(.block 3 (.seq (.region [Zf 102 0 1 [],Zl 103 102 [0],Zm 104 16 [],Zi 105 5 103 104 [1,2],Zf 106 1 105 [3],Zl 107 106 [4],Zz 108 (.un .not (.t 107)) [5]] [] [102,103,104,105,106,107]) (.cond (.t 108) (.seq (.region [Zf 109 7 6 [],Zl 110 109 [0],Zl 111 7 [],Zm 112 17 [],Zm 113 16 [],Zz 114 (.build [(.int .i64 0),(.int .i64 0),(.int .i64 0),(.int .i64 0)] [(0,1,(.t 111)),(1,1,(.c (.int .i64 3))),(2,1,(.t 112)),(3,1,(.t 113))]) [2,3,4],Zz 115 (.bslice false .dyn 4 1 [(.int .i64 0),(.int .i64 0),(.int .i64 0),(.int .i64 0)] [(0,4,(.t 114))]) [5],Zz 116 (.append .dyn 4 32 (.t 110) (.t 115)) [1,6],Zf 117 7 6 (Za [] 8),Zs 1 117 116 (Za [8,7,7] 8)] [] [7,16,17,108,109,110,111,112,113,114,115,116,117]) (.exit 2)) .skip)))
def rsC(x:Nat×Int×Int×Int):List AV:=[.int .i64 (x.1:Int),.int .i64 x.2.1,.int .i64 x.2.2.1,.int .i64 x.2.2.2]
abbrev rss(l:List (Nat×Int×Int×Int)):AV:=.fsl (l.flatMap rsC) l.length 4
theorem Qpl(l:List (Nat×Int×Int×Int)):(l.flatMap rsC).length=l.length*4:=Qby (k:=4) (fun _=>rfl) l
theorem Qb0(l:List (Nat×Int×Int×Int)):noRefs (l.flatMap rsC)=true:=by induction l with|nil=>rfl|cons x l a=>rw[List.flatMap_cons];exact SU.Qa8 rfl a
theorem QlE{α:Type}{p:α->Bool}:∀{l:List α}{y:α},l.find? p=some y->∃n:Nat,l[n]?=some y/\p y=true/\∀(j:Nat)z,j<n->l[j]?=some z->p z=false|[],y,h=>by simp at h|x::l,y,h=>by rw[List.find?_cons]at h;cases hp:p x with|true=>rw[hp]at h;cases h;exact⟨0,rfl,hp,fun j z b=>absurd b (Nat.not_lt_zero _)⟩|false=>rw[hp]at h;obtain⟨n,h1,c,d⟩:=QlE h;refine⟨n+1,by simpa using h1,c,fun j z b a=>?_⟩;cases j with|zero=>simp at a;subst a;exact hp|succ j=>exact d j z (by omega) (by simpa using a)
theorem set3{h:Heap}{k j:Nat}{a b c:Blk}(hk:Nat.blt k 1099511627775=true):(((h.set k a).set k b).set k c).get j=(h.set k c).get j:=by
 have d:k<1099511627775:=by simpa using hk
 by_cases e:j=k;·subst e;rw[QaA d,QaA d]
 rw[QaE d e,QaE d e,QaE d e,QaE d e]
theorem set6{h:Heap}{k l f m j:Nat}{a b u v w d:Blk}(hk:(Nat.blt k 1099511627775&&Nat.blt l 1099511627775&&Nat.blt f 1099511627775&&Nat.blt m 1099511627775)=true):((((((h.set k a).set k b).set l u).set f v).set m w).set k d).get j=((((h.set l u).set f v).set m w).set k d).get j:=by
 simp only[Bool.and_eq_true,Nat.blt_eq]at hk;obtain⟨⟨⟨h1,c⟩,g⟩,i⟩:=hk;by_cases e:j=k;·subst e;rw[QaA h1,QaA h1]
 rw[QaE h1 e,QaE h1 e];by_cases p:j=m;·subst p;rw[QaA i,QaA i]
 rw[QaE i p,QaE i p];by_cases q:j=f;·subst q;rw[QaA g,QaA g]
 rw[QaE g q,QaE g q];by_cases o:j=l;·subst o;rw[QaA c,QaA c]
 rw[QaE c o,QaE c o,QaE h1 e,QaE h1 e]
end Go.AM.SO
