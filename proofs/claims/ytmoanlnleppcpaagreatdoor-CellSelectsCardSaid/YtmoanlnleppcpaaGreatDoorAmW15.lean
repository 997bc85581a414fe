/- A part of the proof of CellSelectsCardSaid: lemmas on the way (AmRg, AmRh, AmRi, AmRj, AmRk, AmRl, AmRv, AmCzi, AmRo, AmRp, AmRu). Conditions: none of ours. -/
import Derived.Test.YtmoanlnleppcpaaGreatDoorProg
import Derived.KernelRfl
import Derived.Test.YtmoanlnleppcpaaGreatDoorAmW14
set_option linter.unusedSectionVars false
set_option maxHeartbeats 32000000
set_option maxRecDepth 100000
set_option linter.unusedVariables false
set_option linter.unusedSimpArgs false
namespace Go.AM.SO
open Go.Proofs Go.AM.SD Go.AM.SE
def prZ(x:Int×Int):List AV:=[.int .i64 x.1,.int .i64 x.2]
abbrev prs(l:List (Int×Int)):AV:=.fsl (l.flatMap prZ) l.length 2
theorem Qd8(l:List (Int×Int)):noRefs (l.flatMap prZ)=true:=QaJ (fun _=>rfl) l
theorem Qbi(l:List (Int×Int)):noRef (prs l)=true:=by rw[prs,noRef];exact Qd8 l
theorem Qdr(l:List (Int×Int)):(l.flatMap prZ).length=l.length*2:=Qa8 (k:=2) (fun _=>rfl) l
theorem QfA{l:List (Int×Int)}{i:Nat}{x:Int×Int}(h:l[i]?=some x):(l.flatMap prZ).drop (i*2)=.int .i64 x.1::.int .i64 x.2::(l.drop (i+1)).flatMap prZ:=QaY (f:=prZ) (k:=2) (fun _=>rfl) h
theorem QlS(l:List (Int×Int)):flatVs (l.flatMap prZ)=true:=by induction l with|nil=>rfl|cons x l a=>rw[Zay];simp only[prZ,Zbg,ZaU,flatVs,a,Zac];rfl
theorem QgC:aEqN false .nilsl=.ret (.bool true):=rfl
theorem QgD:aEqN false .nsl=.ret (.bool false):=rfl
theorem _root_.Go.AM.au21{p:Prop}(h:p:=by repeat'(first|exact Zb9|(refine Zb1 ?_;first|rfl|(simp only[noRef,noRefs,Qah,Zak,Zac,Zag,Qaa,Qam,Qab,Qbx,QbV,QbW];done))|exact RnM.keyM rfl|exact Zcf|exact(True.intro:RnM _ _ _ [] [])|refine Zcg ?_ ?_|(refine Zb0 ?_;first|rfl|(simp only[noRef,noRefs,Qah,Zak,Zac,Zag,Qaa,Qam,Qab,Qbx,QbV,QbW];done))|exact Rn.x1 rfl rfl|exact Rn.x2 rfl rfl|exact Rn.x3 rfl rfl|exact Rn.x4 rfl rfl|exact Rn.x5 rfl|exact Rn.x6 rfl|exact Rn.x7 rfl|refine Zcb rfl rfl ?_|refine Zca rfl rfl rfl ?_ ?_|refine Zcc rfl rfl rfl ?_ ?_|refine Zcd rfl rfl ?_ ?_|refine Zce rfl rfl ?_ ?_)):p:=h
theorem _root_.Go.AM.au22{p:Prop}(h:p:=by repeat(first|exact Zb7|(refine Zb8 ?_ ?_;·(first|exact Rn.any|exact Rn.x1 rfl rfl|exact Rn.x2 rfl rfl|exact Rn.x3 rfl rfl|exact Rn.x4 rfl rfl|exact Rn.x5 rfl|exact Rn.x6 rfl|exact Rn.x7 rfl|(refine Rn.slot ?_ ?_;(first|rfl|(rw[ZaS];rfl));(first|rfl|(simp only[noRef,noRefs,Qah,Zak,Zac,Zag,Qaa,Qam,Qab,Qbx,QbV,QbW];done)))|(refine Rn.fn ?_ ?_<;>(repeat'(first|exact Zcf|refine Zcg ?_ ?_|exact Zb0 rfl|exact Rn.x6 rfl|exact Rn.x2 rfl rfl|exact Rn.x5 rfl|exact Rn.x1 rfl rfl))))))):p:=h
theorem Qki:HSpec Tryz.prog 148 [.nilsl] .e (.sl 83 0 0 0 2) (hp [(83,.cells 0 [])]):=by refine Zcm 100 ok148 rfl ?_;unfold s148;refine Zcy @QgC ?_;exact⟨.inr trivial,_,rfl,⟨[(83,.nil)],rfl,au0,au21,au22⟩⟩
theorem Qkj:HSpec Tryz.prog 148 [.nsl] .e (.sl 83 0 0 0 2) (hp [(83,.cells 0 [])]):=by refine Zcm 100 ok148 rfl ?_;unfold s148;refine Zcy (Zcz @QgD @Qck) ?_;exact⟨.inr trivial,_,rfl,⟨[(83,.blk 103 1)],rfl,au0,au21,au22⟩⟩
theorem clone148H(l:List (Int×Int))(g:l.length<=8796093021952):HSpec Tryz.prog 148 [prs l] .e (.sl 83 0 0 l.length 2) (hp [(83,.cells 0 (l.flatMap prZ))]):=by cases l with|nil=>exact HSpec.empty Qki Qkj|cons x l=>refine Zcm 100 ok148 rfl ?_;have d:aEqN false (prs (x::l))=.ret (.bool false):=rfl;have a:((x::l).flatMap prZ).all AV.one=true:=QbK (fun _=>rfl) _;have f:=Qbi (x::l);have c:=Qd8 (x::l);have b:=Qdr (x::l);generalize x::l=q at*;unfold s148;refine Zcy (ZcA d a b) ?_;refine⟨.inr trivial,_,rfl,?_⟩;refine⟨[(83,.blk 103 1)],rfl,au0,?_,au22⟩;exact Zca rfl rfl gg (Zb1 c) Zb9
theorem clone148X(l:List (Int×Int))(a:l.length<=8796093021952):PSpec Tryz.prog 148 [prs l] (prs l):=by
 have h:=(clone148H l a).freeze (b:=83) (g:=0) (ds:=l.flatMap prZ) gg (QlS l) (by rw[Qdr];exact ZaG _) rfl;have e:(l.flatMap prZ).take (l.length*2)=l.flatMap prZ:=by rw[ZaD (by rw[Qdr];exact ZaG _)]
 rw[e]at h;exact⟨by rw[noRefs,Qbi];rfl,Qbi l,_,h⟩
theorem Qkk:HSpec Tryz.prog 149 [.nilsl] .e (.sl 83 0 0 0 2) (hp [(83,.cells 0 [])]):=by refine Zcm 100 ok149 rfl ?_;unfold s149;refine Zcy @QgC ?_;exact⟨.inr trivial,_,rfl,⟨[(83,.nil)],rfl,au0,au21,au22⟩⟩
theorem Qkl:HSpec Tryz.prog 149 [.nsl] .e (.sl 83 0 0 0 2) (hp [(83,.cells 0 [])]):=by refine Zcm 100 ok149 rfl ?_;unfold s149;refine Zcy (Zcz @QgD @Qck) ?_;exact⟨.inr trivial,_,rfl,⟨[(83,.blk 103 1)],rfl,au0,au21,au22⟩⟩
theorem clone149H(l:List (Int×Int))(g:l.length<=8796093021952):HSpec Tryz.prog 149 [prs l] .e (.sl 83 0 0 l.length 2) (hp [(83,.cells 0 (l.flatMap prZ))]):=by cases l with|nil=>exact HSpec.empty Qkk Qkl|cons x l=>refine Zcm 100 ok149 rfl ?_;have d:aEqN false (prs (x::l))=.ret (.bool false):=rfl;have a:((x::l).flatMap prZ).all AV.one=true:=QbK (fun _=>rfl) _;have f:=Qbi (x::l);have c:=Qd8 (x::l);have b:=Qdr (x::l);generalize x::l=q at*;unfold s149;refine Zcy (ZcA d a b) ?_;refine⟨.inr trivial,_,rfl,?_⟩;refine⟨[(83,.blk 103 1)],rfl,au0,?_,au22⟩;exact Zca rfl rfl gg (Zb1 c) Zb9
theorem clone149X(l:List (Int×Int))(a:l.length<=8796093021952):PSpec Tryz.prog 149 [prs l] (prs l):=by
 have h:=(clone149H l a).freeze (b:=83) (g:=0) (ds:=l.flatMap prZ) gg (QlS l) (by rw[Qdr];exact ZaG _) rfl;have e:(l.flatMap prZ).take (l.length*2)=l.flatMap prZ:=by rw[ZaD (by rw[Qdr];exact ZaG _)]
 rw[e]at h;exact⟨by rw[noRefs,Qbi];rfl,Qbi l,_,h⟩
abbrev Exn:=List UInt8×List (Int×Int)
abbrev Con:=List UInt8×List (Int×Int)×Int
structure CelN where
 ev:List Evn
 cs:List Itn
 rs:List Itn
 xs:List Exn
 ks:List Con
abbrev itsV(l:List Itn):AV:=.fsl (l.flatMap itV) l.length 5
theorem Qbx(l:List Itn):noRefs (l.flatMap itV)=true:=QaJ Qdv l
theorem Qbt(l:List Itn):noRef (itsV l)=true:=by rw[itsV,noRef];exact Qbx l
theorem QdH(l:List Itn):(l.flatMap itV).length=l.length*5:=Qa8 (k:=5) (fun _=>rfl) l
theorem Qc6{l:List Itn}{i:Nat}{x:Itn}(h:l[i]?=some x):(l.flatMap itV).drop (i*5)=.str x.1::sli x.2.al::.int .i64 x.2.n::sli x.2.ms::egs x.2.es::(l.drop (i+1)).flatMap itV:=QaY (f:=itV) (k:=5) (fun _=>rfl) h
def exZ(x:Exn):List AV:=[.str x.1,prs x.2]
abbrev exsZ(l:List Exn):AV:=.fsl (l.flatMap exZ) l.length 2
theorem QbV(l:List Exn):noRefs (l.flatMap exZ)=true:=QaJ (fun x=>by unfold exZ;rw[noRefs,noRefs,Qbi];rfl) l
theorem Qbu(l:List Exn):noRef (exsZ l)=true:=by rw[exsZ,noRef];exact QbV l
theorem QfB(l:List Exn):(l.flatMap exZ).length=l.length*2:=Qa8 (k:=2) (fun _=>rfl) l
theorem QgE{l:List Exn}{i:Nat}{x:Exn}(h:l[i]?=some x):(l.flatMap exZ).drop (i*2)=.str x.1::prs x.2::(l.drop (i+1)).flatMap exZ:=QaY (f:=exZ) (k:=2) (fun _=>rfl) h
theorem Qpz{x:Exn}:List.flatMap exZ [x]=[.str x.1,prs x.2]:=rfl
def coZ(x:Con):List AV:=[.str x.1,prs x.2.1,.int .i64 x.2.2]
abbrev cosZ(l:List Con):AV:=.fsl (l.flatMap coZ) l.length 3
theorem QbW(l:List Con):noRefs (l.flatMap coZ)=true:=QaJ (fun x=>by unfold coZ;rw[noRefs,noRefs,Qbi];rfl) l
theorem Qci(l:List Con):noRef (cosZ l)=true:=by rw[cosZ,noRef];exact QbW l
theorem QfC(l:List Con):(l.flatMap coZ).length=l.length*3:=Qa8 (k:=3) (fun _=>rfl) l
theorem QgF{l:List Con}{i:Nat}{x:Con}(h:l[i]?=some x):(l.flatMap coZ).drop (i*3)=.str x.1::prs x.2.1::.int .i64 x.2.2::(l.drop (i+1)).flatMap coZ:=QaY (f:=coZ) (k:=3) (fun _=>rfl) h
theorem QpA{x:Con}:List.flatMap coZ [x]=[.str x.1,prs x.2.1,.int .i64 x.2.2]:=rfl
abbrev celZ(c:CelN):AV:=.agg [evns c.ev,itsV c.cs,itsV c.rs,exsZ c.xs,cosZ c.ks]
theorem QbL(c:CelN):noRefs [evns c.ev,itsV c.cs,itsV c.rs,exsZ c.xs,cosZ c.ks]=true:=by rw[noRefs,noRefs,noRefs,noRefs,noRefs,QeR,Qbt,Qbt,Qbu,Qci];rfl
def szZ(c:CelN):List Int:=c.cs.map (·.2.n)
abbrev cdK(S:List Int)(xs:List Exn)(ks:List Con):List AV:=[sli S,exsZ xs,cosZ ks]
abbrev cdZ(S:List Int)(xs:List Exn)(ks:List Con):AV:=.agg (cdK S xs ks)
theorem QbX{S:List Int}{xs:List Exn}{ks:List Con}:noRefs (cdK S xs ks)=true:=by rw[cdK,noRefs,noRefs,noRefs,Qam,Qbu,Qci];rfl
theorem conds85X(c:CelN)(t:c.cs.length<=1000)(u:c.xs.length<=1000)(s:c.ks.length<=1000)(g:∀x∈c.xs,x.2.length<=8796093021952)(p:∀x∈c.ks,x.2.1.length<=8796093021952):PSpec Tryz.prog 85 [celZ c] (cdZ (szZ c) c.xs c.ks):=by
 have h:=QbL c;refine Zb2 64 ok85 rfl (by rw[noRefs,celZ,noRef,h];rfl) (by rw[noRef];exact QbX) ?_;have r:=QdH c.cs;have v:=QfB c.xs;have w:=QfC c.ks;have n:(szZ c).length=c.cs.length:=by simp[szZ]
 unfold s85;refine Zcx ?_;refine Qaj 100 (fun i:Nat=>[(1,.ptr 50 0 0),(2,.ptr 51 0 0),(3,.ptr 52 0 0),(12,itsV c.cs),(13,.int .i64 c.cs.length),(14,.int .i64 i)]) (fun i=>[(50,.cells 0 [evns c.ev,itsV c.cs,itsV c.rs,exsZ c.xs,cosZ c.ks]),(51,.cells 0 [.nilsl,.nilsl,.nilsl]),(52,.cells 0 [.sl 76 0 0 ((szZ c).take i).length 1,.nilsl,.nilsl]),(76,.cells 0 (ints ((szZ c).take i)))]) (fun i=>i<=c.cs.length) (fun i=>c.cs.length-i) 0 0 160 (fun _:Unit=>[(1,.ptr 50 0 0),(2,.ptr 51 0 0),(3,.ptr 52 0 0)]) (fun _=>[(50,.cells 0 [evns c.ev,itsV c.cs,itsV c.rs,exsZ c.xs,cosZ c.ks]),(51,.cells 0 [.nilsl,.nilsl,.nilsl]),(52,.cells 0 [sli (szZ c),.nilsl,.nilsl])]) (fun _=>True) ⟨[(50,.blk 64 0),(51,.blk 65 0),(52,.blk 67 0),(76,.nil)],rfl,au0,?_,au22⟩ (Zah _) ?_ ?_;·exact Zca rfl rfl gg (Zb1 h) (Zca rfl rfl gg (Zb1 rfl) (Zca rfl rfl gg (Zcg (Rn.x4 rfl rfl) (Zb1 rfl)) (Zcb rfl rfl Zb9)))
 ·rintro i hi;by_cases a:i<c.cs.length
  ·obtain⟨x,k⟩:=Qac a;have d:=Qc6 k;have j:5<=((c.cs.flatMap itV).drop (i*5)).length:=by rw[d];simp
   have q:(szZ c)[i]?=some x.2.n:=by unfold szZ;rw[ZaV,k];rfl
   have f:=take_succ' q;have b:((szZ c).take i).length=i:=by rw[Zar,n];omega
   refine Zcy (ZcB a d j b) ?_;refine⟨i+1,by omega,by omega,?_⟩;rw[f,Zai,QaA,b];refine⟨[(50,.blk 50 0),(51,.blk 51 0),(52,.blk 52 0),(76,.blk 76 1)],rfl,au0,?_,au22⟩;exact Zca rfl rfl gg (Zb1 h) (Zca rfl rfl gg (Zb1 rfl) (Zca rfl rfl gg (Zcg (Rn.x1 rfl rfl) (Zb1 rfl)) (Zca rfl rfl gg (Zb1 (SU.QaB (Qaa _) rfl)) Zb9)))
  have e:i=c.cs.length:=by omega
  subst e;have o:(szZ c).take c.cs.length=szZ c:=by rw[<-n,Zav]
  refine Zcy (Zcz a o) ?_;refine⟨(),?_⟩;refine⟨[(50,.blk 50 0),(51,.blk 51 0),(52,.blk 52 0)],rfl,au0,?_,au22⟩;exact Zca rfl rfl gg (Zb1 h) (Zca rfl rfl gg (Zb1 rfl) (Zca rfl rfl gg (Zcg (Zch rfl rfl rfl rfl (by simp[ints]) (Zb1 (Qaa _))) (Zb1 rfl)) Zb9))
 rintro _ _;refine Zcx ?_;refine Qaj 200 (fun i:Nat=>[(1,.ptr 50 0 0),(2,.ptr 51 0 0),(3,.ptr 52 0 0),(28,exsZ c.xs),(29,.int .i64 c.xs.length),(30,.int .i64 i)]) (fun i=>[(50,.cells 0 [evns c.ev,itsV c.cs,itsV c.rs,exsZ c.xs,cosZ c.ks]),(51,.cells 0 [.nilsl,.nilsl,.nilsl]),(52,.cells 0 [sli (szZ c),.sl 77 0 0 (c.xs.take i).length 2,.nilsl]),(77,.cells 0 ((c.xs.take i).flatMap exZ))]) (fun i=>i<=c.xs.length) (fun i=>c.xs.length-i) 0 2 260 (fun _:Unit=>[(1,.ptr 50 0 0),(2,.ptr 51 0 0),(3,.ptr 52 0 0)]) (fun _=>[(50,.cells 0 [evns c.ev,itsV c.cs,itsV c.rs,exsZ c.xs,cosZ c.ks]),(51,.cells 0 [.nilsl,.nilsl,.nilsl]),(52,.cells 0 [sli (szZ c),exsZ c.xs,.nilsl])]) (fun _=>True) ⟨[(50,.blk 50 0),(51,.blk 51 0),(52,.blk 52 0),(77,.nil)],rfl,au0,?_,au22⟩ (Zah _) ?_ ?_;·exact Zca rfl rfl gg (Zb1 h) (Zca rfl rfl gg (Zb1 rfl) (Zca rfl rfl gg (Zcg (Zb0 (Qam _)) (Zcg (Rn.x4 rfl rfl) (Zb1 rfl))) (Zcb rfl rfl Zb9)))
 ·rintro i hi;by_cases a:i<c.xs.length
  ·obtain⟨x,k⟩:=Qac a;have l:=Zae k;have d:=QgE k;have j:2<=((c.xs.flatMap exZ).drop (i*2)).length:=by rw[d];simp
   have f:=take_succ' k;have b:(c.xs.take i).length=i:=by rw[Zar];omega
   have m:=clone148X x.2 (g x l);have g:=QfB (c.xs.take i);rw[b]at g;refine Zcy (ZcB a d j b) ?_;refine cp m ?_;refine Zcy g ?_;refine⟨i+1,by omega,by omega,?_⟩;rw[f,Zai,Zaq,b,Qpz];refine⟨[(50,.blk 50 0),(51,.blk 51 0),(52,.blk 52 0),(77,.blk 77 1)],rfl,au0,?_,au22⟩;exact Zca rfl rfl gg (Zb1 h) (Zca rfl rfl gg (Zb1 rfl) (Zca rfl rfl gg (Zcg (Zb0 (Qam _)) (Zcg (Rn.x1 rfl rfl) (Zb1 rfl))) (Zca rfl rfl gg (Zb1 (SU.QaB (QbV _) (by rw[noRefs,noRefs,Qbi];rfl))) Zb9)))
  have e:i=c.xs.length:=by omega
  subst e;refine Zcu a ?_;refine⟨(),?_⟩;refine⟨[(50,.blk 50 0),(51,.blk 51 0),(52,.blk 52 0)],rfl,au0,?_,au22⟩;exact Zca rfl rfl gg (Zb1 h) (Zca rfl rfl gg (Zb1 rfl) (Zca rfl rfl gg (Zcg (Zb0 (Qam _)) (Zcg (Zch rfl rfl rfl rfl (QfB _) (Zb1 (QbV _))) (Zb1 rfl))) Zb9))
 rintro _ _;refine Zcx ?_;refine Qaj 300 (fun i:Nat=>[(2,.ptr 51 0 0),(3,.ptr 52 0 0),(47,cosZ c.ks),(48,.int .i64 c.ks.length),(49,.int .i64 i)]) (fun i=>[(51,.cells 0 [.nilsl,.nilsl,.nilsl]),(52,.cells 0 [sli (szZ c),exsZ c.xs,.sl 78 0 0 (c.ks.take i).length 3]),(78,.cells 0 ((c.ks.take i).flatMap coZ))]) (fun i=>i<=c.ks.length) (fun i=>c.ks.length-i) 0 4 360 (fun _:Unit=>[(2,.ptr 51 0 0),(3,.ptr 52 0 0)]) (fun _=>[(51,.cells 0 [.nilsl,.nilsl,.nilsl]),(52,.cells 0 [sli (szZ c),exsZ c.xs,cosZ c.ks])]) (fun _=>True) ⟨[(51,.blk 51 0),(52,.blk 52 0),(78,.nil)],rfl,au0,?_,au22⟩ (Zah _) ?_ ?_;·exact Zca rfl rfl gg (Zb1 rfl) (Zca rfl rfl gg (Zcg (Zb0 (Qam _)) (Zcg (Zb0 (Qbu _)) (Zcg (Rn.x4 rfl rfl) Zcf))) (Zcb rfl rfl Zb9))
 ·rintro i hi;by_cases a:i<c.ks.length
  ·obtain⟨x,k⟩:=Qac a;have l:=Zae k;have d:=QgF k;have j:3<=((c.ks.flatMap coZ).drop (i*3)).length:=by rw[d];simp
   have f:=take_succ' k;have b:(c.ks.take i).length=i:=by rw[Zar];omega
   have m:=clone149X x.2.1 (p x l);have g:=QfC (c.ks.take i);rw[b]at g;refine Zcy (ZcB a d j b) ?_;refine cp m ?_;refine Zcy g ?_;refine⟨i+1,by omega,by omega,?_⟩;rw[f,Zai,Zaq,b,QpA];refine⟨[(51,.blk 51 0),(52,.blk 52 0),(78,.blk 78 1)],rfl,au0,?_,au22⟩;exact Zca rfl rfl gg (Zb1 rfl) (Zca rfl rfl gg (Zcg (Zb0 (Qam _)) (Zcg (Zb0 (Qbu _)) (Zcg (Rn.x1 rfl rfl) Zcf))) (Zca rfl rfl gg (Zb1 (SU.QaB (QbW _) (by rw[noRefs,noRefs,Qbi];rfl))) Zb9))
  have e:i=c.ks.length:=by omega
  subst e;refine Zcu a ?_;refine⟨(),?_⟩;refine⟨[(51,.blk 51 0),(52,.blk 52 0)],rfl,au0,?_,au22⟩;exact Zca rfl rfl gg (Zb1 rfl) (Zca rfl rfl gg (Zcg (Zb0 (Qam _)) (Zcg (Zb0 (Qbu _)) (Zcg (Zch rfl rfl rfl rfl (QfC _) (Zb1 (QbW _))) Zcf))) Zb9)
 rintro _ _;refine Zcx ?_;refine⟨.inr trivial,_,rfl,?_⟩;exact Zb0 (by rw[noRef];exact QbX)
end Go.AM.SO
namespace Go.AM.SO
open Go.Proofs Go.AM.SD Go.AM.SE
def grB(n:Int):Bool:=decide (n< -65536\/65536<n)
theorem great190X(n:Int):PSpec Tryz.prog 190 [.int .i64 n] (.bool (grB n)):=by
 refine Zb3 64 ok190 rfl rfl rfl ?_;unfold grB;by_cases a:n< -65536;·unfold s190;refine Zcy a ?_;exact⟨.inr trivial,_,rfl,by simp[a,resOf,QaH]⟩
 by_cases b:65536<n;·unfold s190;refine Zcy (Zcz a b) ?_;exact⟨.inr trivial,_,rfl,by simp[a,b,resOf,QaH]⟩
 unfold s190;refine Zcy (Zcz a b) ?_;exact⟨.inr trivial,_,rfl,by simp[a,b,resOf,QaH]⟩
def exEr(S:List Int)(l:List (Int×Int))(i:Nat):Int:=let x:=l.getD i (0,0)
 let y:=l.getD (i-1) (0,0)
 if x.1<0\/(S.length:Int)<=x.1 then 2 else if 0<i/\x.1<=y.1 then 5 else if x.2<0\/S.getD x.1.toNat 0<=x.2 then 2 else 0
theorem QpB{S:List Int}{l:List (Int×Int)}{i:Nat}{x:Int×Int}(h:l[i]?=some x):exEr S l i=if x.1<0\/(S.length:Int)<=x.1 then 2 else if 0<i/\x.1<=(l.getD (i-1) (0,0)).1 then 5 else if x.2<0\/S.getD x.1.toNat 0<=x.2 then 2 else 0:=by unfold exEr;rw[QaM h]
def exErr(S:List Int)(l:List (Int×Int)):Int:=if l.length=0 then 12 else fe (exEr S l) l.length
theorem Qct{S:List Int}{l:List (Int×Int)}(a:l.length≠0)(e:Int)(h:fe (exEr S l) l.length=e)(_:e≠0):exErr S l=e:=(if_neg a).trans h
theorem _root_.Go.AM.au23{p:Prop}(h:p:=by repeat(first|exact Zb7|(refine Zb8 ?_ ?_;·(first|exact Rn.any|exact Rn.x1 rfl rfl|exact Rn.x2 rfl rfl|exact Rn.x3 rfl rfl|exact Rn.x4 rfl rfl|exact Rn.x5 rfl|exact Rn.x6 rfl|exact Rn.x7 rfl|(refine Rn.slot ?_ ?_;(first|rfl|(rw[ZaS];rfl));(first|rfl|(simp only[noRef,noRefs,Qah,Zak,Zac,Zag,Qaa,Qam,Qab,Qd8];done)))|(refine Rn.fn ?_ ?_<;>(repeat'(first|exact Zcf|refine Zcg ?_ ?_|exact Zb0 rfl|exact Rn.x6 rfl|exact Rn.x2 rfl rfl|exact Rn.x5 rfl|exact Rn.x1 rfl rfl))))))):p:=h
theorem excl103X(S:List Int)(xs:List Exn)(ks:List Con)(x:Exn)(P:x.2.length<=8796093021952):PSpec Tryz.prog 103 [cdZ S xs ks,.agg (exZ x)] (.int .i64 (exErr S x.2)):=by
 obtain⟨B,l⟩:=x;dsimp only at P;have hex:exZ (B,l)=[.str B,prs l]:=rfl;rw[hex];have p:=@QbX S xs ks;have o:noRefs [.str B,prs l]=true:=by rw[noRefs,noRefs,Qbi];rfl
 refine Zb3 64 ok103 rfl (by rw[noRefs,noRefs,noRef,noRef,p,o];rfl) rfl ?_;have O:=Qdr l;by_cases t:l.length=0
 ·have f:(l.length:Int)=0:=by omega
  unfold s103;refine Zcy f ?_;exact⟨.inr trivial,_,rfl,by rw[exErr,if_pos t];rfl⟩
 have f:=t;have C:¬(l.length:Int)=0:=by omega
 unfold s103;refine Zcy C ?_;refine Qay 100 (fun i:Nat=>[(2,.ptr 50 0 0),(3,.ptr 51 0 0),(12,prs l),(13,.int .i64 l.length),(14,.int .i64 i)]) (fun _=>[(50,.cells 0 (cdK S xs ks)),(51,.cells 0 [.str B,prs l])]) (fun i=>i<=l.length/\∀j,j<i->exEr S l j=0) (fun i=>l.length-i) 0 ?_ ⟨Zah _,fun j K=>absurd K (Zaw _)⟩ ?_;·refine⟨[(50,.blk 64 0),(51,.blk 65 0)],rfl,au0,?_,au23⟩;exact Zca rfl rfl gg (Zb1 p) (Zca rfl rfl gg (Zb1 o) Zb9)
 rintro i⟨hi,E⟩;by_cases b:i<l.length
 ·obtain⟨x,L⟩:=Qac b;have d:=QfA L;have g:2<=((l.flatMap prZ).drop (i*2)).length:=by rw[d];simp
  have a:∀e:Int,exEr S l i=e->e≠0->fe (exEr S l) l.length=e:=fun e h I=>fe_at h I E b;have up:exEr S l i=0->∀j,j<i+1->exEr S l j=0:=fe_up E;have J:=QpB (S:=S) L;rw[J]at a up;clear J;obtain⟨c,s⟩:=x;dsimp only at*;by_cases h1:c<0;·refine Zcy (ZcB b d g h1) ?_;exact⟨.inr trivial,_,rfl,by rw[Qct f 2 (a 2 (by rw[if_pos (.inl h1)]) (by decide)) (by decide)];rfl⟩
  by_cases N:(S.length:Int)<=c;·refine Zcy (ZcC b d g h1 N) ?_;exact⟨.inr trivial,_,rfl,by rw[Qct f 2 (a 2 (by rw[if_pos (.inr N)]) (by decide)) (by decide)];rfl⟩
  have H:¬(c<0\/(S.length:Int)<=c):=by omega
  rw[if_neg H]at a up;obtain⟨k,rfl⟩:∃k:Nat,c=k:=⟨c.toNat,by omega⟩;have q:k<S.length:=by omega
  obtain⟨z,t⟩:=Qac q;have G:S.getD k 0=z:=QaM t;try simp only[Int.toNat_natCast,G]at a up
  have m:¬(S.length:Int)<=(k:Int):=by omega
  by_cases I:i=0
  ·have r:¬(0:Int)<(i:Int):=by omega
   rw[if_neg (by omega)]at a up;by_cases q1:s<0;·refine Zcy (ZcE b d g h1 m r @q1) ?_;exact⟨.inr trivial,_,rfl,by rw[Qct f 2 (a 2 (by rw[if_pos (.inl q1)]) (by decide)) (by decide)];rfl⟩
   by_cases q2:z<=s;·refine Zcy (ZcH b d g h1 m r @q1 @q2 (Qav t) q) ?_;exact⟨.inr trivial,_,rfl,by rw[Qct f 2 (a 2 (by rw[if_pos (.inr q2)]) (by decide)) (by decide)];rfl⟩
   refine Zcy (ZcH b d g h1 m r @q1 @q2 (Qav t) q) ?_;refine⟨i+1,by omega,⟨by omega,up (by rw[if_neg (by omega)])⟩,?_⟩;refine⟨[(50,.blk 50 0),(51,.blk 51 0)],rfl,au0,?_,au23⟩;exact Zca rfl rfl gg (Zb1 p) (Zca rfl rfl gg (Zb1 o) Zb9)
  obtain⟨y,M⟩:=Qac (l:=l) (i:=i-1) (by omega);have n:=QfA M;have F:l.getD (i-1) (0,0)=y:=QaM M;have r:(0:Int)<(i:Int):=by omega
  have w:(i:Int)-1=((i-1:Nat):Int):=by omega
  have v:((i-1:Nat):Int)<l.length:=by omega
  have A:i-1<l.length:=by omega
  rw[F]at a up;by_cases u:(k:Int)<=y.1;·refine Zcy (ZcI b d g h1 m r w v A n u) ?_;exact⟨.inr trivial,_,rfl,by rw[Qct f 5 (a 5 (by rw[if_pos ⟨by omega,u⟩]) (by decide)) (by decide)];rfl⟩
  rw[if_neg (by omega)]at a up;by_cases q1:s<0;·refine Zcy (ZcJ b d g h1 m r w v A n u @q1) ?_;exact⟨.inr trivial,_,rfl,by rw[Qct f 2 (a 2 (by rw[if_pos (.inl q1)]) (by decide)) (by decide)];rfl⟩
  by_cases q2:z<=s;·refine Zcy (ZcM b d g h1 m r w v A n u @q1 @q2 (Qav t) q) ?_;exact⟨.inr trivial,_,rfl,by rw[Qct f 2 (a 2 (by rw[if_pos (.inr q2)]) (by decide)) (by decide)];rfl⟩
  refine Zcy (ZcM b d g h1 m r w v A n u @q1 @q2 (Qav t) q) ?_;refine⟨i+1,by omega,⟨by omega,up (by rw[if_neg (by omega)])⟩,?_⟩;refine⟨[(50,.blk 50 0),(51,.blk 51 0)],rfl,au0,?_,au23⟩;exact Zca rfl rfl gg (Zb1 p) (Zca rfl rfl gg (Zb1 o) Zb9)
 refine Zcy b ?_;exact⟨.inr trivial,_,rfl,by rw[exErr,if_neg f,Qa6 fun j K=>E j (by omega)];rfl⟩
def coEr(S:List Int)(l:List (Int×Int))(i:Nat):Int:=let x:=l.getD i (0,0)
 let y:=l.getD (i-1) (0,0)
 if x.1<0\/(S.length:Int)<=x.1 then 2 else if 0<i/\x.1<=y.1 then 5 else if x.2=0\/grB x.2=true then 2 else 0
theorem QpC{S:List Int}{l:List (Int×Int)}{i:Nat}{x:Int×Int}(h:l[i]?=some x):coEr S l i=if x.1<0\/(S.length:Int)<=x.1 then 2 else if 0<i/\x.1<=(l.getD (i-1) (0,0)).1 then 5 else if x.2=0\/grB x.2=true then 2 else 0:=by unfold coEr;rw[QaM h]
def coErr(S:List Int)(l:List (Int×Int))(a:Int):Int:=if l.length=0 then 12 else if fe (coEr S l) l.length≠0 then fe (coEr S l) l.length else if grB a=true then 2 else 0
theorem Qcu{S:List Int}{l:List (Int×Int)}{b:Int}(a:l.length≠0)(e:Int)(h:fe (coEr S l) l.length=e)(he:e≠0):coErr S l b=e:=(if_neg a).trans ((if_pos (by rw[h];exact he)).trans h)
theorem cons105X(S:List Int)(xs:List Exn)(ks:List Con)(x:Con)(R:x.2.1.length<=8796093021952):PSpec Tryz.prog 105 [cdZ S xs ks,.agg (coZ x)] (.int .i64 (coErr S x.2.1 x.2.2)):=by
 obtain⟨C,l,u⟩:=x;dsimp only at R;have hex:coZ (C,l,u)=[.str C,prs l,.int .i64 u]:=rfl;rw[hex];have p:=@QbX S xs ks;have q:noRefs [.str C,prs l,.int .i64 u]=true:=by rw[noRefs,noRefs,Qbi];rfl
 refine Zb3 64 ok105 rfl (by rw[noRefs,noRefs,noRef,noRef,p,q];rfl) rfl ?_;have Q:=Qdr l;by_cases t:l.length=0
 ·have d:(l.length:Int)=0:=by omega
  unfold s105;refine Zcy d ?_;exact⟨.inr trivial,_,rfl,by rw[coErr,if_pos t];rfl⟩
 have d:=t;have E:¬(l.length:Int)=0:=by omega
 unfold s105;refine Zcy E ?_;refine Qay 100 (fun i:Nat=>[(2,.ptr 50 0 0),(3,.ptr 51 0 0),(12,prs l),(13,.int .i64 l.length),(14,.int .i64 i)]) (fun _=>[(50,.cells 0 (cdK S xs ks)),(51,.cells 0 [.str C,prs l,.int .i64 u])]) (fun i=>i<=l.length/\∀j,j<i->coEr S l j=0) (fun i=>l.length-i) 0 ?_ ⟨Zah _,fun j M=>absurd M (Zaw _)⟩ ?_;·refine⟨[(50,.blk 64 0),(51,.blk 65 0)],rfl,au0,?_,au23⟩;exact Zca rfl rfl gg (Zb1 p) (Zca rfl rfl gg (Zb1 q) Zb9)
 rintro i⟨hi,G⟩;by_cases b:i<l.length
 ·obtain⟨x,N⟩:=Qac b;have f:=QfA N;have g:2<=((l.flatMap prZ).drop (i*2)).length:=by rw[f];simp
  have a:∀e:Int,coEr S l i=e->e≠0->fe (coEr S l) l.length=e:=fun e h K=>fe_at h K G b;have up:coEr S l i=0->∀j,j<i+1->coEr S l j=0:=fe_up G;have L:=QpC (S:=S) N;rw[L]at a up;clear L;obtain⟨c,s⟩:=x;dsimp only at*;by_cases h1:c<0;·refine Zcy (ZcB b f g h1) ?_;exact⟨.inr trivial,_,rfl,by rw[Qcu d 2 (a 2 (by rw[if_pos (.inl h1)]) (by decide)) (by decide)];rfl⟩
  by_cases P:(S.length:Int)<=c;·refine Zcy (ZcC b f g h1 P) ?_;exact⟨.inr trivial,_,rfl,by rw[Qcu d 2 (a 2 (by rw[if_pos (.inr P)]) (by decide)) (by decide)];rfl⟩
  have F:¬(c<0\/(S.length:Int)<=c):=by omega
  rw[if_neg F]at a up;obtain⟨k,rfl⟩:∃k:Nat,c=k:=⟨c.toNat,by omega⟩;have I:k<S.length:=by omega
  obtain⟨z,t⟩:=Qac I;have J:S.getD k 0=z:=QaM t;try simp only[Int.toNat_natCast,J]at a up
  have m:¬(S.length:Int)<=(k:Int):=by omega
  by_cases K:i=0
  ·have r:¬(0:Int)<(i:Int):=by omega
   rw[if_neg (by omega)]at a up;by_cases q1:s=0;·subst q1;refine Zcy (ZcD b f g h1 m r) ?_;exact⟨.inr trivial,_,rfl,by rw[Qcu d 2 (a 2 (by rw[if_pos (.inl rfl)]) (by decide)) (by decide)];rfl⟩
   have o:=great190X s;cases q2:grB s with|true=>rw[q2]at o;refine Zcy (ZcE b f g h1 m r @q1) ?_;refine cp o ?_;refine Zcx ?_;exact⟨.inr trivial,_,rfl,by rw[Qcu d 2 (a 2 (by rw[if_pos (.inr q2)]) (by decide)) (by decide)];rfl⟩|false=>rw[q2]at o;refine Zcy (ZcE b f g h1 m r @q1) ?_;refine cp o ?_;refine Zcx ?_;refine⟨i+1,by omega,⟨by omega,up (by rw[if_neg (fun h=>h.elim q1 fun h=>by rw[q2]at h;cases h)])⟩,?_⟩;refine⟨[(50,.blk 50 0),(51,.blk 51 0)],rfl,au0,?_,au23⟩;exact Zca rfl rfl gg (Zb1 p) (Zca rfl rfl gg (Zb1 q) Zb9)
  obtain⟨y,O⟩:=Qac (l:=l) (i:=i-1) (by omega);have n:=QfA O;have H:l.getD (i-1) (0,0)=y:=QaM O;have r:(0:Int)<(i:Int):=by omega
  have A:(i:Int)-1=((i-1:Nat):Int):=by omega
  have B:((i-1:Nat):Int)<l.length:=by omega
  have w:i-1<l.length:=by omega
  rw[H]at a up;by_cases v:(k:Int)<=y.1;·refine Zcy (ZcI b f g h1 m r A B w n v) ?_;exact⟨.inr trivial,_,rfl,by rw[Qcu d 5 (a 5 (by rw[if_pos ⟨by omega,v⟩]) (by decide)) (by decide)];rfl⟩
  rw[if_neg (by omega)]at a up;by_cases q1:s=0;·subst q1;refine Zcy (ZcI b f g h1 m r A B w n v) ?_;exact⟨.inr trivial,_,rfl,by rw[Qcu d 2 (a 2 (by rw[if_pos (.inl rfl)]) (by decide)) (by decide)];rfl⟩
  have o:=great190X s;cases q2:grB s with|true=>rw[q2]at o;refine Zcy (ZcJ b f g h1 m r A B w n v @q1) ?_;refine cp o ?_;refine Zcx ?_;exact⟨.inr trivial,_,rfl,by rw[Qcu d 2 (a 2 (by rw[if_pos (.inr q2)]) (by decide)) (by decide)];rfl⟩|false=>rw[q2]at o;refine Zcy (ZcJ b f g h1 m r A B w n v @q1) ?_;refine cp o ?_;refine Zcx ?_;refine⟨i+1,by omega,⟨by omega,up (by rw[if_neg (fun h=>h.elim q1 fun h=>by rw[q2]at h;cases h)])⟩,?_⟩;refine⟨[(50,.blk 50 0),(51,.blk 51 0)],rfl,au0,?_,au23⟩;exact Zca rfl rfl gg (Zb1 p) (Zca rfl rfl gg (Zb1 q) Zb9)
 have t:=Qa6 (f:=coEr S l) (n:=l.length) fun j M=>G j (by omega);have o:=great190X u;cases q2:grB u with|true=>rw[q2]at o;refine Zcy b ?_;refine cp o ?_;refine Zcx ?_;exact⟨.inr trivial,_,rfl,by rw[coErr,if_neg d,if_neg (fun h=>h t),if_pos q2];rfl⟩|false=>rw[q2]at o;refine Zcy b ?_;refine cp o ?_;refine Zcx ?_;exact⟨.inr trivial,_,rfl,by rw[coErr,if_neg d,if_neg (fun h=>h t),if_neg (by rw[q2];decide)];rfl⟩
end Go.AM.SO
namespace Go.AM
theorem Rn.yldB{m b g:Nat}{π:Nat->Option Src}{h:Heap}(hm:Nat.ble (b+1) m=true):Rn m π h (.yld b g) (.yld b g):=fun _ c w v _ _ a=>by have e:(nctx m π h c).ρ b g=c.ρ b g:=QbB (Zat hm);simp only[VRel]at a⊢;rw[e];exact a
theorem RB.loopB{m b g N:Nat}{π:Nat->Option Src}{h:Heap}{T:Tmps}{c:List Nat}{a body:LCode}{st:LSt}{r:HL}(hm:Nat.blt b m=true)(d:h.get b=some (.loop g N T c a body st))(i:RT m π h T T)(f:RB m π h r):RB m π h ((b,.loop g N T c a body st)::r):=⟨.inl ⟨by simpa using hm,T,d,i⟩,f⟩
end Go.AM
namespace Go.AM.SO
open Go.Proofs Go.AM.SD Go.AM.SE
abbrev nlA:SCode:=(.region [Zm 5 10 []] [] [9,10])
abbrev nlB:SCode:=(.block 1 (.seq (.region [Zm 11 5 [],Zl 12 2 [],Zb 13 .eql 11 12 [0,1]] [] [2,5,11,12]) (.cond (.t 13) (.seq (.region [Zy (.store 1 (.t 4) (.c (.int .i64 8))) []] [] [13]) .ret) .skip)))
abbrev nlT(f:Nat)(cap:List AV):Tmps:=[(2,.ptr 64 0 0),(4,.ptr 65 0 0),(9,.fn f [] cap)]
abbrev nlP(f:Nat)(cap:List AV)(st:LSt):Blk:=.loop 0 14 (nlT f cap) [10] (.s nlA) (.s nlB) st
abbrev nlH(s:List UInt8)(e:Int)(f:Nat)(cap:List AV)(st:LSt):HL:=[(150,nlP f cap st),(64,.cells 0 [.str s]),(65,.cells 0 [.int .i64 e])]
theorem Qfw{a b:List UInt8}:aBin .eql (.str a) (.str b)=some (.bool (decide (a=b))):=rfl
theorem set2h{h:Heap}{k j:Nat}{a b:Blk}(f:Nat.blt k 1099511627775=true)(d:h.get k=some b):((h.set k a).set k b).get j=h.get j:=by
 have c:k<1099511627775:=by simpa using f
 by_cases e:j=k;·subst e;rw[QaS c,d]
 rw[QaW c e,QaW c e]
theorem set3h{h:Heap}{k f j:Nat}{a b c:Blk}(i:(Nat.blt k 1099511627775&&Nat.blt f 1099511627775)=true):(((h.set k a).set f b).set k c).get j=((h.set f b).set k c).get j:=by
 simp only[Zab,ZbJ]at i;obtain⟨h1,d⟩:=i;by_cases e:j=k;·subst e;rw[QaS h1,QaS h1]
 rw[QaW h1 e,QaW h1 e];by_cases g:j=f;·subst g;rw[QaS d,QaS d]
 rw[QaW d g,QaW d g,QaW h1 e]
theorem Qdw{α:Type}{f:α->List AV}{k:Nat}(h:∀x,(f x).length=k):∀{l:List α}(i:Nat),(l.flatMap f).take (i*k)=(l.take i).flatMap f
 |[],i=>by simp|y::l,0=>by simp|y::l,i+1=>by
  rw[Zay,List.take_append,h,ZaD (by rw[h,Za3];omega),ZaN,Zay];have:(i+1)*k-k=i*k:=by rw[Za3];omega
  rw[this,Qdw h i]
theorem Qkm{s t:List UInt8}{f:Nat}{cap:List AV}{h:Heap}(b:t≠s)(h1:h.get 64=some (.cells 0 [.str s]))(a:h.get 150=some (nlP f cap .ready)):RSpec Tryz.prog 150 0 [.str t] h (.bool true) h:=by refine RSpec.of_wS (n:=300) rfl a rfl rfl rfl ?_;simp(disch:=first|omega|exact PairsOK.mk rfl|(simp only[lenW]<;>omega))only[upsT,h1,a,Qfw,b,wW,wV,simprocAttr];exact⟨rfl,fun x=>set2h rfl a⟩
theorem QiE{s:List UInt8}{f:Nat}{cap:List AV}{h:Heap}(h1:h.get 64=some (.cells 0 [.str s]))(b:h.get 65=some (.cells 0 [.int .i64 0]))(a:h.get 150=some (nlP f cap .ready)):RSpec Tryz.prog 150 0 [.str s] h (.bool false) ((h.set 65 (.cells 0 [.int .i64 8])).set 150 (nlP f cap (.done .ret))):=by refine RSpec.of_wS (n:=300) rfl a rfl rfl rfl ?_;simp(disch:=first|omega|exact PairsOK.mk rfl|(simp only[lenW]<;>omega))only[upsT,h1,b,a,Qfw,wW,wV,simprocAttr];exact⟨rfl,fun x=>set3h rfl⟩
def nmErr(s:List UInt8)(N:List (List UInt8)):Int:=if nmOk s=false then 7 else if s∈N then 8 else 0
theorem clos101(s:List UInt8)(S K:AV)(xs:List Exn)(i:Nat)(hi:i<=xs.length)(H:xs.length<=1000)(B:noRefs [S,exsZ xs,K]=true)(d:Bool)(w:d=decide (s∈(xs.take i).map (·.1))):HSpec Tryz.prog 101 [.yld 150 0,.fptr [S,exsZ xs,K],.fptr [.int .i64 (i:Int)]] (hp (nlH s 0 101 [.fptr [S,exsZ xs,K],.fptr [.int .i64 (i:Int)]] .ready)) (.tup []) (hp (nlH s (if d then 8 else 0) 101 [.fptr [S,exsZ xs,K],.fptr [.int .i64 (i:Int)]] (if d then .done .ret else .ready))):=by
 refine HSpec.Qfn (m:=200) 1000 TX.ok101 rfl rfl rfl ?_;have A:=QfB xs;have l:(i:Int)<=(xs.length:Int):=by omega
 have p:((xs.flatMap exZ).take (i*2))=(xs.take i).flatMap exZ:=Qdw (k:=2) (fun _=>rfl) i;have z:(xs.take i).length=i:=by rw[Zar];omega
 unfold TX.s101;refine Zcy (Zcz l p) ?_;clear p l A;generalize g:[AV.fptr [S,exsZ xs,K],AV.fptr [.int .i64 (i:Int)]]=cap at*;have v:noRef (.fn 101 [] cap)=true:=by
  have:noRefs cap=true:=by rw[<-g];simp only[noRefs,noRef]at B⊢;rw[B];rfl
  exact Qbw this
 clear g;generalize xs.take i=N at*;have r:∀{π:Nat->Option Src}{h:Heap},RT 200 π h (nlT 101 cap) (nlT 101 cap):=fun{π h}=>Zb8 (Rn.x6 rfl) (Zb8 (Rn.x6 rfl) (Zb8 (Zb0 v) Zb7));have a:∀{π:Nat->Option Src}{h:Heap}{s:List UInt8}{e:Int}{st:LSt},h.get 64=some (.cells 0 [.str s])->h.get 65=some (.cells 0 [.int .i64 e])->h.get 150=some (nlP 101 cap st)->RB 200 π h (nlH s e 101 cap st):=fun{π h s e st}h1 F E=>RB.loopB rfl E r (Zcd rfl h1 (Zb1 rfl) (Zcd rfl F (Zb1 rfl) Zb9));subst z;have o:=Qbu N;refine Qaj 1100 (fun k:Nat=>[(0,.yld 150 0),(9,exsZ N),(10,.int .i64 N.length),(11,.int .i64 k)]) (fun _=>nlH s 0 101 cap .ready) (fun k=>k<=N.length/\∀(j:Nat)y,j<k->N[j]?=some y->y.1≠s) (fun k=>N.length-k) 0 0 1200 (fun _:Unit=>[]) (fun _=>nlH s 0 101 cap .ready) (fun _=>d=false) ?_ ⟨Zah _,fun j y q=>absurd q (Zaw _)⟩ ?_ ?_;·refine⟨[(150,.nil),(64,.nil),(65,.nil)],rfl,au0,a gg gg gg,Zb8 (Rn.yldB rfl) (Zb8 (Zb0 o) au23)⟩
 ·rintro k⟨G,C⟩;by_cases b:k<N.length
  ·obtain⟨x,u⟩:=Qac b;have f:=QgE u;have m:2<=((N.flatMap exZ).drop (k*2)).length:=by rw[f];simp
   by_cases he:x.1=s;·subst he;have hm:decide (x.1∈N.map (·.1))=true:=decide_eq_true (Zas.2 ⟨x,Zae u,rfl⟩);rw[hm]at w;subst w;refine Zcy (ZcA b f m) ?_;refine cy (QiE (f:=101) (cap:=cap) gg gg gg) ?_;refine Zcx ?_;exact⟨.inr trivial,_,rfl,rfl,[(150,.nil),(64,.nil),(65,.nil)],rfl,au0,a gg gg gg,Zb7⟩
   refine Zcy (ZcA b f m) ?_;refine cy (Qkm (f:=101) (cap:=cap) he gg gg) ?_;refine Zcx ?_;refine⟨k+1,by omega,⟨by omega,fun j y q n=>?_⟩,[(150,.nil),(64,.nil),(65,.nil)],rfl,au0,a gg gg gg,Zb8 (Rn.yldB rfl) (Zb8 (Zb0 o) au23)⟩;by_cases e:j=k;·subst e;rw[u]at n;cases n;exact he
   exact C j y (by omega) n
  have hm:s∉N.map (·.1):=fun h=>by obtain⟨y,n,e⟩:=Zas.1 h;obtain⟨j,q,t⟩:=ZaX n;exact C j y (by omega) (by rw[Zad q,t]) e
  have c:d=false:=by rw[w];exact decide_eq_false hm
  refine Zcy b ?_;exact⟨(),c,[(150,.nil),(64,.nil),(65,.nil)],rfl,au0,a gg gg gg,Zb7⟩
 rintro _ c;subst c;refine Zcx ?_;exact⟨.inl trivial,_,rfl,rfl,[(150,.nil),(64,.nil),(65,.nil)],rfl,au0,a gg gg gg,Zb7⟩
theorem name101(s:List UInt8)(S K:AV)(xs:List Exn)(i:Nat)(hi:i<=xs.length)(h:xs.length<=1000)(c:s.length<=9223372036854775807)(d:noRefs [S,exsZ xs,K]=true):PSpec Tryz.prog 102 [.str s,.fn 101 [] [.fptr [S,exsZ xs,K],.fptr [.int .i64 (i:Int)]]] (.int .i64 (nmErr s ((xs.take i).map (·.1)))):=by
 have b:noRef (.fn 101 [] [AV.fptr [S,exsZ xs,K],AV.fptr [.int .i64 (i:Int)]])=true:=by refine Qbw ?_;simp only[noRefs,noRef]at d⊢;rw[d];rfl
 refine Zb3 64 TX.ok102 rfl (by rw[noRefs,noRefs,b];rfl) rfl ?_;have hc:=clos101 s S K xs i hi h d;have f:=name135 s c;unfold nmErr;generalize g:[AV.fptr [S,exsZ xs,K],AV.fptr [.int .i64 (i:Int)]]=cap at*;unfold TX.s102;refine Zcx ?_;refine cp f ?_;cases ho:nmOk s with|false=>refine Zcx ?_;exact⟨.inr trivial,_,rfl,rfl⟩|true=>
  refine Zcx ?_;have a:Rec 0 (nlT 101 cap) [(64,.cells 0 [.str s]),(65,.cells 0 [.int .i64 0])] [(2,.ptr 64 0 0),(4,.ptr 65 0 0),(9,.fn 101 [] cap)] ((Tr.e.set 64 (.cells 0 [.str s])).set 65 (.cells 0 [.int .i64 0])):=by refine⟨[(64,.blk 64 0),(65,.blk 65 0)],rfl,Zb6,Zca rfl rfl gg (Zb1 rfl) (Zca rfl rfl gg (Zb1 rfl) Zb9),Zb8 (Rn.x2 rfl rfl) (Zb8 (Rn.x2 rfl rfl) (Zb8 (Zb0 b) Zb7))⟩
  by_cases hm:s∈(xs.take i).map (·.1);·have h1:=hc true (decide_eq_true hm).symm;simp only[if_true]at h1;refine Qd7 (n':=400) (b:=150) (st:=.done .ret) a rfl gg rfl h1 gg ?_;unfold leftQ;refine⟨rfl,?_⟩;refine Zcx ?_;exact⟨.inr trivial,_,rfl,by rw[if_pos hm];rfl⟩
  have h1:=hc false (decide_eq_false hm).symm;simp only[Zap,if_false]at h1;refine Qd7 (n':=400) (b:=150) (st:=.ready) a rfl gg rfl h1 gg ?_;unfold leftQ;refine Zcx ?_;exact⟨.inr trivial,_,rfl,by rw[if_neg hm];rfl⟩
theorem clos104(s:List UInt8)(S K:AV)(xs:List Con)(i:Nat)(hi:i<=xs.length)(H:xs.length<=1000)(B:noRefs [S,K,cosZ xs]=true)(d:Bool)(w:d=decide (s∈(xs.take i).map (·.1))):HSpec Tryz.prog 104 [.yld 150 0,.fptr [S,K,cosZ xs],.fptr [.int .i64 (i:Int)]] (hp (nlH s 0 104 [.fptr [S,K,cosZ xs],.fptr [.int .i64 (i:Int)]] .ready)) (.tup []) (hp (nlH s (if d then 8 else 0) 104 [.fptr [S,K,cosZ xs],.fptr [.int .i64 (i:Int)]] (if d then .done .ret else .ready))):=by
 refine HSpec.Qfn (m:=200) 1000 TX.ok104 rfl rfl rfl ?_;have A:=QfC xs;have l:(i:Int)<=(xs.length:Int):=by omega
 have p:((xs.flatMap coZ).take (i*3))=(xs.take i).flatMap coZ:=Qdw (k:=3) (fun _=>rfl) i;have z:(xs.take i).length=i:=by rw[Zar];omega
 unfold TX.s104;refine Zcy (Zcz l p) ?_;clear p l A;generalize g:[AV.fptr [S,K,cosZ xs],AV.fptr [.int .i64 (i:Int)]]=cap at*;have v:noRef (.fn 104 [] cap)=true:=by
  have:noRefs cap=true:=by rw[<-g];simp only[noRefs,noRef]at B⊢;rw[B];rfl
  exact Qbw this
 clear g;generalize xs.take i=N at*;have r:∀{π:Nat->Option Src}{h:Heap},RT 200 π h (nlT 104 cap) (nlT 104 cap):=fun{π h}=>Zb8 (Rn.x6 rfl) (Zb8 (Rn.x6 rfl) (Zb8 (Zb0 v) Zb7));have a:∀{π:Nat->Option Src}{h:Heap}{s:List UInt8}{e:Int}{st:LSt},h.get 64=some (.cells 0 [.str s])->h.get 65=some (.cells 0 [.int .i64 e])->h.get 150=some (nlP 104 cap st)->RB 200 π h (nlH s e 104 cap st):=fun{π h s e st}h1 F E=>RB.loopB rfl E r (Zcd rfl h1 (Zb1 rfl) (Zcd rfl F (Zb1 rfl) Zb9));subst z;have o:=Qci N;refine Qaj 1100 (fun k:Nat=>[(0,.yld 150 0),(9,cosZ N),(10,.int .i64 N.length),(11,.int .i64 k)]) (fun _=>nlH s 0 104 cap .ready) (fun k=>k<=N.length/\∀(j:Nat)y,j<k->N[j]?=some y->y.1≠s) (fun k=>N.length-k) 0 0 1200 (fun _:Unit=>[]) (fun _=>nlH s 0 104 cap .ready) (fun _=>d=false) ?_ ⟨Zah _,fun j y q=>absurd q (Zaw _)⟩ ?_ ?_;·refine⟨[(150,.nil),(64,.nil),(65,.nil)],rfl,au0,a gg gg gg,Zb8 (Rn.yldB rfl) (Zb8 (Zb0 o) au23)⟩
 ·rintro k⟨G,C⟩;by_cases b:k<N.length
  ·obtain⟨x,u⟩:=Qac b;have f:=QgF u;have m:3<=((N.flatMap coZ).drop (k*3)).length:=by rw[f];simp
   by_cases he:x.1=s;·subst he;have hm:decide (x.1∈N.map (·.1))=true:=decide_eq_true (Zas.2 ⟨x,Zae u,rfl⟩);rw[hm]at w;subst w;refine Zcy (ZcA b f m) ?_;refine cy (QiE (f:=104) (cap:=cap) gg gg gg) ?_;refine Zcx ?_;exact⟨.inr trivial,_,rfl,rfl,[(150,.nil),(64,.nil),(65,.nil)],rfl,au0,a gg gg gg,Zb7⟩
   refine Zcy (ZcA b f m) ?_;refine cy (Qkm (f:=104) (cap:=cap) he gg gg) ?_;refine Zcx ?_;refine⟨k+1,by omega,⟨by omega,fun j y q n=>?_⟩,[(150,.nil),(64,.nil),(65,.nil)],rfl,au0,a gg gg gg,Zb8 (Rn.yldB rfl) (Zb8 (Zb0 o) au23)⟩;by_cases e:j=k;·subst e;rw[u]at n;cases n;exact he
   exact C j y (by omega) n
  have hm:s∉N.map (·.1):=fun h=>by obtain⟨y,n,e⟩:=Zas.1 h;obtain⟨j,q,t⟩:=ZaX n;exact C j y (by omega) (by rw[Zad q,t]) e
  have c:d=false:=by rw[w];exact decide_eq_false hm
  refine Zcy b ?_;exact⟨(),c,[(150,.nil),(64,.nil),(65,.nil)],rfl,au0,a gg gg gg,Zb7⟩
 rintro _ c;subst c;refine Zcx ?_;exact⟨.inl trivial,_,rfl,rfl,[(150,.nil),(64,.nil),(65,.nil)],rfl,au0,a gg gg gg,Zb7⟩
theorem name104(s:List UInt8)(S K:AV)(xs:List Con)(i:Nat)(hi:i<=xs.length)(h:xs.length<=1000)(c:s.length<=9223372036854775807)(d:noRefs [S,K,cosZ xs]=true):PSpec Tryz.prog 102 [.str s,.fn 104 [] [.fptr [S,K,cosZ xs],.fptr [.int .i64 (i:Int)]]] (.int .i64 (nmErr s ((xs.take i).map (·.1)))):=by
 have b:noRef (.fn 104 [] [AV.fptr [S,K,cosZ xs],AV.fptr [.int .i64 (i:Int)]])=true:=by refine Qbw ?_;simp only[noRefs,noRef]at d⊢;rw[d];rfl
 refine Zb3 64 TX.ok102 rfl (by rw[noRefs,noRefs,b];rfl) rfl ?_;have hc:=clos104 s S K xs i hi h d;have f:=name135 s c;unfold nmErr;generalize g:[AV.fptr [S,K,cosZ xs],AV.fptr [.int .i64 (i:Int)]]=cap at*;unfold TX.s102;refine Zcx ?_;refine cp f ?_;cases ho:nmOk s with|false=>refine Zcx ?_;exact⟨.inr trivial,_,rfl,rfl⟩|true=>
  refine Zcx ?_;have a:Rec 0 (nlT 104 cap) [(64,.cells 0 [.str s]),(65,.cells 0 [.int .i64 0])] [(2,.ptr 64 0 0),(4,.ptr 65 0 0),(9,.fn 104 [] cap)] ((Tr.e.set 64 (.cells 0 [.str s])).set 65 (.cells 0 [.int .i64 0])):=by refine⟨[(64,.blk 64 0),(65,.blk 65 0)],rfl,Zb6,Zca rfl rfl gg (Zb1 rfl) (Zca rfl rfl gg (Zb1 rfl) Zb9),Zb8 (Rn.x2 rfl rfl) (Zb8 (Rn.x2 rfl rfl) (Zb8 (Zb0 b) Zb7))⟩
  by_cases hm:s∈(xs.take i).map (·.1);·have h1:=hc true (decide_eq_true hm).symm;simp only[if_true]at h1;refine Qd7 (n':=400) (b:=150) (st:=.done .ret) a rfl gg rfl h1 gg ?_;unfold leftQ;refine⟨rfl,?_⟩;refine Zcx ?_;exact⟨.inr trivial,_,rfl,by rw[if_pos hm];rfl⟩
  have h1:=hc false (decide_eq_false hm).symm;simp only[Zap,if_false]at h1;refine Qd7 (n':=400) (b:=150) (st:=.ready) a rfl gg rfl h1 gg ?_;unfold leftQ;refine Zcx ?_;exact⟨.inr trivial,_,rfl,by rw[if_neg hm];rfl⟩
end Go.AM.SO
namespace Go.AM.SO
open Go.Proofs Go.AM.SD Go.AM.SE
def szE(S:List Int)(i:Nat):Int:=if S.getD i 0<1\/4096<S.getD i 0 then 2 else 0
def xsE(S:List Int)(xs:List Exn)(i:Nat):Int:=let x:=xs.getD i ([],[])
 if nmErr x.1 ((xs.take i).map (·.1))≠0 then nmErr x.1 ((xs.take i).map (·.1))else exErr S x.2
def ksE(S:List Int)(ks:List Con)(i:Nat):Int:=let x:=ks.getD i ([],[],0)
 if nmErr x.1 ((ks.take i).map (·.1))≠0 then nmErr x.1 ((ks.take i).map (·.1))else coErr S x.2.1 x.2.2
def cdErr(S:List Int)(xs:List Exn)(ks:List Con):Int:=if 8<S.length then 3 else if fe (szE S) S.length≠0 then fe (szE S) S.length else if 32<xs.length\/32<ks.length then 3 else if fe (xsE S xs) xs.length≠0 then fe (xsE S xs) xs.length else fe (ksE S ks) ks.length
theorem Qqz{S:List Int}{xs:List Exn}{i:Nat}{x:Exn}(h:xs[i]?=some x):xsE S xs i=if nmErr x.1 ((xs.take i).map (·.1))≠0 then nmErr x.1 ((xs.take i).map (·.1))else exErr S x.2:=by unfold xsE;rw[QaM h]
theorem QqA{S:List Int}{ks:List Con}{i:Nat}{x:Con}(h:ks[i]?=some x):ksE S ks i=if nmErr x.1 ((ks.take i).map (·.1))≠0 then nmErr x.1 ((ks.take i).map (·.1))else coErr S x.2.1 x.2.2:=by unfold ksE;rw[QaM h]
theorem Qn2{S:List Int}{xs:List Exn}{ks:List Con}{e:Int}(h:fe (xsE S xs) xs.length=e)(a:e≠0):(if fe (xsE S xs) xs.length≠0 then fe (xsE S xs) xs.length else fe (ksE S ks) ks.length)=e:=by rw[h,if_pos a]
theorem Qn3{S:List Int}{ks:List Con}{e:Int}(h:fe (ksE S ks) ks.length=e)(_:e≠0):fe (ksE S ks) ks.length=e:=h
theorem _root_.Go.AM.au24{p:Prop}(h:p:=by repeat(first|exact Zb7|(refine Zb8 ?_ ?_;·(first|exact Rn.any|exact Rn.x1 rfl rfl|exact Rn.x2 rfl rfl|exact Rn.x3 rfl rfl|exact Rn.x4 rfl rfl|exact Rn.x5 rfl|exact Rn.x6 rfl|exact Rn.x7 rfl|(refine Rn.slot ?_ ?_;(first|rfl|(rw[ZaS];rfl));(first|rfl|(simp only[noRef,noRefs,Qah,Zak,Zac,Zag,Qaa,Qam,Qab,QbV,QbW];done)))|(refine Rn.fn ?_ ?_<;>(repeat'(first|exact Zcf|refine Zcg ?_ ?_|exact Zb0 rfl|exact Rn.x6 rfl|exact Rn.x2 rfl rfl|exact Rn.x5 rfl|exact Rn.x1 rfl rfl))))))):p:=h
theorem conds32X(S:List Int)(xs:List Exn)(ks:List Con)(K:S.length<=1000)(F:xs.length<=1000)(H:ks.length<=1000)(v:∀x∈xs,x.1.length<=9223372036854775807/\x.2.length<=8796093021952)(u:∀x∈ks,x.1.length<=9223372036854775807/\x.2.1.length<=8796093021952):PSpec Tryz.prog 32 [cdZ S xs ks] (.int .i64 (cdErr S xs ks)):=by
 have b:=@QbX S xs ks;refine Zb3 64 SQ.ok32 rfl (by rw[noRefs,noRef,b];rfl) rfl ?_;unfold cdErr;by_cases E:8<S.length
 ·have o:(8:Int)<(S.length:Int):=by omega
  unfold SQ.s32;refine Zcy o ?_;exact⟨.inr trivial,_,rfl,by rw[if_pos E];rfl⟩
 rw[if_neg E];have o:¬(8:Int)<(S.length:Int):=by omega
 unfold SQ.s32;refine Zcy o ?_;refine Qaj 100 (fun i:Nat=>[(1,.ptr 50 0 0),(20,sli S),(21,.int .i64 S.length),(22,.int .i64 i)]) (fun _=>[(50,.cells 0 (cdK S xs ks))]) (fun i=>i<=S.length/\∀j,j<i->szE S j=0) (fun i=>S.length-i) 0 0 140 (fun _:Unit=>[(1,.ptr 50 0 0)]) (fun _=>[(50,.cells 0 (cdK S xs ks))]) (fun _=>fe (szE S) S.length=0) ⟨[(50,.blk 64 0)],rfl,au0,?_,au24⟩ ⟨Zah _,fun j l=>absurd l (Zaw _)⟩ ?_ ?_;·exact Zca rfl rfl gg (Zb1 b) Zb9
 ·rintro i⟨hi,d⟩;by_cases a:i<S.length
  ·obtain⟨s,z⟩:=Qac a;have m:S.getD i 0=s:=QaM z;by_cases q1:s<1;·refine Zcy (ZcA a (Qav z) @q1) ?_;exact⟨.inr trivial,_,rfl,by rw[fe_at (e:=2) (by unfold szE;rw[m,if_pos (.inl q1)]) (by decide) d a,if_pos (by decide)];rfl⟩
   by_cases q2:4096<s;·refine Zcy (ZcB a (Qav z) @q1 @q2) ?_;exact⟨.inr trivial,_,rfl,by rw[fe_at (e:=2) (by unfold szE;rw[m,if_pos (.inr q2)]) (by decide) d a,if_pos (by decide)];rfl⟩
   refine Zcy (ZcB a (Qav z) @q1 @q2) ?_;refine⟨i+1,by omega,⟨by omega,fe_up d (by unfold szE;rw[m,if_neg (by omega)])⟩,?_⟩;refine⟨[(50,.blk 50 0)],rfl,au0,?_,au24⟩;exact Zca rfl rfl gg (Zb1 b) Zb9
  refine Zcy a ?_;refine⟨(),Qa6 fun j l=>d j (by omega),?_⟩;refine⟨[(50,.blk 50 0)],rfl,au0,?_,au24⟩;exact Zca rfl rfl gg (Zb1 b) Zb9
 rintro _ J;rw[if_neg (fun h=>h J)];by_cases I:32<xs.length
 ·have k:(32:Int)<(xs.length:Int):=by omega
  refine Zcy k ?_;exact⟨.inr trivial,_,rfl,by rw[if_pos (.inl I)];rfl⟩
 have k:¬(32:Int)<(xs.length:Int):=by omega
 by_cases G:32<ks.length
 ·have q:(32:Int)<(ks.length:Int):=by omega
  refine Zcy (Zcz k q) ?_;exact⟨.inr trivial,_,rfl,by rw[if_pos (.inr G)];rfl⟩
 have q:¬(32:Int)<(ks.length:Int):=by omega
 rw[if_neg (by omega)];refine Zcy (Zcz k q) ?_;refine Qaj 200 (fun i:Nat=>[(1,.ptr 50 0 0),(44,exsZ xs),(45,.int .i64 xs.length),(46,.int .i64 i)]) (fun _=>[(50,.cells 0 (cdK S xs ks))]) (fun i=>i<=xs.length/\∀j,j<i->xsE S xs j=0) (fun i=>xs.length-i) 0 2 240 (fun _:Unit=>[(1,.ptr 50 0 0)]) (fun _=>[(50,.cells 0 (cdK S xs ks))]) (fun _=>fe (xsE S xs) xs.length=0) ⟨[(50,.blk 50 0)],rfl,au0,?_,au24⟩ ⟨Zah _,fun j l=>absurd l (Zaw _)⟩ ?_ ?_;·exact Zca rfl rfl gg (Zb1 b) Zb9
 ·skip;rintro i⟨hi,d⟩;by_cases a:i<xs.length
  ·obtain⟨x,n⟩:=Qac a;have f:=Zae n;have g:=QgE n;have p:2<=((xs.flatMap exZ).drop (i*2)).length:=by rw[g];simp
   have A:=name101 x.1 (sli S) (cosZ ks) xs i (by omega) (by omega) (v x f).1 b;have y:=excl103X S xs ks x (v x f).2;have w:=Qqz (S:=S) n;have c:∀e:Int,xsE S xs i=e->e≠0->fe (xsE S xs) xs.length=e:=fun e h C=>fe_at h C d a;have up:xsE S xs i=0->∀j,j<i+1->xsE S xs j=0:=fe_up d;rw[w]at c up;clear w;generalize nmErr x.1 ((xs.take i).map (·.1))=r at*;generalize exErr S x.2=t at*;have hex:exZ x=[.str x.1,prs x.2]:=rfl;rw[hex]at y;refine Zcy (ZcA a g p) ?_;refine SU.chc (Zcj (Zcl (Zb4 _) (Zcl (FrzTo.fn Zck (Zcl (Zci (g:=0) (cs:=cdK S xs ks) gg (Zb5 _)) (Zcl (Zci (g:=0) (cs:=[.int .i64 (i:Int)]) gg (Zb5 _)) Zck))) Zck)) A rfl) ?_;by_cases q1:r=0
   ·refine Zcy @q1 ?_;refine cp y ?_;by_cases q2:t=0;·refine Zcy @q2 ?_;refine⟨i+1,by omega,⟨by omega,up (by rw[if_neg (fun h=>h q1)];exact q2)⟩,?_⟩;refine⟨[(50,.blk 50 0)],rfl,au0,?_,au24⟩;exact Zca rfl rfl gg (Zb1 b) Zb9
    refine Zcy @q2 ?_;exact⟨.inr trivial,_,rfl,by rw[Qn2 (c t (by rw[if_neg (fun h=>h q1)]) q2) q2];rfl⟩
   refine Zcy @q1 ?_;exact⟨.inr trivial,_,rfl,by rw[Qn2 (c r (by rw[if_pos q1]) q1) q1];rfl⟩
  refine Zcy a ?_;refine⟨(),Qa6 fun j l=>d j (by omega),?_⟩;refine⟨[(50,.blk 50 0)],rfl,au0,?_,au24⟩;exact Zca rfl rfl gg (Zb1 b) Zb9
 rintro _ B;rw[if_neg (fun h=>h B)];refine Zcx ?_;refine Qay 300 (fun i:Nat=>[(1,.ptr 50 0 0),(67,cosZ ks),(68,.int .i64 ks.length),(69,.int .i64 i)]) (fun _=>[(50,.cells 0 (cdK S xs ks))]) (fun i=>i<=ks.length/\∀j,j<i->ksE S ks j=0) (fun i=>ks.length-i) 0 ⟨[(50,.blk 50 0)],rfl,au0,?_,au24⟩ ⟨Zah _,fun j l=>absurd l (Zaw _)⟩ ?_;·exact Zca rfl rfl gg (Zb1 b) Zb9
 rintro i⟨hi,d⟩;by_cases a:i<ks.length
 ·obtain⟨x,n⟩:=Qac a;have f:=Zae n;have g:=QgF n;have p:3<=((ks.flatMap coZ).drop (i*3)).length:=by rw[g];simp
  have A:=name104 x.1 (sli S) (exsZ xs) ks i (by omega) (by omega) (u x f).1 b;have y:=cons105X S xs ks x (u x f).2;have w:=QqA (S:=S) n;have c:∀e:Int,ksE S ks i=e->e≠0->fe (ksE S ks) ks.length=e:=fun e h C=>fe_at h C d a;have up:ksE S ks i=0->∀j,j<i+1->ksE S ks j=0:=fe_up d;rw[w]at c up;clear w;generalize nmErr x.1 ((ks.take i).map (·.1))=r at*;generalize coErr S x.2.1 x.2.2=t at*;have hex:coZ x=[.str x.1,prs x.2.1,.int .i64 x.2.2]:=rfl;rw[hex]at y;refine Zcy (ZcA a g p) ?_;refine SU.chc (Zcj (Zcl (Zb4 _) (Zcl (FrzTo.fn Zck (Zcl (Zci (g:=0) (cs:=cdK S xs ks) gg (Zb5 _)) (Zcl (Zci (g:=0) (cs:=[.int .i64 (i:Int)]) gg (Zb5 _)) Zck))) Zck)) A rfl) ?_;by_cases q1:r=0
  ·refine Zcy @q1 ?_;refine cp y ?_;by_cases q2:t=0;·refine Zcy @q2 ?_;refine⟨i+1,by omega,⟨by omega,up (by rw[if_neg (fun h=>h q1)];exact q2)⟩,?_⟩;refine⟨[(50,.blk 50 0)],rfl,au0,?_,au24⟩;exact Zca rfl rfl gg (Zb1 b) Zb9
   refine Zcy @q2 ?_;exact⟨.inr trivial,_,rfl,by rw[Qn3 (c t (by rw[if_neg (fun h=>h q1)]) q2) q2];rfl⟩
  refine Zcy @q1 ?_;exact⟨.inr trivial,_,rfl,by rw[Qn3 (c r (by rw[if_pos q1]) q1) q1];rfl⟩
 refine Zcy a ?_;exact⟨.inr trivial,_,rfl,by rw[Qa6 fun j l=>d j (by omega)];rfl⟩
end Go.AM.SO
namespace Go.AM.SO
open Go.Proofs Go.AM.SD Go.AM.SE
def uZ(l:List Itn):List Nat:=l.foldl (fun out x=>mrg (fun a b=>a||b) out (natA x.2).al) []
theorem Qkn:∀{l:List Itn}{out:List Nat},out.Pairwise (·<·)->(∀e∈out,e<32)->(∀x∈l,(natA x.2).al.Pairwise (·<·)/\∀e∈(natA x.2).al,e<32)->(l.foldl (fun out x=>mrg (fun a b=>a||b) out (natA x.2).al) out).Pairwise (·<·)/\∀e∈l.foldl (fun out x=>mrg (fun a b=>a||b) out (natA x.2).al) out,e<32
 |[],out,h,c,_=>⟨h,c⟩|x::l,out,h,c,f=>by
  obtain⟨g,d⟩:=f x (by simp);rw[Za1];refine Qkn (QbE h g) (fun e he=>?_) fun y i=>f y (by simp[i]);rw[Qa7 h g]at he;obtain⟨h1,_⟩:=he;simp only[Zbc,decide_eq_true_eq]at h1;rcases h1 with h1|h1;·exact c e h1
  exact d e h1
theorem Qn4{l:List Itn}(h:∀x∈l,(natA x.2).al.Pairwise (·<·)/\∀e∈(natA x.2).al,e<32):(uZ l).length<=32:=by obtain⟨h1,a⟩:=Qkn (l:=l) (out:=[]) (by simp) (by simp) h;exact Qbf h1 a
theorem QlT{l:List Itn}{i:Nat}{x:Itn}(h:l[i]?=some x):uZ (l.take (i+1))=mrg (fun a b=>a||b) (uZ (l.take i)) (natA x.2).al:=by unfold uZ;rw[take_succ' h,List.foldl_append];rfl
theorem Qd9{E:Int}{B:List Nat}{N:List (List UInt8)}{x:Itn}(b:ItOk x)(h:itEr E B N x=0):itNs N x=N++[x.1]/\au (natA x.2)=x.2/\WfG (natA x.2):=by cases ho:nmOk x.1 with|false=>rw[(Qkf ho).1]at h;cases h|true=>
 by_cases hm:x.1∈N;·rw[(Qkg ho hm).1]at h;cases h
 obtain⟨h1,a⟩:=Qkh (E:=E) (B:=B) ho hm;rw[h1]at h;unfold itE2 at h;split at h;·rename_i q;exact absurd h q
 rename_i q;exact⟨a,QeS (by simpa using q) b.n⟩
abbrev nmZ(l:List Itn):List (List UInt8):=l.map (·.1)
theorem Qko{l:List Itn}{i:Nat}{x:Itn}(h:l[i]?=some x):nmZ (l.take (i+1))=nmZ (l.take i)++[x.1]:=by unfold nmZ;rw[take_succ' h,ZaQ];rfl
def it0:Itn:=([],⟨[],0,[],[]⟩)
def csE(c:CelN)(i:Nat):Int:=itEr c.ev.length (List.range c.ev.length) (nmZ (c.cs.take i)) (c.cs.getD i it0)
def rsE(c:CelN)(i:Nat):Int:=itEr c.ev.length (uZ c.cs) (nmZ c.cs++nmZ (c.rs.take i)) (c.rs.getD i it0)
def celErr(c:CelN):Int:=if evErr c.ev≠0 then evErr c.ev else if c.cs.length=0 then 12 else if 8<c.cs.length\/12<c.cs.length+c.rs.length then 3 else if fe (csE c) c.cs.length≠0 then fe (csE c) c.cs.length else if fe (rsE c) c.rs.length≠0 then fe (rsE c) c.rs.length else cdErr (szZ c) c.xs c.ks
structure CelOk(c:CelN):Prop where
 el:c.ev.length<=9223372036854775807
 en:∀x∈c.ev,x.nm.length<=9223372036854775807
 cl:c.cs.length<=1000
 rl:c.rs.length<=1000
 xl:c.xs.length<=1000
 kl:c.ks.length<=1000
 ci:∀x∈c.cs,ItOk x
 ri:∀x∈c.rs,ItOk x
 xi:∀x∈c.xs,x.1.length<=9223372036854775807/\x.2.length<=8796093021952
 ki:∀x∈c.ks,x.1.length<=9223372036854775807/\x.2.1.length<=8796093021952
theorem QiF{l:List Evn}(h:evErr l=0):l.length<=32:=by
 unfold evErr at h;split at h;·cases h
 omega
theorem check21X(c:CelN)(h:CelOk c):PSpec Tryz.prog 21 [celZ c] (.int .i64 (celErr c)):=by
 have d:=QbL c;refine Zb3 64 ok21 rfl (by rw[noRefs,celZ,noRef,d];rfl) rfl ?_;have w:=check82X c.ev h.el h.en;have Y:=h.cl;have Z:=h.rl;have L:=conds85X c h.cl h.xl h.kl (fun x f=>(h.xi x f).2) (fun x f=>(h.ki x f).2);have J:=conds32X (szZ c) c.xs c.ks (by simp[szZ];omega) h.xl h.kl h.xi h.ki;unfold celErr;by_cases v:¬evErr c.ev=0;·unfold s21;refine Zcx ?_;refine cp w ?_;refine Zcy v ?_;exact⟨.inr trivial,_,rfl,rfl⟩
 replace v:evErr c.ev=0:=Decidable.not_not.1 v;rw[v]at w;have O:=QiF v;rw[if_neg (fun h=>h v)];by_cases P:c.cs.length=0
 ·have B:(c.cs.length:Int)=0:=by omega
  unfold s21;refine Zcx ?_;refine cp w ?_;refine Zcy B ?_;exact⟨.inr trivial,_,rfl,by rw[if_pos P];rfl⟩
 have B:¬(c.cs.length:Int)=0:=by omega
 rw[if_neg P];by_cases U:8<c.cs.length
 ·have E:(8:Int)<(c.cs.length:Int):=by omega
  unfold s21;refine Zcx ?_;refine cp w ?_;refine Zcy (Zcz B E) ?_;exact⟨.inr trivial,_,rfl,by rw[if_pos (.inl U)];rfl⟩
 have E:¬(8:Int)<(c.cs.length:Int):=by omega
 by_cases X:12<c.cs.length+c.rs.length
 ·have M:(12:Int)<(c.cs.length:Int)+(c.rs.length:Int):=by omega
  unfold s21;refine Zcx ?_;refine cp w ?_;refine Zcy (ZcA B E M) ?_;exact⟨.inr trivial,_,rfl,by rw[if_pos (.inr X)];rfl⟩
 have M:¬(12:Int)<(c.cs.length:Int)+(c.rs.length:Int):=by omega
 rw[if_neg (by omega)];unfold s21;refine Zcx ?_;refine cp w ?_;refine Zcy (ZcA B E M) ?_;refine Qaj 140 (fun i:Nat=>[(1,.ptr 50 0 0),(5,.map 68 0),(6,.sl 76 0 0 i 1),(7,.nilsl),(41,.int .i64 c.ev.length),(42,.int .i64 i)]) (fun i=>[(50,.cells 0 [evns c.ev,itsV c.cs,itsV c.rs,exsZ c.xs,cosZ c.ks]),(68,nmsB []),(76,.cells 0 (ints (nz (List.range i))))]) (fun i=>i<=c.ev.length) (fun i=>c.ev.length-i) 0 1 180 (fun _:Unit=>[(1,.ptr 50 0 0),(5,.map 68 0),(6,sliN (List.range c.ev.length)),(7,sliN [])]) (fun _=>[(50,.cells 0 [evns c.ev,itsV c.cs,itsV c.rs,exsZ c.xs,cosZ c.ks]),(68,nmsB [])]) (fun _=>True) ?_ (Zah _) ?_ ?_;·refine⟨[(50,.blk 64 0),(68,.blk 90 0),(76,.nil)],rfl,au0,?_,au22⟩;exact Zca rfl rfl gg (Zb1 d) (Zcc rfl rfl gg QcI (Zcb rfl rfl Zb9))
 ·rintro i hi;by_cases a:i<c.ev.length
  ·have G:(ints (nz (List.range i))).length=i:=by simp[ints]
   simp(disch:=first|omega|exact PairsOK.mk rfl|(simp only[lenW]<;>omega))only[a,List.length_range,G,wW,wV,simprocAttr];refine⟨i+1,by omega,by omega,?_⟩;rw[ZaP,QaL,QaA];refine⟨[(50,.blk 50 0),(68,.blk 68 0),(76,.blk 76 1)],rfl,au0,?_,au22⟩;exact Zca rfl rfl gg (Zb1 d) (Zcc rfl rfl gg QcI (Zca rfl rfl gg (Zb1 (SU.QaB (Qaa _) rfl)) Zb9))
  have e:i=c.ev.length:=by omega
  subst e;refine Zcy a ?_;refine⟨(),[(50,.blk 50 0),(68,.blk 68 0)],rfl,Zb6,?_,?_⟩;·exact Zca rfl rfl gg (Zb1 d) (Zcc rfl rfl gg QcI Zb9)
  exact Zb8 (Rn.x2 rfl rfl) (Zb8 (Rn.x3 rfl rfl) (Zb8 (Zch (b:=76) (g:=0) gg rfl rfl (by simp) (by simp[ints]) (Zb1 (Qaa _))) (Zb8 Rn.nilK Zb7)))
 rintro _ _;refine Zcx ?_;have o:∀i,(∀j,j<i->csE c j=0)->∀x∈c.cs.take i,au (natA x.2)=x.2/\WfG (natA x.2):=fun i k x f=>by
  obtain⟨j,y,rfl⟩:=ZaX f;rw[Zar]at y;have z:c.cs[j]?=some (c.cs.take i)[j]:=by rw[List.getElem_take];exact Zad (by omega)
  have h1:=k j (by omega);unfold csE at h1;rw[QaM z]at h1;exact(Qd9 (h.ci _ (Zae z)) h1).2
 have N:∀i,(∀j,j<i->csE c j=0)->(uZ (c.cs.take i)).length<=32:=fun i k=>Qn4 fun x f=>⟨(o i k x f).2.al,(o i k x f).2.al5⟩;refine Qaj 240 (fun i:Nat=>[(1,.ptr 50 0 0),(5,.map 68 0),(6,sliN (List.range c.ev.length)),(7,sliN (uZ (c.cs.take i))),(51,itsV c.cs),(52,.int .i64 c.cs.length),(53,.int .i64 i)]) (fun i=>[(50,.cells 0 [evns c.ev,itsV c.cs,itsV c.rs,exsZ c.xs,cosZ c.ks]),(68,nmsB (nmZ (c.cs.take i)))]) (fun i=>i<=c.cs.length/\∀j,j<i->csE c j=0) (fun i=>c.cs.length-i) 0 3 280 (fun _:Unit=>[(1,.ptr 50 0 0),(5,.map 68 0),(7,sliN (uZ c.cs))]) (fun _=>[(50,.cells 0 [evns c.ev,itsV c.cs,itsV c.rs,exsZ c.xs,cosZ c.ks]),(68,nmsB (nmZ c.cs))]) (fun _=>∀j,j<c.cs.length->csE c j=0) ?_ ⟨Zah _,fun j y=>absurd y (Zaw _)⟩ ?_ ?_;·refine⟨[(50,.blk 50 0),(68,.blk 68 0)],rfl,au0,?_,au22⟩;exact Zca rfl rfl gg (Zb1 d) (Zcc rfl rfl gg QcI Zb9)
 ·rintro i⟨hi,k⟩;by_cases a:i<c.cs.length
  ·obtain⟨x,f⟩:=Qac a;have m:=Zae f;have g:=Qc6 f;have l:5<=((c.cs.flatMap itV).drop (i*5)).length:=by rw[g];simp
   have r:(nmZ (c.cs.take i)).length<=100:=by simp[nmZ];omega
   have A:csE c i=itEr c.ev.length (List.range c.ev.length) (nmZ (c.cs.take i)) x:=by unfold csE;rw[QaM f]
   have n:=fun{I:Heap}(t:I.get 68=some (nmsB (nmZ (c.cs.take i))))=>item83XF x c.ev.length (List.range c.ev.length) (nmZ (c.cs.take i)) (h.ci x m) r (by simp;omega) t;rw[<-A]at n;by_cases q:csE c i=0
   ·obtain⟨F,S,Q⟩:=Qd9 (h.ci x m) (A▸q);rw[F,q]at n;have s:=Qko f;have T:=N i k;have R:=Qbf Q.al Q.al5;have u:=union84 (uZ (c.cs.take i)) (natA x.2).al (by omega) (by omega);rw[<-QlT f]at u;have H:sli x.2.al=sliN (natA x.2).al:=by rw[<-QaO];exact congrArg (fun b=>sli b.al) S.symm
    rw[<-H]at u;refine Zcy (ZcA a g l) ?_;refine SU.chc (n gg) ?_;refine Zcx ?_;refine cp u ?_;refine Zcx ?_;refine⟨i+1,by omega,⟨by omega,fe_up k q⟩,?_⟩;rw[s];refine⟨[(50,.blk 50 0),(68,.blk 68 0)],rfl,au0,?_,au22⟩;exact Zca rfl rfl gg (Zb1 d) (Zcc rfl rfl gg (Zco fun _ _=>Zb0 rfl) Zb9)
   have p:=fe_at (f:=csE c) rfl q k a;refine Zcy (ZcA a g l) ?_;refine SU.chc (n gg) ?_;refine Zcy q ?_;exact⟨.inr trivial,_,rfl,by rw[p,if_pos q];rfl⟩
  have e:i=c.cs.length:=by omega
  subst e;refine Zcu a ?_;refine⟨(),k,?_⟩;refine⟨[(50,.blk 50 0),(68,.blk 68 0)],rfl,au0,?_,au22⟩;exact Zca rfl rfl gg (Zb1 d) (Zcc rfl rfl gg (Zco fun _ _=>Zb0 rfl) Zb9)
 rintro _ C;rw[if_neg (fun h=>h (Qa6 C))];have V:(uZ c.cs).length<=32:=by have:=N c.cs.length C;rwa[Zav]at this
 refine Zcx ?_;refine Qaj 340 (fun i:Nat=>[(1,.ptr 50 0 0),(5,.map 68 0),(7,sliN (uZ c.cs)),(74,itsV c.rs),(75,.int .i64 c.rs.length),(76,.int .i64 i)]) (fun i=>[(50,.cells 0 [evns c.ev,itsV c.cs,itsV c.rs,exsZ c.xs,cosZ c.ks]),(68,nmsB (nmZ c.cs++nmZ (c.rs.take i)))]) (fun i=>i<=c.rs.length/\∀j,j<i->rsE c j=0) (fun i=>c.rs.length-i) 0 5 380 (fun _:Unit=>[(1,.ptr 50 0 0)]) (fun _=>[(50,.cells 0 [evns c.ev,itsV c.cs,itsV c.rs,exsZ c.xs,cosZ c.ks])]) (fun _=>fe (rsE c) c.rs.length=0) ?_ ⟨Zah _,fun j y=>absurd y (Zaw _)⟩ ?_ ?_;·rw[show nmZ c.cs++nmZ (c.rs.take 0)=nmZ c.cs by simp[nmZ]];refine⟨[(50,.blk 50 0),(68,.blk 68 0)],rfl,au0,?_,au22⟩;exact Zca rfl rfl gg (Zb1 d) (Zcc rfl rfl gg (Zco fun _ _=>Zb0 rfl) Zb9)
 ·rintro i⟨hi,k⟩;by_cases a:i<c.rs.length
  ·obtain⟨x,f⟩:=Qac a;have m:=Zae f;have g:=Qc6 f;have l:5<=((c.rs.flatMap itV).drop (i*5)).length:=by rw[g];simp
   have r:(nmZ c.cs++nmZ (c.rs.take i)).length<=100:=by simp[nmZ];omega
   have A:rsE c i=itEr c.ev.length (uZ c.cs) (nmZ c.cs++nmZ (c.rs.take i)) x:=by unfold rsE;rw[QaM f]
   have n:=fun{I:Heap}(t:I.get 68=some (nmsB (nmZ c.cs++nmZ (c.rs.take i))))=>item83XF x c.ev.length (uZ c.cs) (nmZ c.cs++nmZ (c.rs.take i)) (h.ri x m) r (by omega) t;rw[<-A]at n;by_cases q:rsE c i=0;·obtain⟨F,_,_⟩:=Qd9 (h.ri x m) (A▸q);rw[F,q]at n;have s:=Qko f;refine Zcy (ZcA a g l) ?_;refine SU.chc (n gg) ?_;refine Zcx ?_;refine⟨i+1,by omega,⟨by omega,fe_up k q⟩,?_⟩;rw[s,<-ZaM];refine⟨[(50,.blk 50 0),(68,.blk 68 0)],rfl,au0,?_,au22⟩;exact Zca rfl rfl gg (Zb1 d) (Zcc rfl rfl gg (Zco fun _ _=>Zb0 rfl) Zb9)
   have p:=fe_at (f:=rsE c) rfl q k a;refine Zcy (ZcA a g l) ?_;refine SU.chc (n gg) ?_;refine Zcy q ?_;exact⟨.inr trivial,_,rfl,by rw[p,if_pos q];rfl⟩
  refine Zcy a ?_;refine⟨(),Qa6 fun j y=>k j (by omega),?_⟩;refine⟨[(50,.blk 50 0)],rfl,au0,?_,au22⟩;exact Zca rfl rfl gg (Zb1 d) Zb9
 rintro _ K;rw[if_neg (fun h=>h K)];refine Zcx ?_;refine cp L ?_;refine Zcx ?_;refine cp J ?_;refine Zcx ?_;exact⟨.inr trivial,_,rfl,rfl⟩
end Go.AM.SO
namespace Go.AM.SO
open Go.Proofs Go.AM.SD Go.AM.SE
theorem QeT(c:CelN):noRefs [celZ c]=true:=by rw[noRefs,celZ,noRef,QbL];rfl
end Go.AM.SO
namespace Go.AM.TT
open Go.Proofs
set_option maxHeartbeats 4000000
noncomputable section
def cf:YA.Cf:={most:=.pure,always:=[36,136].map fun k=>(k,.heap),value:=.pure}
def s56:SFn:=by
 refine(?f:YA.Yt Tryz.prog cf 56 [[0,2],[9,10,11],[12],[1,3,13,14],[2,3,13,15,16,17],[1,18],[2,18,19,20,21,22,23,24,25,26,27,28,29,30,31],[1,32],[2,32,33,34],[],[],[],[38,39,40,41],[42,43,44],[1,4,5,35,36,37,7,6,45],[2,45,46,47,48,49],[1,4,5,35,36,37,7,6,50],[2,50,51,52,53],[54],[1,4,5,35,36,37,7,6,8,55,56],[2,8,55,57,58,59],[1,4,5,35,36,37,7,6,60],[2,60,61,62,63],[1,4,5,35,36,37,7,6,64],[2,64,65,66,67,68],[1,4,5,35,36,37,7,6,69],[2,6,69,70,71,72,73],[7,74,75,76,77,78,79],[7,74,80,81,82,83],[1,4,5,35,36,37,84],[2,84,85],[1,4,5,35,36,37,86,87,88]]) ?s ?h;case h=>exact YA.rr
 exact fun s _=>s
def s136:SFn:=by
 refine(?f:YA.Yt Tryz.prog cf 136 [[4],[0,1,5,6,7,8]]) ?s ?h;case h=>exact YA.rr
 exact fun s _=>s
def s137:SFn:=by
 refine(?f:YA.Yt Tryz.prog cf 137 [[0,3],[1,2,4,5,6,7,8]]) ?s ?h;case h=>exact YA.rr
 exact fun s _=>s
def s138:SFn:=by
 refine(?f:YA.Yt Tryz.prog cf 138 [[3],[0,1,4,5,6,7,8]]) ?s ?h;case h=>exact YA.rr
 exact fun s _=>s
def s139:SFn:=by
 refine(?f:YA.Yt Tryz.prog cf 139 [[3],[0,1,4,5,6,7]]) ?s ?h;case h=>exact YA.rr
 exact fun s _=>s
theorem ok56:okFn Tryz.prog 56 s56=true:=by kernel_rfl
theorem ok136:okFn Tryz.prog 136 s136=true:=by kernel_rfl
theorem ok137:okFn Tryz.prog 137 s137=true:=by kernel_rfl
theorem ok138:okFn Tryz.prog 138 s138=true:=by kernel_rfl
theorem ok139:okFn Tryz.prog 139 s139=true:=by kernel_rfl
end
end Go.AM.TT
namespace Go.AM.SW
open Go.Proofs
set_option maxHeartbeats 4000000
noncomputable section
def cf:YA.Cf:={most:=.pure,always:=[52,114].map fun k=>(k,.heap)}
def s43:SFn:=by
 refine(?f:YA.Yt Tryz.prog cf 43 [[0,2],[1,3,4,5,6,7,8]] [(0,[(2,4)])]) ?s ?h;case h=>exact YA.rr
 exact fun s _=>s
theorem ok43:okFn Tryz.prog 43 s43=true:=by kernel_rfl
end
end Go.AM.SW
namespace Go.AM.SO
open Go.Proofs Go.AM.SD Go.AM.SE
theorem Qmv:HSpec Tryz.prog 114 [.nilsl] .e (.sl 98 0 0 0 5) (hp [(98,.cells 0 [])]):=by refine Zcm 100 ok114 rfl ?_;unfold s114;refine Zcy @QgC ?_;exact⟨.inr trivial,_,rfl,⟨[(98,.nil)],rfl,au0,au21,au22⟩⟩
theorem Qmw:HSpec Tryz.prog 114 [.nsl] .e (.sl 98 0 0 0 5) (hp [(98,.cells 0 [])]):=by refine Zcm 100 ok114 rfl ?_;unfold s114;refine Zcy (Zcz @QgD @Qck) ?_;exact⟨.inr trivial,_,rfl,⟨[(98,.blk 103 1)],rfl,au0,au21,au22⟩⟩
theorem cloneI(l:List Itn)(f:l.length<=1000):HSpec Tryz.prog 114 [itsV l] .e (.sl 98 0 0 l.length 5) (hp [(98,.cells 0 (l.flatMap itV))]):=by cases l with|nil=>exact HSpec.empty Qmv Qmw|cons x l=>refine Zcm 100 ok114 rfl ?_;have d:aEqN false (itsV (x::l))=.ret (.bool false):=rfl;have a:((x::l).flatMap itV).all AV.one=true:=QbK (fun _=>rfl) _;have c:=Qbx (x::l);have b:=QdH (x::l);generalize x::l=q at*;unfold s114;refine Zcy (ZcA d a b) ?_;refine⟨.inr trivial,_,rfl,?_⟩;refine⟨[(98,.blk 103 1)],rfl,au0,?_,au22⟩;exact Zca rfl rfl gg (Zb1 c) Zb9
theorem items43Z(c:CelN)(hc:c.cs.length<=1000)(h:c.rs.length<=1000):PSpec Tryz.prog 43 [celZ c] (itsV (c.cs++c.rs)):=by have g:=QbL c;refine Zb2 64 SW.ok43 rfl (QeT c) (Qbt _) ?_;have b:=cloneI c.cs hc;have a:=QdH c.cs;have d:=QdH c.rs;have f:(c.rs.flatMap itV).all AV.one=true:=QbK (fun _=>rfl) _;show wS _ _ _ _ _ (argT 0 [.agg [evns c.ev,itsV c.cs,itsV c.rs,exsZ c.xs,cosZ c.ks]]) _ _;generalize c.cs=A at*;generalize c.rs=B at*;unfold SW.s43;refine Zcx ?_;refine Qmt [] 2 (x:=.f 114) (ag:=[.t 4]) (d:=some 5) rfl rfl rfl ?_;refine Zcx ?_;refine⟨114,A.flatMap itV,A.length,5,rfl,⟨b.1,by show noRefs [itsV A]=true;rw[noRefs,Qbt];rfl,98,0,0,_,_,rfl,Zah _,gg,b⟩,Qbx _,by decide,gg,?_⟩;refine Zcy (ZcA f a d) ?_;refine⟨trivial,.inr trivial,_,rfl,?_⟩;show Rn _ _ _ (.fsl ((A++B).flatMap itV) (A++B).length 5) _;rw[Zaq,Zai];exact Rn.fz0 (b:=68) rfl (by rw[Zai,a,d];omega) (Zb1 (SU.QaB (Qbx _) (Qbx _)))
end Go.AM.SO
namespace Go.AM.SO
open Go.Proofs Go.AM.SD Go.AM.SE
theorem index52Z{K:Nat}{cap:List AV}(q:Itn->Bool)(l:List Itn)(s:l.length<=1000000)(hc:noRefs cap=true)(r:∀x∈l,PSpec Tryz.prog K (.agg [.str x.1,sli x.2.al,.int .i64 x.2.n,sli x.2.ms,egs x.2.es]::cap) (.bool (q x))):PSpec Tryz.prog 52 [itsV l,.fn K [] cap] (.int .i64 (idxQ q l)):=by
 refine Zb3 64 ok52 rfl (by rw[noRefs,noRefs,Qbw hc,(Qbt _)];rfl) rfl ?_;have c:=Qbw (K:=K) hc;have o:=QdH l;unfold s52;refine Zcx ?_;refine Qay 100 (fun i:Nat=>[(0,itsV l),(1,.fn K [] cap),(7,.int .i64 l.length),(8,.int .i64 i)]) (fun _=>[]) (fun i=>i<=l.length/\∀(j:Nat)y,j<i->l[j]?=some y->q y=false) (fun i=>l.length-i) 0 ?_ ⟨Zah _,fun j y k=>absurd k (Zaw _)⟩ ?_;·exact⟨[],rfl,Zb6,Zb9,Zb8 (Zb0 (Qbt _)) (Zb8 (Zb0 c) (Zb8 (Zb0 rfl) (Zb8 (Zb0 rfl) Zb7)))⟩
 rintro i⟨hi,m⟩;by_cases a:i<l.length
 ·obtain⟨x,b⟩:=Qac a;have h:=r x (Zae b);have d:=Qc6 b;have f:5<=(List.drop (i*5) (l.flatMap itV)).length:=by rw[ZaE,o];omega
  cases g:q x
  ·rw[g]at h;refine Zcy (ZcB a d f @Zbo) ?_;refine⟨_,by simpa using h,?_⟩;refine Zcx ?_;refine⟨i+1,by omega,⟨by omega,fun j y k n=>?_⟩,?_⟩
   ·by_cases e:j=i;·subst e;rw[b]at n;cases n;exact g
    exact m j y (by omega) n
   exact⟨[],rfl,Zb6,Zb9,Zb8 (Zb0 (Qbt _)) (Zb8 (Zb0 c) (Zb8 (Zb0 rfl) (Zb8 (Zb0 rfl) Zb7)))⟩
  rw[g]at h;refine Zcy (ZcB a d f @Zbo) ?_;refine⟨_,by simpa using h,?_⟩;refine Zcx ?_;refine⟨.inr trivial,_,rfl,?_⟩;rw[QlN b g m];rfl
 refine Zcy a ?_;refine⟨.inr trivial,_,rfl,?_⟩;rw[QiB fun x b=>by obtain⟨j,k,p⟩:=ZaX b;exact m j x (by omega) (by rw[Zad k,p])];rfl
theorem contains136{K:Nat}{cap:List AV}(q:Itn->Bool)(l:List Itn)(a:l.length<=1000000)(hc:noRefs cap=true)(b:∀x∈l,PSpec Tryz.prog K (.agg (itV x)::cap) (.bool (q x))):PSpec Tryz.prog 136 [itsV l,.fn K [] cap] (.bool (l.any q)):=by
 refine Zb3 64 TT.ok136 rfl (by rw[noRefs,noRefs,Qbw hc,Qbt];rfl) rfl ?_;unfold TT.s136;refine Zcx ?_;refine cp (index52Z q l a hc b) ?_;have e:=@QlO Itn q l;cases h:l.any q;·rw[h,decide_eq_false_iff_not]at e;refine Zcy e ?_;exact⟨.inr trivial,_,rfl,rfl⟩
 rw[h,decide_eq_true_eq]at e;refine Zcy e ?_;exact⟨.inr trivial,_,rfl,rfl⟩
theorem same137(x y:Itn):PSpec Tryz.prog 137 [.agg (itV y),.fptr (itV x)] (.bool (decide (y.1=x.1))):=by refine Zb3 64 TT.ok137 rfl (by simp only[noRefs,noRef,Qdv];rfl) rfl ?_;dsimp only[itV];unfold TT.s137;refine Zcy @Qfw ?_;exact⟨.inr trivial,_,rfl,rfl⟩
theorem ge138(c:CelN)(x:Nat):PSpec Tryz.prog 138 [.int .i64 (x:Int),.fptr [evns c.ev,itsV c.cs,itsV c.rs,exsZ c.xs,cosZ c.ks]] (.bool (decide ((c.ev.length:Int)<=(x:Int)))):=by have a:=QbL c;refine Zb3 64 TT.ok138 rfl (by rw[noRefs,noRef,noRefs,noRef,a];rfl) rfl ?_;unfold TT.s138;refine Zcx ?_;exact⟨.inr trivial,_,rfl,rfl⟩
theorem not139(A:List Nat)(x:Nat)(hA:A.length<=1000000):PSpec Tryz.prog 139 [.int .i64 (x:Int),.fptr [sliN A]] (.bool (!decide (x∈A))):=by
 refine Zb3 64 TT.ok139 rfl (by simp only[noRefs,noRef,Qaa];rfl) rfl ?_;have h:=contains62 (nz A) x (by simp;omega);have e:decide ((x:Int)∈nz A)=decide (x∈A):=by
  refine decide_eq_decide.2 ⟨fun h=>?_,fun h=>Zas.2 ⟨x,h,rfl⟩⟩;obtain⟨a,h1,b⟩:=Zas.1 h;have:a=x:=by omega
  exact this▸h1
 rw[e,QaO]at h;unfold TT.s139;refine Zcx ?_;refine cp h ?_;refine Zcx ?_;exact⟨.inr trivial,_,rfl,rfl⟩
end Go.AM.SO
namespace Go.AM.TU
open Go.Proofs
set_option maxHeartbeats 4000000
noncomputable section
def cf:YA.Cf:={}
def s90:SFn:=by
 refine(?f:YA.Yt Tryz.prog cf 90 [[4],[0,1,6,7,8,9],[10,11],[5,12,13]]) ?s ?h;case h=>exact YA.rr
 exact fun s _=>s
theorem ok90:okFn Tryz.prog 90 s90=true:=by kernel_rfl
end
end Go.AM.TU
