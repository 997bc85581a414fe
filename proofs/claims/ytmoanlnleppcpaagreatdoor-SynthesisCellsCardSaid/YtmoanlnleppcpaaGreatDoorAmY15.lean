/- A part of the proof of SynthesisCellsCardSaid: lemmas on the way (AmCp, AmGb, AmGc, AmGd, AmGk, AmGl, AmCq, AmGe, AmGf, AmGn, AmGp, AmGq, AmGo, AmTo, AmTm, AmCzf, AmGg, AmGs, AmGr, AmGt, AmGu, AmGv, AmGw, AmTp, AmHc). Conditions: none of ours. -/
import Derived.Test.YtmoanlnleppcpaaGreatDoorProg
import Derived.KernelRfl
import Derived.Test.YtmoanlnleppcpaaGreatDoorAmY14
set_option linter.unusedSectionVars false
set_option maxHeartbeats 32000000
set_option maxRecDepth 100000
set_option linter.unusedVariables false
set_option linter.unusedSimpArgs false
namespace Go.AM.SO
open Go.Proofs Go.AM.SD Go.AM.SE
def stp(l:List Aut)(t:List Nat)(e:Nat):Nat->Option (List Nat)|0=>some t|k+1=>match stp l t e k with|none=>none|some n=>match l[k]? with|none=>some n|some a=>if e∈a.al then(match stepA a.es (t.getD k 0) e with|some to=>some (n.set k to)|none=>none)else some n
def stepT(l:List Aut)(t:List Nat)(e:Nat):Option (List Nat):=stp l t e l.length
def Stp(l:List Aut)(t:List Nat)(e:Nat)(n:List Nat)(k:Nat):Prop:=n.length=t.length/\(∀i,k<=i->n[i]?=t[i]?)/\∀i a,i<k->l[i]?=some a->if e∈a.al then stepA a.es (t.getD i 0) e=n[i]? else n[i]?=t[i]?
theorem Qfu{l:List Aut}{t n:List Nat}{e:Nat}:∀{k:Nat},k<=l.length->l.length<=t.length->(stp l t e k=some n↔Stp l t e n k)
 |0,_,_=>by
  unfold stp Stp;constructor;·simp_all
  rintro⟨_,h,_⟩;have:t=n:=Zba fun i=>(h i (Zah _)).symm;rw[this]|k+1,hk,o=>by
  obtain⟨a,r⟩:=Qap (l:=l) (i:=k) (by omega);have s:k<t.length:=by omega
  unfold stp;rw[r];constructor;·intro h;cases hm:stp l t e k with|none=>rw[hm]at h;cases h|some m=>
   rw[hm]at h;dsimp only at h;obtain⟨h1,q,d⟩:=(Qfu (n:=m) (by omega) o).1 hm;by_cases he:e∈a.al;·rw[if_pos he]at h;cases p:stepA a.es (t.getD k 0) e with|none=>rw[p]at h;cases h|some to=>
    rw[p]at h;cases h;refine⟨by simp_all,fun i hi=>by grind,fun i b hi c=>?_⟩;by_cases g:i=k;·simp_all
    rw[List.getElem?_set_ne (by omega)];exact d i b (by omega) c
   rw[if_neg he]at h;cases h;refine⟨h1,fun i hi=>q i (by omega),fun i b hi c=>?_⟩;by_cases g:i=k;·grind
   exact d i b (by omega) c
  rintro⟨h1,q,d⟩;have f:=d k a (Nat.lt_succ_self _) r;by_cases he:e∈a.al
  ·rw[if_pos he]at f;have j:Stp l t e (n.set k (t.getD k 0)) k:=by
    refine⟨by simp_all,fun i hi=>?_,fun i b hi c=>?_⟩;·grind
    rw[List.getElem?_set_ne (by omega)];exact d i b (by omega) c
   rw[(Qfu (n:=n.set k (t.getD k 0)) (by omega) o).2 j];simp_all
  rw[if_neg he]at f;have j:Stp l t e n k:=⟨h1,fun i hi=>by grind,fun i b hi c=>d i b (by omega) c⟩;rw[(Qfu (n:=n) (by omega) o).2 j];simp_all
theorem Qfv{l:List Aut}{t n:List Nat}{e:Nat}(a:l.length<=t.length):stepT l t e=some n↔Stp l t e n l.length:=Qfu (ZaO _) a
def pEv(l:List Aut)(i:Nat)(t:List Nat)(s:List (List Nat)×List Ed)(e:Nat):List (List Nat)×List Ed:=match stepT l t e with|none=>s|some n=>(if n∈s.1 then s.1 else s.1++[n],s.2++[(i,e,s.1.findIdx (·==n))])
def pRow(l:List Aut)(ev:List Nat)(i:Nat)(t:List Nat)(s:List (List Nat)×List Ed):List (List Nat)×List Ed:=ev.foldl (pEv l i t) s
def pQ(l:List Aut)(ev:List Nat):Nat->Nat->List (List Nat)×List Ed->List (List Nat)×List Ed|0,_,s=>s|k+1,i,s=>match s.1[i]? with|some t=>pQ l ev k (i+1) (pRow l ev i t s)|none=>s
def orE(a b:Bool):Bool:=a||b
def evA(l:List Aut):List Nat:=l.foldl (fun out a=>mrg orE out a.al) []
def mkdT:List Aut->List Nat->Bool|[],_=>true|a::l,t=>a.ms.contains (t.headD 0)&&mkdT l t.tail
def box:List Aut->Nat|[]=>1|a::l=>a.n*box l
def sync0(l:List Aut):List (List Nat)×List Ed:=pQ l (evA l) (box l+1) 0 ([List.replicate l.length 0],[])
def syncA(l:List Aut):Aut:=⟨evA l,(sync0 l).1.length,(List.range (sync0 l).1.length).filter fun i=>mkdT l ((sync0 l).1.getD i []),(sync0 l).2⟩
def InT(l:List Aut)(t:List Nat):Prop:=t.length=l.length/\∀i a,l[i]?=some a->t.getD i 0<a.n
def allT:List Aut->List (List Nat)|[]=>[[]]|a::l=>(List.range a.n).flatMap fun x=>(allT l).map (x::·)
theorem Qmc:∀{l:List Aut}{t:List Nat},InT l t->t∈allT l|[],t,⟨h,_⟩=>by simp_all[allT]|a::l,[],⟨h,_⟩=>by simp at h|a::l,x::t,⟨h,c⟩=>by unfold allT;refine Zby.2 ⟨x,Zau.2 (by simpa using c 0 a rfl),Zaq.2 ⟨t,Qmc ⟨by simpa using h,fun i b d=>?_⟩,rfl⟩⟩;simpa using c (i+1) b (by simpa using d)
theorem Qmd:∀(l:List Aut),(allT l).length=box l|[]=>rfl|a::l=>by unfold allT box;rw[List.length_flatMap];simp only[Zaw,Qmd l];simp_all[List.map_const']
theorem Qkj{α:Type}[DecidableEq α]:∀{l m:List α},l.Nodup->(∀x∈l,x∈m)->l.length<=m.length|[],m,_,_=>Zah _|x::l,m,h,hm=>by rw[Zb6]at h;have h1:=hm x (by simp);have c:=Qkj (l:=l) (m:=m.erase x) h.2 fun y a=>(List.mem_erase_of_ne (fun(e:y=x)=>h.1 (e▸a))).2 (hm y (by simp[a]));grind
theorem Qc0{l:List Aut}{T:List (List Nat)}(c:T.Nodup)(hi:∀t∈T,InT l t):T.length<=box l:=by rw[<-Qmd];exact Qkj c fun t a=>Qmc (hi t a)
theorem Qqd{l:List Aut}{k:Nat}(h:∀a∈l,a.n<=k)(hk:1<=k):box l<=k^l.length:=by induction l with|nil=>simp[box]|cons a l d=>unfold box;rw[ZaF,Nat.pow_succ,Nat.mul_comm];exact Nat.mul_le_mul (d fun b c=>h b (by simp[c])) (h a (by simp))
theorem Qfw{l:List Aut}(hw:∀a∈l,∀e∈a.es,e.1<a.n/\e.2.2<a.n){t n:List Nat}{e:Nat}(d:InT l t)(h:stepT l t e=some n):InT l n:=by
 obtain⟨h1,k,j⟩:=(Qfv (Nat.le_of_eq d.1.symm)).1 h;refine⟨by rw[h1,d.1],fun i a f=>?_⟩;have hi:i<l.length:=by grind
 have c:=j i a hi f;by_cases he:e∈a.al;·rw[if_pos he]at c;obtain⟨x,g⟩:=Qap (l:=n) (i:=i) (by rw[h1,d.1];exact hi);rw[g]at c;rw[Zak,g];exact Qfb (hw a (Zaf f)) c
 rw[if_neg he]at c;rw[Zak,c,<-Zak];exact d.2 i a f
structure PI(l:List Aut)(s:List (List Nat)×List Ed):Prop where
 nd:s.1.Nodup
 inT:∀t∈s.1,InT l t
theorem QtL{l:List Aut}(hw:∀a∈l,∀e∈a.es,e.1<a.n/\e.2.2<a.n){i e:Nat}{t:List Nat}{s:List (List Nat)×List Ed}(d:InT l t)(h:PI l s):PI l (pEv l i t s e):=by unfold pEv;cases f:stepT l t e with|none=>exact h|some n=>
 have g:=Qfw hw d f;dsimp only;by_cases hm:n∈s.1;·simp only[if_pos hm];exact⟨h.nd,h.inT⟩
 simp only[if_neg hm];refine⟨List.nodup_append.2 ⟨h.nd,by simp,fun x c y j=>by grind⟩,fun x c=>?_⟩;rcases ZaI.1 c with c|c;·exact h.inT x c
 simp_all
theorem QdW{l:List Aut}(hw:∀a∈l,∀e∈a.es,e.1<a.n/\e.2.2<a.n){i:Nat}{t:List Nat}(c:InT l t):∀{ev:List Nat}{s:List (List Nat)×List Ed},PI l s->PI l (pRow l ev i t s)|[],s,h=>h|e::ev,s,h=>QdW hw c (ev:=ev) (QtL hw c h)
theorem Qsh{l:List Aut}{i e:Nat}{t:List Nat}{s:List (List Nat)×List Ed}:s.1<+:(pEv l i t s e).1:=by grind[pEv]
theorem QcE{l:List Aut}{i:Nat}{t:List Nat}:∀{ev:List Nat}{s:List (List Nat)×List Ed},s.1<+:(pRow l ev i t s).1|[],s=>List.prefix_refl _|e::ev,s=>List.IsPrefix.trans Qsh (QcE (ev:=ev))
theorem pQ_ok{l:List Aut}{ev:List Nat}(hw:∀a∈l,∀e∈a.es,e.1<a.n/\e.2.2<a.n):∀{k i:Nat}{s:List (List Nat)×List Ed},PI l s->PI l (pQ l ev k i s)|0,_,_,h=>h|k+1,i,s,h=>by unfold pQ;cases c:s.1[i]? with|none=>exact h|some t=>exact pQ_ok hw (QdW hw (h.inT t (Zaf c)) h)
theorem Qqe{l:List Aut}{ev:List Nat}:∀{k i:Nat}{s:List (List Nat)×List Ed},s.1<+:(pQ l ev k i s).1|0,_,_=>List.prefix_refl _|k+1,i,s=>by unfold pQ;cases a:s.1[i]? with|none=>exact List.prefix_refl _|some t=>exact List.IsPrefix.trans QcE Qqe
theorem Qfx{l:List Aut}(f:∀a∈l,0<a.n):PI l ([List.replicate l.length 0],[]):=by refine⟨by simp,fun t c=>?_⟩;simp at c;subst c;refine⟨by simp,fun i a d=>?_⟩;grind
theorem QeW{l:List Aut}(c:∀a∈l,0<a.n)(hw:∀a∈l,∀e∈a.es,e.1<a.n/\e.2.2<a.n):PI l (sync0 l):=pQ_ok hw (Qfx c)
theorem Qrj{l:List Aut}(c:∀a∈l,0<a.n)(hw:∀a∈l,∀e∈a.es,e.1<a.n/\e.2.2<a.n):(sync0 l).1.length<=box l:=Qc0 (QeW c hw).nd (QeW c hw).inT
end Go.AM.SO
namespace Go.AM.SO
open Go.Proofs Go.AM.SD Go.AM.SE
def auC(a:Aut):List AV:=[sliN a.al,.int .i64 (a.n:Int),sliN a.ms,egsN a.es]
abbrev auts(l:List Aut):AV:=.fsl (l.flatMap auC) l.length 4
theorem Qa0(l:List Aut):noRefs (l.flatMap auC)=true:=Qa1 (fun x=>by simp only[auC,noRefs,noRef,Qaa,Qad];rfl) l
theorem Qa8(l:List Aut):noRef (auts l)=true:=by simp only[noRef];exact Qa0 l
theorem Qgn(l:List Aut):(l.flatMap auC).length=l.length*4:=Qbd (k:=4) (fun _=>rfl) l
theorem QdX{l:List Aut}{i:Nat}{x:Aut}(h:l[i]?=some x):(l.flatMap auC).drop (i*4)=sliN x.al::.int .i64 (x.n:Int)::sliN x.ms::egsN x.es::(l.drop (i+1)).flatMap auC:=Qbh (f:=auC) (k:=4) (fun _=>rfl) h
theorem _root_.Go.AM.au20{p:Prop}(h:p:=by repeat(first|exact Zck|(refine Zcl ?_ ?_;·(first|exact Rn.any|exact Rn.x1 rfl rfl|exact Rn.x2 rfl rfl|exact Rn.x3 rfl rfl|exact Rn.x4 rfl rfl|exact Rn.x5 rfl|exact Rn.x6 rfl|exact Rn.x7 rfl|(refine Rn.slot ?_ ?_;(first|rfl|(rw[ZaV];rfl));(first|rfl|(simp only[noRef,noRefs,Qag,Zad,Zac,Zag,Qaa,Qan,Qab,Qam];done)))|(refine Rn.fn ?_ ?_<;>(repeat'(first|exact Zcs|refine Zct ?_ ?_|exact Zcd rfl|exact Rn.x6 rfl|exact Rn.x2 rfl rfl|exact Rn.x5 rfl|exact Rn.x1 rfl rfl))))))):p:=h
theorem _root_.Go.AM.au21{p:Prop}(h:p:=by repeat'(first|exact Zcm|(refine Zce ?_;first|rfl|(simp only[noRef,noRefs,Qag,Zad,Zac,Zag,Qaa,Qan,Qab,Qam];done))|exact Zcy rfl|exact Zcs|exact(True.intro:RnM _ _ _ [] [])|refine Zct ?_ ?_|(refine Zcd ?_;first|rfl|(simp only[noRef,noRefs,Qag,Zad,Zac,Zag,Qaa,Qan,Qab,Qam];done))|exact Rn.x1 rfl rfl|exact Rn.x2 rfl rfl|exact Rn.x3 rfl rfl|exact Rn.x4 rfl rfl|exact Rn.x5 rfl|exact Rn.x6 rfl|exact Rn.x7 rfl|refine Zco rfl rfl ?_|refine Zcn rfl rfl rfl ?_ ?_|refine Zcp rfl rfl rfl ?_ ?_|refine Zcq rfl rfl ?_ ?_|refine Zcr rfl rfl ?_ ?_)):p:=h
theorem check95(l:List Aut)(h:∀a∈l,WfI a)(m:l.length<=12):PSpec Tryz.prog 95 [auts l] (.int .i64 0):=by
 refine Zcg 64 TP.ok95 rfl (by rw[noRefs,Qa8];rfl) rfl ?_;have g1:¬(12:Int)<(l.length:Int):=by omega
 have d:=Qa8 l;unfold TP.s95;refine ZcM g1 ?_;refine Qaq 100 (fun i:Nat=>[(9,auts l),(10,.int .i64 l.length),(11,.int .i64 i)]) (fun _=>[]) (fun i=>i<=l.length) (fun i=>l.length-i) 0 0 140 (fun _:Unit=>[]) (fun _=>[]) (fun _=>True) ?_ (Zah _) ?_ ?_;·exact⟨[],rfl,Zcj,Zcm,Zcl (Zcd d) au20⟩
 ·rintro i hi;by_cases c:i<l.length
  ·obtain⟨x,k⟩:=Qap c;have f:=h x (Zaf k);have g:=QdX k;have j:4<=((l.flatMap auC).drop (i*4)).length:=by rw[g];simp
   have hc:=check112 x f.wf (by have:=f.el;omega);refine ZcM (ZcO c g j) ?_;refine cp hc ?_;refine ZcL ?_;exact⟨i+1,by omega,by omega,[],rfl,Zcj,Zcm,Zcl (Zcd d) au20⟩
  refine ZcM c ?_;exact⟨(),⟨[],rfl,au0,au21,au20⟩⟩
 rintro _ _;refine ZcL ?_;exact⟨.inr trivial,_,rfl,rfl⟩
theorem Qrk{l:List Aut}{i:Nat}{x:Aut}(h:l[i]?=some x):evA (l.take (i+1))=mrg (fun a b=>a||b) (evA (l.take i)) x.al:=by unfold evA;rw[take_succ' h,ZaZ];rfl
theorem QgA(l:List Aut):evA l=uUp (l.map fun a=>(0,a)):=by unfold evA uUp;rw[List.foldl_map];rfl
theorem Qiy{l:List Aut}(h:∀a∈l,WfI a):(evA l).Pairwise (·<·):=by rw[QgA];refine Qfs fun x d=>?_;obtain⟨a,c,rfl⟩:=Zaq.1 d;exact h a c
theorem Qi6{l:List Aut}(h:∀a∈l,WfI a):(evA l).length<=5:=by rw[QgA];refine Qi4 fun x d=>?_;obtain⟨a,c,rfl⟩:=Zaq.1 d;exact h a c
theorem events187(l:List Aut)(h:∀a∈l,WfI a)(p:l.length<=12):PSpec Tryz.prog 187 [auts l] (sliN (evA l)):=by
 refine Zcf 64 TP.ok187 rfl (by rw[noRefs,Qa8];rfl) (Qab _) ?_;have f:=Qa8 l;unfold TP.s187;refine ZcL ?_;refine Qaq 100 (fun i:Nat=>[(3,sliN (evA (l.take i))),(6,auts l),(7,.int .i64 l.length),(8,.int .i64 i)]) (fun _=>[]) (fun i=>i<=l.length) (fun i=>l.length-i) 0 0 140 (fun _:Unit=>[(3,sliN (evA l))]) (fun _=>[]) (fun _=>True) ?_ (Zah _) ?_ ?_;·exact⟨[],rfl,Zcj,Zcm,Zcl Rn.nilK (Zcl (Zcd f) au20)⟩
 ·rintro i hi;by_cases d:i<l.length
  ·obtain⟨x,j⟩:=Qap d;have k:=h x (Zaf j);have g:=QdX j;have m:4<=((l.flatMap auC).drop (i*4)).length:=by rw[g];simp
   have c:(evA (l.take i)).length<=1000000:=by have:=Qi6 (l:=l.take i) fun y o=>h y (ZaP o);omega
   have n:=union84 (evA (l.take i)) x.al c (by have:=Qgj k.wf;omega);rw[<-Qrk j]at n;refine ZcM (ZcO d g m) ?_;refine cp n ?_;refine ZcL ?_;exact⟨i+1,by omega,by omega,[],rfl,Zcj,Zcm,Zcl (Zcd (Qab _)) (Zcl (Zcd f) au20)⟩
  have e:i=l.length:=by omega
  subst e;refine ZcM (ZcN d @Zay) ?_;exact⟨(),⟨[],rfl,au0,au21,au20⟩⟩
 rintro _ _;refine ZcL ?_;exact⟨.inr trivial,_,rfl,Zcd (Qab _)⟩
theorem has189(l:List Nat)(t:Nat)(c:l.Pairwise (·<·))(a:l.length<=1000000):PSpec Tryz.prog 189 [sliN l,.int .i64 (t:Int)] (.bool (l.contains t)):=by refine Zcg 64 TP.ok189 rfl (by(try simp only[noRefs,Qaa,noRef,noRefs,Zad,Zac])<;>rfl) rfl ?_;have h:=find57 l t (c.imp fun h=>Nat.le_of_lt h) a;unfold TP.s189;refine ZcL ?_;refine cp h ?_;refine ZcL ?_;exact⟨.inr trivial,_,rfl,rfl⟩
end Go.AM.SO
namespace Go.AM.SO
open Go.Proofs Go.AM.SD Go.AM.SE
theorem _root_.Go.AM.ZcI{p q A:Prop}(a:A)(k:q)(h:A->p=q:=by intro a;conv=>lhs;simp(disch:=first|omega|exact PairsOK.mk rfl|(simp only[lenW]<;>omega))only[a,Zay,Qac,Qae,Qaf,wW,wV,simprocAttr]):p:=h a▸k
theorem _root_.Go.AM.ZcJ{p q:Prop}(k:q)(h:p=q:=by conv=>lhs;simp(disch:=first|omega|exact PairsOK.mk rfl|(simp only[lenW]<;>omega))only[Qac,Qae,Qaf,wW,wV,simprocAttr]):p:=h▸k
theorem _root_.Go.AM.ZcK{p q A:Prop}(a:A)(k:q)(h:A->p=q:=by intro a;conv=>lhs;simp(disch:=first|omega|exact PairsOK.mk rfl|(simp only[lenW]<;>omega))only[a,Qac,Qae,Qaf,wW,wV,simprocAttr]):p:=h a▸k
theorem Qav{α:Type}{f:α->AV}(h:∀x,noRef (f x)=true)(l:List α):noRefs (l.map f)=true:=by induction l with|nil=>rfl|cons x l a=>simp only[ZaR,noRefs,h,a];rfl
def pE(e:Ed):Nat×Nat:=(e.1,e.2.1)
def vE(es:List Ed)(p:Nat×Nat):AV:=.int .i64 (((stepA es p.1 p.2).getD 0:Nat):Int)
abbrev emV(a:Aut):AV:=fmapG kP (vE a.es) (a.es.map pE)
theorem Qcq(a:Aut):noRef (emV a)=true:=by rw[emV,fmapG,noRef,Qav (fun _=>rfl),Qav (fun _=>rfl)];rfl
theorem Qac{x y:List AV}:(AV.fmap x y).cells=[.fmap x y]:=rfl
theorem Qae{x y:List AV}:(AV.fmap x y).one=true:=rfl
theorem Qaf{x y:List AV}:(AV.fmap x y).boxable=true:=rfl
abbrev macV(l:List Aut):AV:=.agg [auts l,sliN (evA l),.fsl (l.map emV) l.length 1]
theorem QcR(l:List Aut):noRef (macV l)=true:=by rw[macV,noRef,noRefs,noRefs,noRefs,Qa8,Qab,noRef,Qav Qcq];rfl
theorem Qiz{e:Ed}{es:List Ed}{s v:Nat}:stepA (e::es) s v=if e.1=s/\e.2.1=v then some e.2.2 else stepA es s v:=by unfold stepA;rw[List.find?_cons];by_cases h1:e.1=s<;>by_cases a:e.2.1=v<;>simp[h1,a,beq_eq_false_iff_ne.2]
theorem QhL:∀{es:List Ed},es.Pairwise (fun x y=>x.1<y.1\/(x.1=y.1/\x.2.1<y.2.1))->∀{e:Ed},e∈es->stepA es e.1 e.2.1=some e.2.2
 |x::es,h,e,he=>by
  rw[Zaz]at h;rw[Qiz];rcases ZaA.1 he with rfl|he;·rw[if_pos ⟨rfl,rfl⟩]
  have :=h.1 e he;rw[if_neg (by omega)];exact QhL h.2 he
theorem QiA:∀{es:List Ed}{s v:Nat},(s,v)∉es.map pE->stepA es s v=none|[],s,v,_=>rfl|x::es,s,v,h=>by rw[ZaR,ZaA,not_or]at h;rw[Qiz,if_neg fun a=>h.1 (by unfold pE;rw[a.1,a.2])];exact QiA h.2
theorem Qew{es:List Ed}{s v t:Nat}(h:stepA es s v=some t):(s,v)∈es.map pE:=by refine Decidable.byContradiction fun a=>?_;rw[QiA a]at h;cases h
theorem Qrl{es:List Ed}(h:es.Pairwise (fun x y=>x.1<y.1\/(x.1=y.1/\x.2.1<y.2.1))){j:Nat}{e:Ed}(he:es[j]?=some e):(e.1,e.2.1)∉(es.take j).map pE:=by
 intro hm;obtain⟨y,f,c⟩:=Zaq.1 hm;obtain⟨k,hk⟩:=List.mem_iff_getElem?.1 f;have a:k<j:=by
  rcases Zbz k j with h|h;·exact h
  rw[Zat (by rw[Zas];omega)]at hk;cases hk
 rw[List.getElem?_take_of_lt a]at hk;obtain⟨d,i⟩:=Zam.1 hk;obtain⟨l,g⟩:=Zam.1 he;have:=Za8.1 h k j d l a;rw[i,g]at this;unfold pE at c;simp only[Zaj]at c;omega
theorem QtM{es:List Ed}(h:es.Pairwise (fun x y=>x.1<y.1\/(x.1=y.1/\x.2.1<y.2.1))){e:Ed}(he:e∈es):updG (vE es) (e.1,e.2.1) (.int .i64 (e.2.2:Int))=vE es:=by
 funext p;unfold updG;split;·rename_i hp;subst hp;unfold vE;rw[QhL h he];rfl
 rfl
theorem _root_.Go.AM.au22{p:Prop}(h:p:=by repeat(first|exact Zck|(refine Zcl ?_ ?_;·(first|exact Rn.any|exact Rn.x1 rfl rfl|exact Rn.x2 rfl rfl|exact Rn.x3 rfl rfl|exact Rn.x4 rfl rfl|exact Rn.x5 rfl|exact Rn.x6 rfl|exact Rn.x7 rfl|(refine Rn.slot ?_ ?_;(first|rfl|(rw[ZaV];rfl));(first|rfl|(simp only[noRef,noRefs,Qag,Zad,Zac,Zag,Qaa,Qan,Qab,Qam,Qa0,Qad];done)))|(refine Rn.fn ?_ ?_<;>(repeat'(first|exact Zcs|refine Zct ?_ ?_|exact Zcd rfl|exact Rn.x6 rfl|exact Rn.x2 rfl rfl|exact Rn.x5 rfl|exact Rn.x1 rfl rfl))))))):p:=h
theorem open96(l:List Aut)(h:∀a∈l,WfI a)(w:l.length<=12):PSpec Tryz.prog 96 [auts l] (macV l):=by
 refine Zcf 64 TP.ok96 rfl (by rw[noRefs,Qa8];rfl) (QcR l) ?_;have q:=events187 l h w;have c:=Qa8 l;have hlen:(l.map emV).length=l.length:=Zaw ..;unfold TP.s96;refine ZcJ ?_;refine cp q ?_;refine ZcJ ?_;refine Qaq 120 (fun i:Nat=>[(2,.ptr 51 0 0),(3,.ptr 52 0 0),(13,auts l),(14,.int .i64 l.length),(15,.int .i64 i)]) (fun i=>[(51,.cells 0 [.nilsl,.nilsl,.nilsl]),(52,.cells 0 [auts l,sliN (evA l),.sl 76 0 0 i 1]),(76,.cells 0 ((l.take i).map emV))]) (fun i=>i<=l.length) (fun i=>l.length-i) 0 0 300 (fun _:Unit=>[(2,.ptr 51 0 0),(3,.ptr 52 0 0)]) (fun _=>[(51,.cells 0 [.nilsl,.nilsl,.nilsl]),(52,.cells 0 [auts l,sliN (evA l),.fsl (l.map emV) l.length 1])]) (fun _=>True) ⟨[(51,.blk 64 0),(52,.blk 69 0),(76,.nil)],rfl,au0,?_,au22⟩ (Zah _) ?_ ?_;·exact Zcn rfl rfl gg (Zce rfl) (Zcn rfl rfl gg (Zct (Zcd c) (Zct (Zcd (Qab _)) (Zct (Rn.x4 rfl rfl) Zcs))) (Zco rfl rfl Zcm))
 ·rintro i hi;by_cases g:i<l.length
  ·obtain⟨x,u⟩:=Qap g;have d:=h x (Zaf u);have m:=QdX u;have r:4<=((l.flatMap auC).drop (i*4)).length:=by rw[m];simp
   have n:=take_succ' u;have t:(l.take i).length=i:=by rw[Zas];omega
   have s:((l.take i).map emV).length=i:=by rw[Zaw,t]
   have z:=d.el;refine ZcK (ZcO g m r) ?_;refine Qaq 220 (fun j:Nat=>[(2,.ptr 51 0 0),(3,.ptr 52 0 0),(13,auts l),(14,.int .i64 l.length),(15,.int .i64 i),(6,.map 77 0),(21,egsN x.es),(22,.int .i64 x.es.length),(23,.int .i64 j)]) (fun j=>[(51,.cells 0 [.nilsl,.nilsl,.nilsl]),(52,.cells 0 [auts l,sliN (evA l),.sl 76 0 0 i 1]),(76,.cells 0 ((l.take i).map emV)),(77,.map 0 (mapG kP (vE x.es) ((x.es.take j).map pE)))]) (fun j=>j<=x.es.length) (fun j=>x.es.length-j) 0 2 280 (fun _:Unit=>[(2,.ptr 51 0 0),(3,.ptr 52 0 0),(13,auts l),(14,.int .i64 l.length),(15,.int .i64 i),(6,emV x)]) (fun _=>[(51,.cells 0 [.nilsl,.nilsl,.nilsl]),(52,.cells 0 [auts l,sliN (evA l),.sl 76 0 0 i 1]),(76,.cells 0 ((l.take i).map emV))]) (fun _=>True) ⟨[(51,.blk 51 0),(52,.blk 52 0),(76,.blk 76 0),(77,.blk 125 0)],rfl,au0,?_,au22⟩ (Zah _) ?_ ?_;·exact Zcn rfl rfl gg (Zce rfl) (Zcn rfl rfl gg (Zct (Zcd c) (Zct (Zcd (Qab _)) (Zct (Rn.x1 rfl rfl) Zcs))) (Zcn rfl rfl gg (Zce (Qav Qcq _)) (Zcp rfl rfl gg (ZcC fun _ _=>⟨rfl,rfl⟩) Zcm)))
   ·rintro j A;by_cases f:j<x.es.length
    ·obtain⟨e,he⟩:=Qap f;have k:=QaB he;have o:3<=((x.es.flatMap edC).drop (j*3)).length:=by rw[k];simp
     have p:=Qrl d.wf.es he;have v:=QtM d.wf.es (Zaf he);refine ZcK (ZcO f k o) ?_;refine Qcp (c:=kP) (f:=vE x.es) (x:=(e.1,e.2.1)) (l:=(x.es.take j).map pE) (g:=0) gg Qmb p (by omega) ?_;rw[v];refine ZcJ ?_;refine⟨j+1,by omega,by omega,?_⟩;rw[take_succ' he,ZaL];refine⟨[(51,.blk 51 0),(52,.blk 52 0),(76,.blk 76 0),(77,.blk 77 0)],rfl,au0,?_,au22⟩;exact Zcn rfl rfl gg (Zce rfl) (Zcn rfl rfl gg (Zct (Zcd c) (Zct (Zcd (Qab _)) (Zct (Rn.x1 rfl rfl) Zcs))) (Zcn rfl rfl gg (Zce (Qav Qcq _)) (Zcp rfl rfl gg (ZcC fun _ _=>⟨rfl,rfl⟩) Zcm)))
    have e:j=x.es.length:=by omega
    subst e;refine ZcI f ?_;refine⟨(),[(51,.blk 51 0),(52,.blk 52 0),(76,.blk 76 0)],rfl,Zcj,?_,?_⟩;·exact Zcn rfl rfl gg (Zce rfl) (Zcn rfl rfl gg (Zct (Zcd c) (Zct (Zcd (Qab _)) (Zct (Rn.x1 rfl rfl) Zcs))) (Zcn rfl rfl gg (Zce (Qav Qcq _)) Zcm))
    exact Zcl (Rn.x2 rfl rfl) (Zcl (Rn.x2 rfl rfl) (Zcl (Zcd c) (Zcl (Zcd rfl) (Zcl (Zcd rfl) (Zcl (Rn.fzM (b:=77) (g:=0) gg rfl rfl fun _ _=>⟨rfl,rfl⟩) Zck)))))
   rintro _ _;have y:=Qcq x;refine ZcK s ?_;refine⟨i+1,by omega,by omega,?_⟩;rw[n,ZaL];refine⟨[(51,.blk 51 0),(52,.blk 52 0),(76,.blk 76 1)],rfl,au0,?_,au22⟩;exact Zcn rfl rfl gg (Zce rfl) (Zcn rfl rfl gg (Zct (Zcd c) (Zct (Zcd (Qab _)) (Zct (Rn.x1 rfl rfl) Zcs))) (Zcn rfl rfl gg (Zce (SU.Qax (Qav Qcq _) (Qav Qcq [x]))) Zcm))
  have e:i=l.length:=by omega
  subst e;refine ZcI g ?_;refine⟨(),?_⟩;refine⟨[(51,.blk 51 0),(52,.blk 52 0)],rfl,au0,?_,au22⟩;exact Zcn rfl rfl gg (Zce rfl) (Zcn rfl rfl gg (Zct (Zcd c) (Zct (Zcd (Qab _)) (Zct (Zcu rfl rfl rfl rfl (by simp) (Zce (Qav Qcq _))) Zcs))) Zcm)
 rintro _ _;refine ZcJ ?_;refine⟨.inr trivial,_,rfl,?_⟩;exact Zcd (QcR l)
end Go.AM.SO
namespace Go.AM.SO
open Go.Proofs Go.AM.SD Go.AM.SE
theorem QdO(l:List Aut):noRefs [auts l,sliN (evA l),.fsl (l.map emV) l.length 1]=true:=by have:=QcR l;rwa[macV,noRef]at this
theorem Qqf(n:Nat)(x:Int):(List.replicate n [AV.int .i64 x]).flatten=ints (List.replicate n x):=by induction n with|zero=>rfl|succ n a=>rw[ZaW,Zbs,a];rfl
theorem QtN(n:Nat):nz (List.replicate n 0)=List.replicate n 0:=by simp[nz]
theorem initial97(l:List Aut)(h:∀a∈l,WfI a)(p:0<l.length)(q:l.length<=12):PSpec Tryz.prog 97 [macV l] (.tup [sliN (List.replicate l.length 0),.bool true]):=by
 refine Zcf 64 TP.ok97 rfl (by rw[noRefs,QcR];rfl) (by rw[noRef,noRefs,Qab];rfl) ?_;have o:=Qa8 l;have c:=QdO l;have k:(l.length:Int)<=140737488355328:=by omega
 have j:(8:Int)*l.length<=140737488355328:=by omega
 unfold TP.s97;refine ZcJ ?_;refine Qaq 100 (fun i:Nat=>[(1,.ptr 51 0 0),(7,auts l),(8,.int .i64 l.length),(9,.int .i64 i)]) (fun _=>[(51,.cells 0 [auts l,sliN (evA l),.fsl (l.map emV) l.length 1])]) (fun i=>i<=l.length) (fun i=>l.length-i) 0 0 140 (fun _:Unit=>[(1,.ptr 51 0 0)]) (fun _=>[(51,.cells 0 [auts l,sliN (evA l),.fsl (l.map emV) l.length 1])]) (fun _=>True) ⟨[(51,.blk 64 0)],rfl,au0,?_,au22⟩ (Zah _) ?_ ?_;·exact Zcn rfl rfl gg (Zce c) Zcm
 ·rintro i hi;by_cases d:i<l.length
  ·obtain⟨x,n⟩:=Qap d;have m:=h x (Zaf n);have f:=QdX n;have g:4<=((l.flatMap auC).drop (i*4)).length:=by rw[f];simp
   have hp:¬(x.n:Int)=0:=by have:=m.pos;omega
   simp(disch:=first|omega|exact PairsOK.mk rfl|(simp only[lenW]<;>omega))only[d,f,g,hp,Qac,Qae,Qaf,wW,wV,simprocAttr];refine⟨i+1,by omega,by omega,?_⟩;refine⟨[(51,.blk 51 0)],rfl,au0,?_,au22⟩;exact Zcn rfl rfl gg (Zce c) Zcm
  refine ZcK d ?_;refine⟨(),?_⟩;refine⟨[(51,.blk 51 0)],rfl,au0,?_,au22⟩;exact Zcn rfl rfl gg (Zce c) Zcm
 rintro _ _;refine ZcM (ZcR k j @Qqf @Qac @Qae @Qaf) ?_;refine⟨.inr trivial,_,rfl,?_⟩;refine Rn.tup (Zct ?_ (Zce rfl));have e:sliN (List.replicate l.length 0)=.fsl (ints (List.replicate l.length 0)) l.length 1:=by rw[sliN,QtN,ZbI]
 rw[e];exact Zcv (b:=143) rfl (by simp[ints]) (Zce (Qaa _))
theorem _root_.Go.AM.au23{p:Prop}(h:p:=by repeat'(first|exact Zcm|(refine Zce ?_;first|rfl|(simp only[noRef,noRefs,Qag,Zad,Zac,Zag,Qaa,Qan,Qab,Qam,Qa0,Qad];done))|exact Zcy rfl|exact Zcs|exact(True.intro:RnM _ _ _ [] [])|refine Zct ?_ ?_|(refine Zcd ?_;first|rfl|(simp only[noRef,noRefs,Qag,Zad,Zac,Zag,Qaa,Qan,Qab,Qam,Qa0,Qad];done))|exact Rn.x1 rfl rfl|exact Rn.x2 rfl rfl|exact Rn.x3 rfl rfl|exact Rn.x4 rfl rfl|exact Rn.x5 rfl|exact Rn.x6 rfl|exact Rn.x7 rfl|refine Zco rfl rfl ?_|refine Zcn rfl rfl rfl ?_ ?_|refine Zcp rfl rfl rfl ?_ ?_|refine Zcq rfl rfl ?_ ?_|refine Zcr rfl rfl ?_ ?_)):p:=h
theorem marked99(l:List Aut)(t:List Nat)(h:∀a∈l,WfI a)(w:l.length<=12)(v:t.length=l.length):PSpec Tryz.prog 99 [macV l,sliN t] (.bool (mkdT l t)):=by
 refine Zcf 64 TP.ok99 rfl (by rw[noRefs,QcR,noRefs,Qab];rfl) rfl ?_;have u:=Qa8 l;have r:=QdO l;unfold TP.s99;refine ZcJ ?_;refine Qaq 100 (fun i:Nat=>[(1,sliN t),(8,auts l),(9,.int .i64 l.length),(10,.int .i64 i)]) (fun _=>[]) (fun i=>i<=l.length/\mkdT l t=mkdT (l.drop i) (t.drop i)) (fun i=>l.length-i) 0 0 140 (fun _:Unit=>[]) (fun _=>[]) (fun _=>mkdT l t=true) ⟨[],rfl,au0,au23,au22⟩ ⟨Zah _,rfl⟩ ?_ ?_
 ·rintro i⟨hi,hm⟩;by_cases c:i<l.length
  ·obtain⟨x,n⟩:=Qap c;obtain⟨y,o⟩:=Qap (l:=t) (i:=i) (by omega);have f:=h x (Zaf n);have j:=QdX n;have k:4<=((l.flatMap auC).drop (i*4)).length:=by rw[j];simp
   have g:i<t.length:=by omega
   have d:mkdT (l.drop i) (t.drop i)=(x.ms.contains y&&mkdT (l.drop (i+1)) (t.drop (i+1))):=by obtain⟨h1,q⟩:=Zam.1 n;obtain⟨s,p⟩:=Zam.1 o;rw[List.drop_eq_getElem_cons h1,List.drop_eq_getElem_cons s,q,p];rfl
   have hc:=has189 x.ms y f.wf.ms (by have:=QaS x.n x.ms f.wf.nd f.wf.msn;have:=f.n3;omega);cases m:x.ms.contains y;·rw[m]at hc d;refine ZcK (ZcQ c g j k (QaJ o)) ?_;refine cp hc ?_;refine ZcJ ?_;refine⟨.inr trivial,_,rfl,?_⟩;rw[hm,d];exact Zcd rfl
   rw[m,Zag]at d;rw[m]at hc;refine ZcK (ZcQ c g j k (QaJ o)) ?_;refine cp hc ?_;refine ZcJ ?_;exact⟨i+1,by omega,⟨by omega,by rw[hm,d]⟩,⟨[],rfl,au0,au23,au22⟩⟩
  have e:i=l.length:=by omega
  subst e;refine ZcK c ?_;refine⟨(),by rw[hm,List.drop_eq_nil_of_le (ZaO _)];rfl,?_⟩;exact⟨[],rfl,au0,au23,au22⟩
 rintro _ hm;refine ZcJ ?_;refine⟨.inr trivial,_,rfl,?_⟩;rw[hm];exact Zcd rfl
def stV:Option (List Nat)->AV|some n=>.tup [sliN n,.bool true]|none=>.tup [.nilsl,.bool false]
theorem Qqg(o:Option (List Nat)):noRef (stV o)=true:=by cases o with|none=>rfl|some n=>rw[stV,noRef,noRefs,Qab];rfl
theorem Qme{l:List Aut}{t:List Nat}{e:Nat}{k:Nat}(h:stp l t e k=none):∀m,stp l t e (k+m)=none|0=>h|m+1=>by have:=Qme h m;show stp l t e (k+m+1)=none;unfold stp;rw[this]
theorem QtO{l:List Nat}{i x:Nat}:(ints (nz l)).set i (.int .i64 (x:Int))=ints (nz (l.set i x)):=by simp[ints,nz,List.map_set]
theorem Qsi{l:List Aut}{i:Nat}{x:Aut}(h:l[i]?=some x):((l.map emV).drop i).head?=some (emV x):=by rw[Zb5,ZaJ,h];rfl
theorem step100(l:List Aut)(t:List Nat)(e:Nat)(h:∀a∈l,WfI a)(h0:0<l.length)(hl:l.length<=12)(ht:t.length=l.length):PSpec Tryz.prog 100 [macV l,sliN t,.int .i64 (e:Int)] (stV (stepT l t e)):=by
 refine Zcf 64 TP.ok100 rfl (by rw[noRefs,QcR,noRefs,Qab];rfl) (Qqg _) ?_;have hno:=Qa8 l;have hnm:=QdO l;have hml:(l.map emV).length=l.length:=Zaw ..;have hcl:=clone56 t (by omega);unfold TP.s100;refine ZcJ ?_;refine ch (HSpec.of_O (b:=83) (by rw[noRefs,Qab];rfl) hcl (by repeat(first|exact Fresh.e|exact Fresh.le (by assumption) (by omega)|refine Fresh.set ?_ (by omega) (by omega))) rfl) ?_;refine ZcJ ?_;refine Qaq 120 (fun s:Nat×List Nat=>[(1,sliN t),(2,.int .i64 (e:Int)),(3,.ptr 51 0 0),(8,.sl 60 0 0 t.length 1),(16,auts l),(17,.int .i64 l.length),(18,.int .i64 s.1)]) (fun s=>[(51,.cells 0 [auts l,sliN (evA l),.fsl (l.map emV) l.length 1]),(60,.cells 0 (ints (nz s.2)))]) (fun s=>s.1<=l.length/\s.2.length=t.length/\stp l t e s.1=some s.2) (fun s=>l.length-s.1) (0,t) 0 200 (fun n:List Nat=>[(8,.sl 60 0 0 t.length 1)]) (fun n=>[(60,.cells 0 (ints (nz n)))]) (fun n=>n.length=t.length/\stepT l t e=some n) ?_ ⟨Zah _,rfl,rfl⟩ ?_ ?_;·refine⟨[(51,.blk 64 0),(60,.blk 83 0)],rfl,au0,?_,au22⟩;exact Zcn rfl rfl gg (Zce hnm) (Zcn rfl rfl gg (Zce (Qaa _)) Zcm)
 ·rintro⟨i,n⟩⟨hi,hn,hs⟩;dsimp only at hi hn hs⊢;by_cases hlt:i<l.length
  ·obtain⟨x,hx⟩:=Qap hlt;obtain⟨y,hy⟩:=Qap (l:=t) (i:=i) (by omega);have hyd:t.getD i 0=y:=by rw[Zak,hy];rfl
   have hwi:=h x (Zaf hx);have hdr:=QdX hx;have hdl:4<=((l.flatMap auC).drop (i*4)).length:=by rw[hdr];simp
   have hlt2:i<t.length:=by omega
   have hin:i+1<=n.length:=by omega
   have hc:=has189 x.al e hwi.wf.al (by have:=Qgj hwi.wf;omega);have hstep:stp l t e (i+1)=if e∈x.al then(match stepA x.es y e with|some to=>some (n.set i to)|none=>none)else some n:=by unfold stp;rw[hs,hx,hyd];try rfl
   by_cases hq:e∈x.al
   ·rw[List.contains_iff_mem.2 hq]at hc;rw[if_pos hq]at hstep
    refine ZcK (ZcP hlt hlt2 hdr hdl) ?_;refine cp hc ?_;refine ZcK (ZcQ hlt hlt2 (Qsi hx) (QaJ hy) hml) ?_;cases hst:stepA x.es y e with|none=>
     rw[hst]at hstep;have hk:(y,e)∉x.es.map pE:=fun hm=>by obtain⟨d,hd,e2⟩:=Zaq.1 hm;have h3:=QhL hwi.wf.es hd;unfold pE at e2;simp only[Zaj]at e2;rw[e2.1,e2.2,hst]at h3;cases h3
     have hfin:stepT l t e=none:=by have:=Qme hstep (l.length-(i+1));rwa[show i+1+(l.length-(i+1))=l.length by omega]at this
     refine QkE (c:=kP) (f:=vE x.es) (x:=(y,e)) (l:=x.es.map pE) Qmb hk ?_;refine ZcJ ?_;refine⟨.inr trivial,_,rfl,?_⟩;rw[hfin];exact Zcd rfl|some to=>
     rw[hst]at hstep;have hv:vE x.es (y,e)=.int .i64 (to:Int):=by unfold vE;rw[hst];rfl
     refine Qgm (c:=kP) (f:=vE x.es) (x:=(y,e)) (l:=x.es.map pE) Qmb (Qew hst) ?_;rw[hv];refine ZcM (ZcR hlt2 hin @QtO @Qac @Qae @Qaf) ?_;refine⟨(i+1,n.set i to),by dsimp only;omega,⟨by dsimp only;omega,by rw[List.length_set];exact hn,hstep⟩,?_⟩;refine⟨[(51,.blk 51 0),(60,.blk 60 0)],rfl,au0,?_,au22⟩;exact Zcn rfl rfl gg (Zce hnm) (Zcn rfl rfl gg (Zce (Qaa _)) Zcm)
   ·rw[show x.al.contains e=false by rw[ZaE];exact fun hh=>hq (List.contains_iff_mem.1 hh)]at hc;rw[if_neg hq]at hstep;refine ZcK (ZcP hlt hlt2 hdr hdl) ?_;refine cp hc ?_;refine ZcJ ?_;refine⟨(i+1,n),by dsimp only;omega,⟨by dsimp only;omega,hn,hstep⟩,?_⟩;refine⟨[(51,.blk 51 0),(60,.blk 60 0)],rfl,au0,?_,au22⟩;exact Zcn rfl rfl gg (Zce hnm) (Zcn rfl rfl gg (Zce (Qaa _)) Zcm)
  ·have e2:i=l.length:=by omega
   subst e2;refine ZcK hlt ?_;refine⟨n,⟨hn,hs⟩,?_⟩;refine⟨[(60,.blk 60 0)],rfl,au0,?_,au22⟩;exact Zcn rfl rfl gg (Zce (Qaa _)) Zcm
 rintro n⟨hn,hs⟩;refine ZcJ ?_;refine⟨.inr trivial,_,rfl,?_⟩;rw[hs];refine Rn.tup (Zct ?_ (Zce rfl));rw[<-hn];exact Zcv gg (by simp[ints]) (Zce (Qaa _))
end Go.AM.SO
namespace Go.AM.TK
open Go.Proofs
set_option maxHeartbeats 4000000
noncomputable section
def cf:YA.Cf:={}
noncomputable def ft:FT2:=YA.tre Tryz.prog cf 20 [72,98,154,155,156,188,200,201,232,263]
theorem ft_ok:ft.OK Tryz.prog:=YA.Qf1 _ _ (YA.Qfa (by kernel_rfl))
end
end Go.AM.TK
namespace Go.AM.SO
open Go.Proofs Go.AM.SD
noncomputable section
def keyT(t:List Nat):List UInt8:=t.flatMap fun x=>[UInt8.ofNat (48+x),32]
def keyB(k:Nat)(t:List Nat):Bool:=callR ansB noOrc TK.ft.get (exR ansB noOrc TK.ft.get 1000) (.c .pure) k [sliN t] .e 64 (fun u _ _=>eqAV (.str (keyT t)) u)
theorem QiB{k:Nat}{t:List Nat}(h:keyB k t=true):PSpec Tryz.prog k [sliN t] (.str (keyT t)):=QbL (t:=TK.ft) TK.ft_ok Qda (d:=1000) (eqAV _) (fun u h=>(Qc8 _ _ h).symm) h
def allK(k n:Nat):List Nat->Bool:=@Nat.rec (fun _=>List Nat->Bool) (fun t=>keyB k t) (fun _ a t=>ifB (a (t++[0])) (ifB (a (t++[1])) (a (t++[2])) false) false) n
theorem QeX{k:Nat}:∀{t u:List Nat},allK k t.length u=true->(∀x∈t,x<3)->keyB k (u++t)=true
 |[],u,h,_=>by rw[Zao];exact h|x::t,u,h,a=>by
  have e:allK k (x::t).length u=ifB (allK k t.length (u++[0])) (ifB (allK k t.length (u++[1])) (allK k t.length (u++[2])) false) false:=rfl;rw[e]at h;simp only[QaG]at h;have f:=a x (by simp);have c:allK k t.length (u++[x])=true:=by grind
  have:=QeX c fun y d=>a y (by simp[d]);simp_all
theorem Qsj:allK 98 1 []=true:=by kernel_rfl
theorem Qsk:allK 98 2 []=true:=by kernel_rfl
theorem Qsl:allK 98 3 []=true:=by kernel_rfl
theorem key98{t:List Nat}(d:0<t.length)(c:t.length<=3)(a:∀x∈t,x<3):PSpec Tryz.prog 98 [sliN t] (.str (keyT t)):=by refine QiB (QeX (u:=[]) ?_ a);grind[Qsj,Qsk,Qsl]
theorem Qmf:∀{s t:List Nat},s.length=t.length->(∀x∈s,x<10)->(∀x∈t,x<10)->keyT s=keyT t->s=t
 |[],[],_,_,_,_=>rfl|x::s,y::t,f,c,d,h=>by
  have i:keyT (x::s)=UInt8.ofNat (48+x)::32::keyT s:=rfl;have g:keyT (y::t)=UInt8.ofNat (48+y)::32::keyT t:=rfl;rw[i,g]at h;simp only[List.cons.injEq,true_and]at h;have k:=c x (by simp);have j:=d y (by simp);have h1:x=y:=by have:=congrArg UInt8.toNat h.1;grind[UInt8.toNat_ofNat']
  subst h1;rw[Qmf (by simpa using f) (fun z a=>c z (by simp[a])) (fun z a=>d z (by simp[a])) h.2]
end
end Go.AM.SO
namespace Go.AM.SO
open Go.Proofs Go.AM.SD Go.AM.SE
abbrev ixT(T:List (List Nat))(n:List Nat):Nat:=T.findIdx (·==n)
theorem QgB{A B:List (List Nat)}{n:List Nat}(h:A<+:B)(a:n∈A):ixT A n=ixT B n:=by obtain⟨C,rfl⟩:=h;grind
theorem Qi7{A:List (List Nat)}{n:List Nat}(a:n∉A):ixT A n=A.length:=by grind
theorem Qsm{A:List (List Nat)}{n:List Nat}(a:n∉A):ixT A n=ixT (A++[n]) n:=by grind
theorem QnP{A:List (List Nat)}{n:List Nat}(a:n∈A):A[ixT A n]?=some n:=by grind
theorem QiC{A:List (List Nat)}{n:List Nat}(a:n∈A):ixT A n<A.length:=Zbj ⟨n,a,by simp⟩
theorem Qqh{A:List (List Nat)}{n:List Nat}{i:Nat}(a:A.Nodup)(h:A[i]?=some n):ixT A n=i:=by grind[QnP,List.getElem?_inj]
def rowE(l:List Aut)(ev:List Nat)(T:List (List Nat))(j:Nat)(t:List Nat):List Ed:=ev.filterMap fun e=>(stepT l t e).map fun n=>(j,e,ixT T n)
theorem Qoy{l:List Aut}{ev:List Nat}{A B:List (List Nat)}{j:Nat}{t:List Nat}(h:A<+:B)(hc:∀e∈ev,∀n,stepT l t e=some n->n∈A):rowE l ev A j t=rowE l ev B j t:=by unfold rowE;refine a fun e he=>?_;cases c:stepT l t e with|none=>rfl|some n=>simp only[Zbv,QgB h (hc e he n c)]where a{α β:Type}{f g:α->Option β}:∀{l:List α},(∀x∈l,f x=g x)->l.filterMap f=l.filterMap g|[],_=>rfl|x::l,h=>by rw[ZbB,ZbB,h x (by simp),a (l:=l) fun y d=>h y (by simp[d])]
theorem Qkk{l:List Aut}{i:Nat}{t:List Nat}:∀{ev:List Nat}{s:List (List Nat)×List Ed},(pRow l ev i t s).2=s.2++rowE l ev (pRow l ev i t s).1 i t/\∀e∈ev,∀n,stepT l t e=some n->n∈(pRow l ev i t s).1|[],s=>by simp_all[pRow,rowE]|e::ev,s=>by have j:=Qkk (l:=l) (i:=i) (t:=t) (ev:=ev) (s:=pEv l i t s e);have hp:=QcE (l:=l) (i:=i) (t:=t) (ev:=ev) (s:=pEv l i t s e);have h1:pRow l (e::ev) i t s=pRow l ev i t (pEv l i t s e):=rfl;rw[h1];obtain⟨f,i2⟩:=j;cases p:stepT l t e with
 |none=>
  have c:pEv l i t s e=s:=by grind[pEv]
  rw[c]at f i2 hp⊢;refine⟨?_,fun h d n k=>?_⟩;·simp_all[rowE]
  grind|some n=>
  have c:pEv l i t s e=(if n∈s.1 then s.1 else s.1++[n],s.2++[(i,e,ixT s.1 n)]):=by grind[pEv]
  rw[c]at f i2 hp⊢;have a:n∈(if n∈s.1 then s.1 else s.1++[n]):=by grind
  have m:ixT s.1 n=ixT (if n∈s.1 then s.1 else s.1++[n]) n:=by grind
  have g:=QgB hp a;refine⟨?_,fun h d o k=>?_⟩;·generalize pRow l ev i t (if n∈s.1 then s.1 else s.1++[n],s.2++[(i,e,ixT s.1 n)])=R at*;simp_all[rowE]
  grind
structure PE(l:List Aut)(ev:List Nat)(i:Nat)(s:List (List Nat)×List Ed):Prop where
 ed:s.2=(List.range i).flatMap fun j=>rowE l ev s.1 j (s.1.getD j [])cl:∀j t,j<i->s.1[j]?=some t->∀e∈ev,∀n,stepT l t e=some n->n∈s.1
 le:i<=s.1.length
theorem QhM{A B:List (List Nat)}(h:A<+:B){j:Nat}(a:j<A.length):B.getD j []=A.getD j []:=by obtain⟨C,rfl⟩:=h;grind
theorem QgC{A B:List (List Nat)}(h:A<+:B){j:Nat}(a:j<A.length):B[j]?=A[j]?:=by obtain⟨C,rfl⟩:=h;grind
theorem flatMap_congr'{α β:Type}{f g:α->List β}:∀{l:List α},(∀x∈l,f x=g x)->l.flatMap f=l.flatMap g|[],_=>rfl|x::l,h=>by rw[Zav,Zav,h x (by simp),flatMap_congr' (l:=l) fun y a=>h y (by simp[a])]
theorem PE.row{l:List Aut}{ev:List Nat}{i:Nat}{s:List (List Nat)×List Ed}{t:List Nat}(h:PE l ev i s)(g:s.1[i]?=some t):PE l ev (i+1) (pRow l ev i t s):=by
 have hp:=QcE (l:=l) (i:=i) (t:=t) (ev:=ev) (s:=s);obtain⟨h1,k⟩:=Qkk (l:=l) (i:=i) (t:=t) (ev:=ev) (s:=s);have hi:i<s.1.length:=by grind
 refine⟨?_,fun j u a hu e he n c=>?_,Zax hi hp.length_le⟩
 ·rw[h1,ZaH,Zan,Zav,Zb4,Zao];have f:(pRow l ev i t s).1.getD i []=t:=by rw[QhM hp hi,Zak,g];rfl
  rw[f];congr 1;rw[h.ed];refine flatMap_congr' fun j a=>?_;have d:=Zau.1 a;obtain⟨u,hu⟩:=Qap (l:=s.1) (i:=j) (by omega);rw[QhM hp (by omega)];refine Qoy hp fun e he n c=>?_;rw[Zak,hu]at c;exact h.cl j u d hu e he n c
 rcases Nat.lt_succ_iff_lt_or_eq.1 a with a|rfl;·rw[QgC hp (by omega)]at hu;exact hp.subset (h.cl j u a hu e he n c)
 grind[QgC]
theorem QnQ{l:List Aut}{ev:List Nat}(hw:∀a∈l,∀e∈a.es,e.1<a.n/\e.2.2<a.n):∀{k i:Nat}{s:List (List Nat)×List Ed},PI l s->box l<k+i->PE l ev i s->PE l ev (pQ l ev k i s).1.length (pQ l ev k i s)|0,i,s,h,hk,he=>by have h1:=Qc0 h.nd h.inT;have d:=he.le;omega|k+1,i,s,h,hk,he=>by unfold pQ;cases c:s.1[i]? with
 |none=>
  have d:=he.le;have:i=s.1.length:=by grind
  rwa[this]at he|some t=>exact QnQ hw (QdW hw (h.inT t (Zaf c)) h) (by omega) (he.row c)
theorem Qkl{l:List Aut}(d:∀a∈l,0<a.n)(hw:∀a∈l,∀e∈a.es,e.1<a.n/\e.2.2<a.n):PE l (evA l) (sync0 l).1.length (sync0 l):=QnQ hw (Qfx d) (by omega) ⟨rfl,fun j t c=>absurd c (ZaD _),Zah _⟩
theorem sync_pre{l:List Aut}:[List.replicate l.length 0]<+:(sync0 l).1:=Qqe (s:=([List.replicate l.length 0],[]))
end Go.AM.SO
namespace Go.AM.SO
open Go.Proofs Go.AM.SD Go.AM.SE
def keyC(t:List Nat):AV:=.str (keyT t)
def ixV(T:List (List Nat))(t:List Nat):AV:=.int .i64 ((ixT T t:Nat):Int)
abbrev tuV(T:List (List Nat)):AV:=.fsl (T.map sliN) T.length 1
theorem QbH(T:List (List Nat)):noRef (tuV T)=true:=by rw[tuV,noRef];exact Qav Qab _
theorem InT.lt{l:List Aut}(h:∀a∈l,WfI a){t:List Nat}(f:InT l t){x:Nat}(g:x∈t):x<3:=by obtain⟨i,hi,c⟩:=Qcy g;obtain⟨a,d⟩:=Qap (l:=l) (i:=i) (by rw[<-f.1];exact c);have h1:=f.2 i a d;rw[Zak,hi]at h1;have j:=(h a (Zaf d)).n3;simp only[Option.getD_some]at h1;omega
theorem Qgo{l:List Aut}(h:∀a∈l,WfI a){x:List Nat}{T:List (List Nat)}(g:InT l x)(i:∀t∈T,InT l t):KeyG false [.s] keyC x T:=by
 have key:∀y,InT l y->keyEq false [.s] (keyC x) (keyC y)=some (decide (x=y)):=by
  intro y c;have e:keyEq false [.s] (keyC x) (keyC y)=some (decide (keyT x=keyT y)):=Qgd;rw[e];congr 1;refine decide_eq_decide.2 ⟨fun d=>Qmf (by rw[g.1,c.1]) (fun z f=>?_) (fun z f=>?_) d,fun d=>by rw[d]⟩;·have:=g.lt h f;omega
  have:=c.lt h f;omega
 refine⟨?_,fun y c=>key y (i y c)⟩;unfold keyOK;rw[key x g]
theorem QnR{T:List (List Nat)}{n:List Nat}(c:n∉T):mapG keyC (updG (ixV T) n (.int .i64 ((T.length:Nat):Int))) (T++[n])=mapG keyC (ixV (T++[n])) (T++[n]):=by
 refine Qix fun x a=>?_;unfold updG;split;·rename_i e;subst e;unfold ixV;rw[<-Qsm c,Qi7 c]
 rename_i e;unfold ixV;rw[QgB (List.prefix_append T [n]) (by
  rcases ZaI.1 a with a|a;·exact a
  simp at a;exact absurd a e)]
def marks(l:List Aut)(T:List (List Nat))(i:Nat):List Nat:=(List.range i).filter fun j=>mkdT l (T.getD j [])
theorem Qoz{l:List Aut}{T:List (List Nat)}{i:Nat}{t:List Nat}(a:T[i]?=some t):marks l T (i+1)=if mkdT l t=true then marks l T i++[i]else marks l T i:=by
 have e:T.getD i []=t:=by rw[Zak,a];rfl
 unfold marks;rw[ZaH,Zbn];by_cases hm:mkdT l t=true;·rw[if_pos hm,List.filter_cons_of_pos (by rw[e];exact hm),List.filter_nil]
 rw[if_neg hm,List.filter_cons_of_neg (by rw[e];exact hm),List.filter_nil,Zao]
theorem Qkm{l:List Aut}{A B:List (List Nat)}(h:A<+:B){i:Nat}(hi:i<=A.length):marks l B i=marks l A i:=by unfold marks;refine ZbM fun j a=>?_;rw[QhM h (by have:=Zau.1 a;omega)]
theorem Qkn{l:List Aut}{T:List (List Nat)}{i:Nat}:(marks l T i).length<=i:=by have:=Za4 (fun j=>mkdT l (T.getD j [])) (List.range i);rwa[Zbt]at this
theorem Qsn{l:List Aut}{i e:Nat}{t:List Nat}{s:List (List Nat)×List Ed}:(pEv l i t s e).2.length<=s.2.length+1:=by unfold pEv;cases stepT l t e with|none=>exact Nat.le_succ _|some n=>simp
theorem Qem{l:List Aut}{i:Nat}{t:List Nat}:∀{ev:List Nat}{s:List (List Nat)×List Ed},(pRow l ev i t s).2.length<=s.2.length+ev.length|[],s=>ZaO _|e::ev,s=>by have h1:=Qem (l:=l) (i:=i) (t:=t) (ev:=ev) (s:=pEv l i t s e);have a:=@Qsn l i e t s;show(pRow l ev i t (pEv l i t s e)).2.length<=_;rw[ZaF];omega
theorem Qko{l:List Aut}{ev:List Nat}{i j e:Nat}{t:List Nat}{s:List (List Nat)×List Ed}(h:ev[j]?=some e):pRow l (ev.take (j+1)) i t s=pEv l i t (pRow l (ev.take j) i t s) e:=by unfold pRow;rw[take_succ' h,ZaZ];rfl
theorem Qen{T:List (List Nat)}{i:Nat}{t:List Nat}(h:T[i]?=some t):(T.map sliN)[i]?=some (sliN t):=by rw[ZaJ,h];rfl
theorem Qso{l:List Aut}{ev:List Nat}{k i:Nat}{s:List (List Nat)×List Ed}(h:s.1[i]?=none):pQ l ev k i s=s:=by cases k with|zero=>rfl|succ k=>unfold pQ;rw[h]
theorem sync28(l:List Aut)(h:∀a∈l,WfI a)(Z:0<l.length)(hl:l.length<=5)(E:∀t,InT l t->PSpec Tryz.prog 98 [sliN t] (.str (keyT t))):PSpec Tryz.prog 28 [auts l] (.tup [aV (syncA l),tuV (sync0 l).1,.int .i64 0]):=by
 have hno:=Qa8 l;have d:=QdO l;have R:noRef (.tup [aV (syncA l),tuV (sync0 l).1,.int .i64 0])=true:=by rw[noRef,noRefs,noRefs,QbH,noRef,noRefs,noRefs,noRefs,noRefs,Qab,Qab,Qam];rfl
 refine Zcf 64 TP.ok28 rfl (by rw[noRefs,hno];rfl) R ?_;have hw:∀a∈l,∀e∈a.es,e.1<a.n/\e.2.2<a.n:=fun a X=>(h a X).wf.esn;have T:∀a∈l,0<a.n:=fun a X=>(h a X).pos;have hbox:box l<=243:=Zax (Qqd (fun a X=>(h a X).n3) (by omega)) (Nat.pow_le_pow_right (n:=3) (by omega) hl);have hc:=check95 l h (by omega);have ho:=open96 l h (by omega);have hi:=initial97 l h Z (by omega);have L:=Qfx (l:=l) T;have M:InT l (List.replicate l.length 0):=L.inT _ (by simp);have hk0:=E _ M;have hev5:=Qi6 h;have hml:(l.map emV).length=l.length:=Zaw ..;unfold TP.s28;refine ZcJ ?_;refine cp hc ?_;refine ZcJ ?_;refine cp ho ?_;refine ZcJ ?_;refine cp hi ?_;refine ZcJ ?_;refine cp hk0 ?_;refine ZcJ ?_;refine Qcp (c:=keyC) (f:=fun _=>.nilsl) (x:=List.replicate l.length 0) (l:=[]) (g:=0) gg (Qgo h M fun t J=>by cases J) (by simp) (by omega) ?_;have hm0:mapG keyC (updG (fun _=>.nilsl) (List.replicate l.length 0) (.int .i64 0)) ([]++[List.replicate l.length 0])=mapG keyC (ixV [List.replicate l.length 0]) [List.replicate l.length 0]:=by
  refine Qix fun x hx=>?_;have hx:x=List.replicate l.length 0:=by simpa using hx
  subst hx;unfold updG ixV;rw[if_pos rfl];simp[ixT]
 rw[hm0];refine ZcJ ?_;refine Qaq 320 (fun q:Nat×(List (List Nat)×List Ed)=>[(2,.ptr 51 0 0),(6,.ptr 52 0 0),(3,.sl 60 0 0 q.2.1.length 1),(9,.map 53 0),(10,.int .i64 (q.1))]) (fun q=>[(51,.cells 0 [sliN (evA l),.int .i64 0,.sl 70 0 0 (marks l q.2.1 q.1).length 1,.sl 71 0 0 q.2.2.length 3]),(52,.cells 0 [auts l,sliN (evA l),.fsl (l.map emV) l.length 1]),(53,.map 0 (mapG keyC (ixV q.2.1) q.2.1)),(60,.cells 0 (q.2.1.map sliN)),(70,.cells 0 (ints (nz (marks l q.2.1 q.1)))),(71,.cells 0 (q.2.2.flatMap edC))]) (fun q=>q.1<=q.2.1.length/\PI l q.2/\q.2.2.length<=q.1*5/\pQ l (evA l) (box l+1-q.1) q.1 q.2=sync0 l) (fun q=>box l+1-q.1) (0,([List.replicate l.length 0],[])) 0 900 (fun _:Unit=>[(2,.ptr 51 0 0),(3,tuV (sync0 l).1)]) (fun _=>[(51,.cells 0 [sliN (evA l),.int .i64 0,sliN (marks l (sync0 l).1 (sync0 l).1.length),egsN (sync0 l).2])]) (fun _=>True) ?_ ⟨Zah _,L,Zah _,rfl⟩ ?_ ?_;·refine⟨[(51,.blk 64 0),(52,.blk 74 0),(53,.blk 92 0),(60,.blk 90 0),(70,.nil),(71,.nil)],rfl,au0,?_,au22⟩;exact Zcn rfl rfl gg (Zct (Zcd (Qab _)) (Zct (Zcd rfl) (Zct (Rn.x4 rfl rfl) (Zct (Rn.x4 rfl rfl) Zcs)))) (Zcn rfl rfl gg (Zce d) (Zcp rfl rfl gg (ZcC fun _ _=>⟨rfl,rfl⟩) (Zcn rfl rfl gg (RnL.eq (by simp) (Qav Qab _)) (Zco rfl rfl (Zco rfl rfl Zcm)))))
 ·rintro⟨i,s⟩⟨hi,hp,hel,hq⟩;dsimp only at hi hp hel hq⊢;have hsb:=Qc0 hp.nd hp.inT;have hsml:(s.1.map sliN).length=s.1.length:=Zaw ..;by_cases f:i<s.1.length
  ·obtain⟨t,J⟩:=Qap f;have p:=hp.inT t (Zaf J);have K:=marked99 l t h (by omega) p.1;have y:=Qoz (l:=l) J;have hml5:=@Qkn l s.1 i;have I:=QcE (l:=l) (i:=i) (t:=t) (ev:=evA l) (s:=s);have Q:=QdW (i:=i) (ev:=evA l) hw p hp;have hpn:=Qem (l:=l) (i:=i) (t:=t) (ev:=evA l) (s:=s);have S:pQ l (evA l) (box l+1-(i+1)) (i+1) (pRow l (evA l) i t s)=sync0 l:=by rw[<-hq,show box l+1-i=(box l+1-(i+1))+1 by omega];simp only[pQ,J]
   cases V:mkdT l t
   ·rw[V]at K y;rw[if_neg (by simp)]at y;refine ZcK (ZcN f (Qen J)) ?_;refine cp K ?_;refine ZcJ ?_;have O:marks l s.1 (i+1)=marks l s.1 i:=y;refine Qaq 420 (fun j:Nat=>[(2,.ptr 51 0 0),(6,.ptr 52 0 0),(3,.sl 60 0 0 (pRow l ((evA l).take j) i t s).1.length 1),(9,.map 53 0),(10,.int .i64 (i)),(61,sliN (evA l)),(62,.int .i64 (evA l).length),(63,.int .i64 j)]) (fun j=>[(51,.cells 0 [sliN (evA l),.int .i64 0,.sl 70 0 0 (marks l s.1 (i+1)).length 1,.sl 71 0 0 (pRow l ((evA l).take j) i t s).2.length 3]),(52,.cells 0 [auts l,sliN (evA l),.fsl (l.map emV) l.length 1]),(53,.map 0 (mapG keyC (ixV (pRow l ((evA l).take j) i t s).1) (pRow l ((evA l).take j) i t s).1)),(60,.cells 0 ((pRow l ((evA l).take j) i t s).1.map sliN)),(70,.cells 0 (ints (nz (marks l s.1 (i+1))))),(71,.cells 0 ((pRow l ((evA l).take j) i t s).2.flatMap edC))]) (fun j=>j<=(evA l).length) (fun j=>(evA l).length-j) 0 2 700 (fun _:Unit=>[(2,.ptr 51 0 0),(6,.ptr 52 0 0),(3,.sl 60 0 0 (pRow l (evA l) i t s).1.length 1),(9,.map 53 0),(10,.int .i64 (i))]) (fun _=>[(51,.cells 0 [sliN (evA l),.int .i64 0,.sl 70 0 0 (marks l s.1 (i+1)).length 1,.sl 71 0 0 (pRow l (evA l) i t s).2.length 3]),(52,.cells 0 [auts l,sliN (evA l),.fsl (l.map emV) l.length 1]),(53,.map 0 (mapG keyC (ixV (pRow l (evA l) i t s).1) (pRow l (evA l) i t s).1)),(60,.cells 0 ((pRow l (evA l) i t s).1.map sliN)),(70,.cells 0 (ints (nz (marks l s.1 (i+1))))),(71,.cells 0 ((pRow l (evA l) i t s).2.flatMap edC))]) (fun _=>True) ?_ (Zah _) ?_ ?_;·show Rec _ _ [(51,.cells 0 [sliN (evA l),.int .i64 0,.sl 70 0 0 (marks l s.1 (i+1)).length 1,.sl 71 0 0 s.2.length 3]),(52,.cells 0 [auts l,sliN (evA l),.fsl (l.map emV) l.length 1]),(53,.map 0 (mapG keyC (ixV s.1) s.1)),(60,.cells 0 (s.1.map sliN)),(70,.cells 0 (ints (nz (marks l s.1 (i+1))))),(71,.cells 0 (s.2.flatMap edC))] _ _;rw[O];refine⟨[(51,.blk 51 0),(52,.blk 52 0),(53,.blk 53 0),(60,.blk 60 0),(70,.blk 70 0),(71,.blk 71 0)],rfl,au0,?_,au22⟩;exact Zcn rfl rfl gg (Zct (Zcd (Qab _)) (Zct (Zcd rfl) (Zct (Rn.x1 rfl rfl) (Zct (Rn.x1 rfl rfl) Zcs)))) (Zcn rfl rfl gg (Zce d) (Zcp rfl rfl gg (ZcC fun _ _=>⟨rfl,rfl⟩) (Zcn rfl rfl gg (Zce (Qav Qab _)) (Zcn rfl rfl gg (Zce (Qaa _)) (Zcn rfl rfl gg (Zce (Qad _)) Zcm)))))
    ·rintro j hj;by_cases k:j<(evA l).length
     ·obtain⟨e,he⟩:=Qap k;have r:=QdW (i:=i) (ev:=(evA l).take j) hw p hp;have H:=QcE (l:=l) (i:=i) (t:=t) (ev:=(evA l).take j) (s:=s);have P:=Qem (l:=l) (i:=i) (t:=t) (ev:=(evA l).take j) (s:=s);have c:=Qko (l:=l) (i:=i) (t:=t) (s:=s) he;rw[Zas]at P;generalize pRow l ((evA l).take j) i t s=u at*;have z:i<u.1.length:=ZaX f H.length_le;have A:u.1[i]?=some t:=by rw[QgC H f];exact J
      have hub:=Qc0 r.nd r.inT;have C:(u.1.map sliN).length=u.1.length:=Zaw ..;have o:(u.2.flatMap edC).length=u.2.length*3:=Qbd (k:=3) (fun _=>rfl) u.2;have m:=step100 l t e h Z (by omega) p.1;cases w:stepT l t e with|none=>
       rw[w]at m;have g:pEv l i t u e=u:=by unfold pEv;rw[w]
       rw[g]at c;refine ZcK (ZcP k z (QaJ he) (Qen A)) ?_;refine cp m ?_;simp(disch:=first|omega|exact PairsOK.mk rfl|(simp only[lenW]<;>omega))only[stV,Qac,Qae,Qaf,wW,wV,simprocAttr];refine⟨j+1,by omega,by omega,?_⟩;rw[c];refine⟨[(51,.blk 51 0),(52,.blk 52 0),(53,.blk 53 0),(60,.blk 60 0),(70,.blk 70 0),(71,.blk 71 0)],rfl,au0,?_,au22⟩;exact Zcn rfl rfl gg (Zct (Zcd (Qab _)) (Zct (Zcd rfl) (Zct (Rn.x1 rfl rfl) (Zct (Rn.x1 rfl rfl) Zcs)))) (Zcn rfl rfl gg (Zce d) (Zcp rfl rfl gg (ZcC fun _ _=>⟨rfl,rfl⟩) (Zcn rfl rfl gg (Zce (Qav Qab _)) (Zcn rfl rfl gg (Zce (Qaa _)) (Zcn rfl rfl gg (Zce (Qad _)) Zcm)))))|some n=>
       rw[w]at m;have F:=Qfw hw p w;have G:=E n F;have v:=Qgo h F r.inT;refine ZcK (ZcP k z (QaJ he) (Qen A)) ?_;refine cp m ?_;simp(disch:=first|omega|exact PairsOK.mk rfl|(simp only[lenW]<;>omega))only[stV,Qac,Qae,Qaf,wW,wV,simprocAttr];refine cp G ?_;refine ZcJ ?_;by_cases hm:n∈u.1
       ·have g:pEv l i t u e=(u.1,u.2++[(i,e,ixT u.1 n)]):=by unfold pEv;rw[w];simp only[if_pos hm]
        rw[g]at c;refine Qhd (c:=keyC) (f:=ixV u.1) (x:=n) (l:=u.1) (g:=0) gg v hm ?_;simp(disch:=first|omega|exact PairsOK.mk rfl|(simp only[lenW]<;>omega))only[ixV,o,Qac,Qae,Qaf,wW,wV,simprocAttr];refine⟨j+1,by omega,by omega,?_⟩;rw[c,Zae,Zan];refine⟨[(51,.blk 51 0),(52,.blk 52 0),(53,.blk 53 0),(60,.blk 60 0),(70,.blk 70 0),(71,.blk 71 1)],rfl,au0,?_,au22⟩;exact Zcn rfl rfl gg (Zct (Zcd (Qab _)) (Zct (Zcd rfl) (Zct (Rn.x1 rfl rfl) (Zct (Rn.x1 rfl rfl) Zcs)))) (Zcn rfl rfl gg (Zce d) (Zcp rfl rfl gg (ZcC fun _ _=>⟨rfl,rfl⟩) (Zcn rfl rfl gg (Zce (Qav Qab _)) (Zcn rfl rfl gg (Zce (Qaa _)) (Zcn rfl rfl gg (Zce (SU.Qax (Qad _) rfl)) Zcm)))))
       have g:pEv l i t u e=(u.1++[n],u.2++[(i,e,u.1.length)]):=by unfold pEv;rw[w];simp only[if_neg hm];rw[show u.1.findIdx (·==n)=u.1.length from Qi7 hm]
       rw[g]at c;have B:¬((u.1.length:Nat):Int)=4096:=by omega
       have N:=QnR hm;refine Qgl (c:=keyC) (f:=ixV u.1) (x:=n) (l:=u.1) (g:=0) gg v hm ?_;refine ZcK B ?_;refine cp G ?_;refine ZcJ ?_;refine Qcp (c:=keyC) (f:=ixV u.1) (x:=n) (l:=u.1) (g:=0) gg v hm (by omega) ?_;rw[N];refine ZcM (ZcR C o @Qab @Qac @Qae @Qaf) ?_;refine⟨j+1,by omega,by omega,?_⟩;rw[c,Zae,Zae,Zan,ZaL];refine⟨[(51,.blk 51 0),(52,.blk 52 0),(53,.blk 53 0),(60,.blk 60 1),(70,.blk 70 0),(71,.blk 71 1)],rfl,au0,?_,au22⟩;exact Zcn rfl rfl gg (Zct (Zcd (Qab _)) (Zct (Zcd rfl) (Zct (Rn.x1 rfl rfl) (Zct (Rn.x1 rfl rfl) Zcs)))) (Zcn rfl rfl gg (Zce d) (Zcp rfl rfl gg (ZcC fun _ _=>⟨rfl,rfl⟩) (Zcn rfl rfl gg (Zce (SU.Qax (Qav Qab _) (Qav Qab [n]))) (Zcn rfl rfl gg (Zce (Qaa _)) (Zcn rfl rfl gg (Zce (SU.Qax (Qad _) rfl)) Zcm)))))
     have Y:j=(evA l).length:=by omega
     subst Y;refine ZcI k ?_;refine⟨(),?_⟩;refine⟨[(51,.blk 51 0),(52,.blk 52 0),(53,.blk 53 0),(60,.blk 60 0),(70,.blk 70 0),(71,.blk 71 0)],rfl,au0,?_,au22⟩;exact Zcn rfl rfl gg (Zct (Zcd (Qab _)) (Zct (Zcd rfl) (Zct (Rn.x1 rfl rfl) (Zct (Rn.x1 rfl rfl) Zcs)))) (Zcn rfl rfl gg (Zce d) (Zcp rfl rfl gg (ZcC fun _ _=>⟨rfl,rfl⟩) (Zcn rfl rfl gg (Zce (Qav Qab _)) (Zcn rfl rfl gg (Zce (Qaa _)) (Zcn rfl rfl gg (Zce (Qad _)) Zcm)))))
    rintro _ _;refine ZcJ ?_;refine⟨(i+1,pRow l (evA l) i t s),by dsimp only;omega,⟨Zax f I.length_le,Q,by dsimp only;omega,S⟩,?_⟩;dsimp only;rw[Qkm I f];refine⟨[(51,.blk 51 0),(52,.blk 52 0),(53,.blk 53 0),(60,.blk 60 0),(70,.blk 70 0),(71,.blk 71 0)],rfl,au0,?_,au22⟩;exact Zcn rfl rfl gg (Zct (Zcd (Qab _)) (Zct (Zcd rfl) (Zct (Rn.x1 rfl rfl) (Zct (Rn.x1 rfl rfl) Zcs)))) (Zcn rfl rfl gg (Zce d) (Zcp rfl rfl gg (ZcC fun _ _=>⟨rfl,rfl⟩) (Zcn rfl rfl gg (Zce (Qav Qab _)) (Zcn rfl rfl gg (Zce (Qaa _)) (Zcn rfl rfl gg (Zce (Qad _)) Zcm)))))
   rw[V]at K y;rw[if_pos rfl]at y;refine ZcK (ZcN f (Qen J)) ?_;refine cp K ?_;refine ZcJ ?_;have O:marks l s.1 (i+1)=marks l s.1 i++[i]:=y;refine Qaq 420 (fun j:Nat=>[(2,.ptr 51 0 0),(6,.ptr 52 0 0),(3,.sl 60 0 0 (pRow l ((evA l).take j) i t s).1.length 1),(9,.map 53 0),(10,.int .i64 (i)),(61,sliN (evA l)),(62,.int .i64 (evA l).length),(63,.int .i64 j)]) (fun j=>[(51,.cells 0 [sliN (evA l),.int .i64 0,.sl 70 0 0 (marks l s.1 (i+1)).length 1,.sl 71 0 0 (pRow l ((evA l).take j) i t s).2.length 3]),(52,.cells 0 [auts l,sliN (evA l),.fsl (l.map emV) l.length 1]),(53,.map 0 (mapG keyC (ixV (pRow l ((evA l).take j) i t s).1) (pRow l ((evA l).take j) i t s).1)),(60,.cells 0 ((pRow l ((evA l).take j) i t s).1.map sliN)),(70,.cells 0 (ints (nz (marks l s.1 (i+1))))),(71,.cells 0 ((pRow l ((evA l).take j) i t s).2.flatMap edC))]) (fun j=>j<=(evA l).length) (fun j=>(evA l).length-j) 0 2 700 (fun _:Unit=>[(2,.ptr 51 0 0),(6,.ptr 52 0 0),(3,.sl 60 0 0 (pRow l (evA l) i t s).1.length 1),(9,.map 53 0),(10,.int .i64 (i))]) (fun _=>[(51,.cells 0 [sliN (evA l),.int .i64 0,.sl 70 0 0 (marks l s.1 (i+1)).length 1,.sl 71 0 0 (pRow l (evA l) i t s).2.length 3]),(52,.cells 0 [auts l,sliN (evA l),.fsl (l.map emV) l.length 1]),(53,.map 0 (mapG keyC (ixV (pRow l (evA l) i t s).1) (pRow l (evA l) i t s).1)),(60,.cells 0 ((pRow l (evA l) i t s).1.map sliN)),(70,.cells 0 (ints (nz (marks l s.1 (i+1))))),(71,.cells 0 ((pRow l (evA l) i t s).2.flatMap edC))]) (fun _=>True) ?_ (Zah _) ?_ ?_;·show Rec _ _ [(51,.cells 0 [sliN (evA l),.int .i64 0,.sl 70 0 0 (marks l s.1 (i+1)).length 1,.sl 71 0 0 s.2.length 3]),(52,.cells 0 [auts l,sliN (evA l),.fsl (l.map emV) l.length 1]),(53,.map 0 (mapG keyC (ixV s.1) s.1)),(60,.cells 0 (s.1.map sliN)),(70,.cells 0 (ints (nz (marks l s.1 (i+1))))),(71,.cells 0 (s.2.flatMap edC))] _ _;rw[O,Zae,QaF,Qaw];refine⟨[(51,.blk 51 0),(52,.blk 52 0),(53,.blk 53 0),(60,.blk 60 0),(70,.blk 70 1),(71,.blk 71 0)],rfl,au0,?_,au22⟩;exact Zcn rfl rfl gg (Zct (Zcd (Qab _)) (Zct (Zcd rfl) (Zct (Rn.x1 rfl rfl) (Zct (Rn.x1 rfl rfl) Zcs)))) (Zcn rfl rfl gg (Zce d) (Zcp rfl rfl gg (ZcC fun _ _=>⟨rfl,rfl⟩) (Zcn rfl rfl gg (Zce (Qav Qab _)) (Zcn rfl rfl gg (Zce (SU.Qax (Qaa _) rfl)) (Zcn rfl rfl gg (Zce (Qad _)) Zcm)))))
   ·rintro j hj;by_cases k:j<(evA l).length
    ·obtain⟨e,he⟩:=Qap k;have r:=QdW (i:=i) (ev:=(evA l).take j) hw p hp;have H:=QcE (l:=l) (i:=i) (t:=t) (ev:=(evA l).take j) (s:=s);have P:=Qem (l:=l) (i:=i) (t:=t) (ev:=(evA l).take j) (s:=s);have c:=Qko (l:=l) (i:=i) (t:=t) (s:=s) he;rw[Zas]at P;generalize pRow l ((evA l).take j) i t s=u at*;have z:i<u.1.length:=ZaX f H.length_le;have A:u.1[i]?=some t:=by rw[QgC H f];exact J
     have hub:=Qc0 r.nd r.inT;have C:(u.1.map sliN).length=u.1.length:=Zaw ..;have o:(u.2.flatMap edC).length=u.2.length*3:=Qbd (k:=3) (fun _=>rfl) u.2;have m:=step100 l t e h Z (by omega) p.1;cases w:stepT l t e with|none=>
      rw[w]at m;have g:pEv l i t u e=u:=by unfold pEv;rw[w]
      rw[g]at c;refine ZcK (ZcP k z (QaJ he) (Qen A)) ?_;refine cp m ?_;simp(disch:=first|omega|exact PairsOK.mk rfl|(simp only[lenW]<;>omega))only[stV,Qac,Qae,Qaf,wW,wV,simprocAttr];refine⟨j+1,by omega,by omega,?_⟩;rw[c];refine⟨[(51,.blk 51 0),(52,.blk 52 0),(53,.blk 53 0),(60,.blk 60 0),(70,.blk 70 0),(71,.blk 71 0)],rfl,au0,?_,au22⟩;exact Zcn rfl rfl gg (Zct (Zcd (Qab _)) (Zct (Zcd rfl) (Zct (Rn.x1 rfl rfl) (Zct (Rn.x1 rfl rfl) Zcs)))) (Zcn rfl rfl gg (Zce d) (Zcp rfl rfl gg (ZcC fun _ _=>⟨rfl,rfl⟩) (Zcn rfl rfl gg (Zce (Qav Qab _)) (Zcn rfl rfl gg (Zce (Qaa _)) (Zcn rfl rfl gg (Zce (Qad _)) Zcm)))))|some n=>
      rw[w]at m;have F:=Qfw hw p w;have G:=E n F;have v:=Qgo h F r.inT;refine ZcK (ZcP k z (QaJ he) (Qen A)) ?_;refine cp m ?_;simp(disch:=first|omega|exact PairsOK.mk rfl|(simp only[lenW]<;>omega))only[stV,Qac,Qae,Qaf,wW,wV,simprocAttr];refine cp G ?_;refine ZcJ ?_;by_cases hm:n∈u.1
      ·have g:pEv l i t u e=(u.1,u.2++[(i,e,ixT u.1 n)]):=by unfold pEv;rw[w];simp only[if_pos hm]
       rw[g]at c;refine Qhd (c:=keyC) (f:=ixV u.1) (x:=n) (l:=u.1) (g:=0) gg v hm ?_;simp(disch:=first|omega|exact PairsOK.mk rfl|(simp only[lenW]<;>omega))only[ixV,o,Qac,Qae,Qaf,wW,wV,simprocAttr];refine⟨j+1,by omega,by omega,?_⟩;rw[c,Zae,Zan];refine⟨[(51,.blk 51 0),(52,.blk 52 0),(53,.blk 53 0),(60,.blk 60 0),(70,.blk 70 0),(71,.blk 71 1)],rfl,au0,?_,au22⟩;exact Zcn rfl rfl gg (Zct (Zcd (Qab _)) (Zct (Zcd rfl) (Zct (Rn.x1 rfl rfl) (Zct (Rn.x1 rfl rfl) Zcs)))) (Zcn rfl rfl gg (Zce d) (Zcp rfl rfl gg (ZcC fun _ _=>⟨rfl,rfl⟩) (Zcn rfl rfl gg (Zce (Qav Qab _)) (Zcn rfl rfl gg (Zce (Qaa _)) (Zcn rfl rfl gg (Zce (SU.Qax (Qad _) rfl)) Zcm)))))
      have g:pEv l i t u e=(u.1++[n],u.2++[(i,e,u.1.length)]):=by unfold pEv;rw[w];simp only[if_neg hm];rw[show u.1.findIdx (·==n)=u.1.length from Qi7 hm]
      rw[g]at c;have B:¬((u.1.length:Nat):Int)=4096:=by omega
      have N:=QnR hm;refine Qgl (c:=keyC) (f:=ixV u.1) (x:=n) (l:=u.1) (g:=0) gg v hm ?_;refine ZcK B ?_;refine cp G ?_;refine ZcJ ?_;refine Qcp (c:=keyC) (f:=ixV u.1) (x:=n) (l:=u.1) (g:=0) gg v hm (by omega) ?_;rw[N];refine ZcM (ZcR C o @Qab @Qac @Qae @Qaf) ?_;refine⟨j+1,by omega,by omega,?_⟩;rw[c,Zae,Zae,Zan,ZaL];refine⟨[(51,.blk 51 0),(52,.blk 52 0),(53,.blk 53 0),(60,.blk 60 1),(70,.blk 70 0),(71,.blk 71 1)],rfl,au0,?_,au22⟩;exact Zcn rfl rfl gg (Zct (Zcd (Qab _)) (Zct (Zcd rfl) (Zct (Rn.x1 rfl rfl) (Zct (Rn.x1 rfl rfl) Zcs)))) (Zcn rfl rfl gg (Zce d) (Zcp rfl rfl gg (ZcC fun _ _=>⟨rfl,rfl⟩) (Zcn rfl rfl gg (Zce (SU.Qax (Qav Qab _) (Qav Qab [n]))) (Zcn rfl rfl gg (Zce (Qaa _)) (Zcn rfl rfl gg (Zce (SU.Qax (Qad _) rfl)) Zcm)))))
    have Y:j=(evA l).length:=by omega
    subst Y;refine ZcI k ?_;refine⟨(),?_⟩;refine⟨[(51,.blk 51 0),(52,.blk 52 0),(53,.blk 53 0),(60,.blk 60 0),(70,.blk 70 0),(71,.blk 71 0)],rfl,au0,?_,au22⟩;exact Zcn rfl rfl gg (Zct (Zcd (Qab _)) (Zct (Zcd rfl) (Zct (Rn.x1 rfl rfl) (Zct (Rn.x1 rfl rfl) Zcs)))) (Zcn rfl rfl gg (Zce d) (Zcp rfl rfl gg (ZcC fun _ _=>⟨rfl,rfl⟩) (Zcn rfl rfl gg (Zce (Qav Qab _)) (Zcn rfl rfl gg (Zce (Qaa _)) (Zcn rfl rfl gg (Zce (Qad _)) Zcm)))))
   rintro _ _;refine ZcJ ?_;refine⟨(i+1,pRow l (evA l) i t s),by dsimp only;omega,⟨Zax f I.length_le,Q,by dsimp only;omega,S⟩,?_⟩;dsimp only;rw[Qkm I f];refine⟨[(51,.blk 51 0),(52,.blk 52 0),(53,.blk 53 0),(60,.blk 60 0),(70,.blk 70 0),(71,.blk 71 0)],rfl,au0,?_,au22⟩;exact Zcn rfl rfl gg (Zct (Zcd (Qab _)) (Zct (Zcd rfl) (Zct (Rn.x1 rfl rfl) (Zct (Rn.x1 rfl rfl) Zcs)))) (Zcn rfl rfl gg (Zce d) (Zcp rfl rfl gg (ZcC fun _ _=>⟨rfl,rfl⟩) (Zcn rfl rfl gg (Zce (Qav Qab _)) (Zcn rfl rfl gg (Zce (Qaa _)) (Zcn rfl rfl gg (Zce (Qad _)) Zcm)))))
  have U:s=sync0 l:=by rw[<-hq,Qso (Zat (by omega))]
  have Y:i=s.1.length:=by omega
  subst Y;rw[<-U];refine ZcK f ?_;refine⟨(),[(51,.blk 51 0)],rfl,Zcj,?_,?_⟩;·exact Zcn rfl rfl gg (Zct (Zcd (Qab _)) (Zct (Zcd rfl) (Zct (Zcu rfl rfl rfl rfl (by simp[ints]) (Zce (Qaa _))) (Zct (Zcu rfl rfl rfl rfl (Qbd (k:=3) (fun _=>rfl) _) (Zce (Qad _))) Zcs)))) Zcm
  exact Zcl (Rn.x2 rfl rfl) (Zcl (Rn.fz (b:=60) (g:=0) gg rfl rfl (by simp) (Zce (Qav Qab _))) Zck)
 rintro _ _;refine ZcJ ?_;refine⟨.inr trivial,_,rfl,?_⟩;exact Zcd R
end Go.AM.SO
namespace Go.AM.SO
open Go.Proofs Go.AM.SD Go.AM.SE
abbrev auL(l:List (Nat×Aut)):List Aut:=l.map (·.2)
theorem Qqi{x:Nat×Aut}:List.flatMap auC (List.map (fun x:Nat×Aut=>x.2) [x])=[sliN x.2.al,.int .i64 (x.2.n:Int),sliN x.2.ms,egsN x.2.es]:=rfl
theorem Qa4{l:List (Nat×Aut)}:(auL l).length=l.length:=Zaw ..
theorem _root_.Go.AM.au24{p:Prop}(h:p:=by repeat(first|exact Zck|(refine Zcl ?_ ?_;·(first|exact Rn.any|exact Rn.x1 rfl rfl|exact Rn.x2 rfl rfl|exact Rn.x3 rfl rfl|exact Rn.x4 rfl rfl|exact Rn.x5 rfl|exact Rn.x6 rfl|exact Rn.x7 rfl|(refine Rn.slot ?_ ?_;(first|rfl|(rw[ZaV];rfl));(first|rfl|(simp only[noRef,noRefs,Qag,Zad,Zac,Zag,Qaa,Qan,Qab,Qam,Qa0,Qad,SU.Qbo];done)))|(refine Rn.fn ?_ ?_<;>(repeat'(first|exact Zcs|refine Zct ?_ ?_|exact Zcd rfl|exact Rn.x6 rfl|exact Rn.x2 rfl rfl|exact Rn.x5 rfl|exact Rn.x1 rfl rfl))))))):p:=h
theorem automata69{ch:UInt8}(l:List (Nat×Aut))(k:l.length<=1000):PSpec Tryz.prog 69 [its ch l] (auts (auL l)):=by
 refine Zcf 64 TP.ok69 rfl (by rw[noRefs,SU.QaD];rfl) (Qa8 _) ?_;have j:=@SU.QaD ch l;unfold TP.s69;refine ZcJ ?_;refine Qaq 100 (fun i:Nat=>[(3,.sl 60 0 0 i 4),(6,its ch l),(7,.int .i64 l.length),(8,.int .i64 i)]) (fun i=>[(60,.cells 0 ((auL (l.take i)).flatMap auC))]) (fun i=>i<=l.length) (fun i=>l.length-i) 0 0 160 (fun _:Unit=>[(3,auts (auL l))]) (fun _=>[]) (fun _=>True) ?_ (Zah _) ?_ ?_;·refine⟨[(60,.nil)],rfl,au0,?_,au24⟩;exact Zco rfl rfl Zcm
 ·rintro i hi;by_cases a:i<l.length
  ·obtain⟨x,h⟩:=Qap a;have c:=SU.Qdk (ch:=ch) h;have d:5<=((l.flatMap (itC ch)).drop (i*5)).length:=by rw[c];simp
   have f:(auL (l.take i)).length=i:=by rw[Qa4,Zas];omega
   have g:((auL (l.take i)).flatMap auC).length=i*4:=by rw[Qgn,f]
   refine ZcM (ZcU a c d g @Qab @Qam @Qac @Qae @Qaf) ?_;refine⟨i+1,by omega,by omega,?_⟩;rw[take_succ' h];show Rec _ _ [(60,.cells 0 ((List.map (fun x:Nat×Aut=>x.2) (l.take i++[x])).flatMap auC))] _ _;rw[ZaL,Zan,Qqi];refine⟨[(60,.blk 60 1)],rfl,au0,?_,au24⟩;exact Zcn rfl rfl gg (Zce (SU.Qax (Qa0 _) (Qa0 [x.2]))) Zcm
  have e:i=l.length:=by omega
  subst e;refine ZcI a ?_;exact⟨(),[],rfl,Zcj,Zcm,Zcl (Zcu (b:=60) (g:=0) gg rfl rfl Qa4 (by rw[Qgn,Qa4]) (Zce (Qa0 _))) Zck⟩
 rintro _ _;refine ZcJ ?_;exact⟨.inr trivial,_,rfl,Zcd (Qa8 _)⟩
theorem Qqj(l:List Aut):noRef (.tup [aV (syncA l),tuV (sync0 l).1,.int .i64 0])=true:=by rw[noRef,noRefs,noRefs,QbH,noRef,noRefs,noRefs,noRefs,noRefs,Qab,Qab,Qam];rfl
theorem Qbk{c:Cel}(h:WfCel c):∀a∈auL c.cs,WfI a:=fun a d=>by obtain⟨x,f,rfl⟩:=Zaq.1 d;exact h.ca x f
theorem Qrm{c:Cel}(h:WfCel c)(t:List Nat)(a:InT (auL c.cs) t):PSpec Tryz.prog 98 [sliN t] (.str (keyT t)):=by have i:=h.c0;have g:=h.c3;have d:=a.1;rw[Qa4]at d;exact key98 (by omega) (by omega) fun x f=>a.lt (Qbk h) f
theorem Qsp(c:Cel)(h:WfCel c):PSpec Tryz.prog 28 [auts (auL c.cs)] (.tup [aV (syncA (auL c.cs)),tuV (sync0 (auL c.cs)).1,.int .i64 0]):=by have a:=h.c0;have d:=h.c3;exact sync28 (auL c.cs) (Qbk h) (by rw[Qa4];omega) (by rw[Qa4];omega) (Qrm h)
theorem plant17(c:Cel)(h:WfCel c):PSpec Tryz.prog 17 [celV c] (.tup [aV (syncA (auL c.cs)),tuV (sync0 (auL c.cs)).1,.int .i64 0]):=by have f:=QbS c;refine Zcf 64 TP.ok17 rfl (by rw[noRefs,SU.Qbc];rfl) (Qqj _) ?_;have g:=h.c3;have hc:=check21 c h;have a:=automata69 (ch:=99) c.cs (by omega);have d:=Qsp c h;unfold TP.s17;refine ZcJ ?_;refine cp hc ?_;refine ZcJ ?_;refine cp a ?_;refine ZcJ ?_;refine cp d ?_;refine ZcJ ?_;exact⟨.inr trivial,_,rfl,Zcd (Qqj _)⟩
theorem QnS{T:List (List Nat)}{i:Nat}{t:List Nat}(h:T[i]?=some t):((T.map sliN).drop i).head?=some (sliN t):=by rw[Zb5,Qen h]
end Go.AM.SO
namespace Go.AM.SO
open Go.Proofs Go.AM.SD Go.AM.SE
theorem index195{K:Nat}{cap:List AV}(q:(Nat×Nat)->Bool)(l:List (Nat×Nat))(s:l.length<=1000000)(hc:noRefs cap=true)(hk:∀x∈l,PSpec Tryz.prog K (.agg [.int .i64 (x.1:Int),.int .i64 (x.2:Int)]::cap) (.bool (q x))):PSpec Tryz.prog 195 [los l,.fn K [] cap] (.int .i64 (idxQ q l)):=by
 refine Zcg 64 TQ.ok195 rfl (by rw[noRefs,noRefs,Qbw hc,(SU.Qb1 _)];rfl) rfl ?_;have d:=Qbw (K:=K) hc;have o:=SU.Qgh l;unfold TQ.s195;refine ZcJ ?_;refine QaN 100 (fun i:Nat=>[(0,los l),(1,.fn K [] cap),(7,.int .i64 l.length),(8,.int .i64 i)]) (fun _=>[]) (fun i=>i<=l.length/\∀(j:Nat)y,j<i->l[j]?=some y->q y=false) (fun i=>l.length-i) 0 ?_ ⟨Zah _,fun j y m=>absurd m (ZaD _)⟩ ?_;·exact⟨[],rfl,Zcj,Zcm,Zcl (Zcd (SU.Qb1 _)) (Zcl (Zcd d) (Zcl (Zcd rfl) (Zcl (Zcd rfl) Zck)))⟩
 rintro i⟨hi,n⟩;by_cases a:i<l.length
 ·obtain⟨x,c⟩:=Qap a;have k:=hk x (Zaf c);have f:=Qi0 c;have g:2<=(List.drop (i*2) (l.flatMap loC)).length:=by rw[Za6,o];omega
  cases h:q x
  ·rw[h]at k;refine ZcM (ZcS a f g @Zbi @Qac @Qae @Qaf) ?_;refine⟨_,by simpa using k,?_⟩;refine ZcJ ?_;refine⟨i+1,by omega,⟨by omega,fun j y m p=>?_⟩,?_⟩
   ·by_cases e:j=i;·subst e;rw[c]at p;cases p;exact h
    exact n j y (by omega) p
   exact⟨[],rfl,Zcj,Zcm,Zcl (Zcd (SU.Qb1 _)) (Zcl (Zcd d) (Zcl (Zcd rfl) (Zcl (Zcd rfl) Zck)))⟩
  rw[h]at k;refine ZcM (ZcS a f g @Zbi @Qac @Qae @Qaf) ?_;refine⟨_,by simpa using k,?_⟩;refine ZcJ ?_;refine⟨.inr trivial,_,rfl,?_⟩;rw[QeV c h n];rfl
 refine ZcK a ?_;refine⟨.inr trivial,_,rfl,?_⟩;rw[QdF fun x c=>by obtain⟨j,m,r⟩:=Zbf c;exact n j x (by omega) (by rw[Zal m,r])];rfl
theorem index48{K:Nat}{cap:List AV}(q:Ed->Bool)(l:List Ed)(s:l.length<=1000000)(hc:noRefs cap=true)(hk:∀x∈l,PSpec Tryz.prog K (.agg [.int .i64 (x.1:Int),.int .i64 (x.2.1:Int),.int .i64 (x.2.2:Int)]::cap) (.bool (q x))):PSpec Tryz.prog 48 [egsN l,.fn K [] cap] (.int .i64 (idxQ q l)):=by
 refine Zcg 64 TQ.ok48 rfl (by rw[noRefs,noRefs,Qbw hc,(Qam _)];rfl) rfl ?_;have d:=Qbw (K:=K) hc;have o:=(Qbd (k:=3) (fun _=>rfl) l:(l.flatMap edC).length=l.length*3);unfold TQ.s48;refine ZcJ ?_;refine QaN 100 (fun i:Nat=>[(0,egsN l),(1,.fn K [] cap),(7,.int .i64 l.length),(8,.int .i64 i)]) (fun _=>[]) (fun i=>i<=l.length/\∀(j:Nat)y,j<i->l[j]?=some y->q y=false) (fun i=>l.length-i) 0 ?_ ⟨Zah _,fun j y m=>absurd m (ZaD _)⟩ ?_;·exact⟨[],rfl,Zcj,Zcm,Zcl (Zcd (Qam _)) (Zcl (Zcd d) (Zcl (Zcd rfl) (Zcl (Zcd rfl) Zck)))⟩
 rintro i⟨hi,n⟩;by_cases a:i<l.length
 ·obtain⟨x,c⟩:=Qap a;have k:=hk x (Zaf c);have f:=QaB c;have g:3<=(List.drop (i*3) (l.flatMap edC)).length:=by rw[Za6,o];omega
  cases h:q x
  ·rw[h]at k;refine ZcM (ZcS a f g @Zbi @Qac @Qae @Qaf) ?_;refine⟨_,by simpa using k,?_⟩;refine ZcJ ?_;refine⟨i+1,by omega,⟨by omega,fun j y m p=>?_⟩,?_⟩
   ·by_cases e:j=i;·subst e;rw[c]at p;cases p;exact h
    exact n j y (by omega) p
   exact⟨[],rfl,Zcj,Zcm,Zcl (Zcd (Qam _)) (Zcl (Zcd d) (Zcl (Zcd rfl) (Zcl (Zcd rfl) Zck)))⟩
  rw[h]at k;refine ZcM (ZcS a f g @Zbi @Qac @Qae @Qaf) ?_;refine⟨_,by simpa using k,?_⟩;refine ZcJ ?_;refine⟨.inr trivial,_,rfl,?_⟩;rw[QeV c h n];rfl
 refine ZcK a ?_;refine⟨.inr trivial,_,rfl,?_⟩;rw[QdF fun x c=>by obtain⟨j,m,r⟩:=Zbf c;exact n j x (by omega) (by rw[Zal m,r])];rfl
theorem contains115{K:Nat}{cap:List AV}(q:Nat×Nat->Bool)(l:List (Nat×Nat))(d:l.length<=1000000)(hc:noRefs cap=true)(hk:∀x∈l,PSpec Tryz.prog K (.agg [.int .i64 (x.1:Int),.int .i64 (x.2:Int)]::cap) (.bool (q x))):PSpec Tryz.prog 115 [los l,.fn K [] cap] (.bool (l.any q)):=by refine Zcg 64 TQ.ok115 rfl (by rw[noRefs,noRefs,Qbw hc,SU.Qb1];rfl) rfl ?_;have h:=index195 q l d hc hk;have f:=Qbw (K:=K) hc;have c:=@QnM _ q l;generalize idxQ q l=a at*;unfold TQ.s115;refine ZcJ ?_;refine cp h ?_;refine ZcK c ?_;exact⟨.inr trivial,_,rfl,rfl⟩
theorem other234(t:List Nat)(c s y:Nat)(a:t[c]?=some y):PSpec Tryz.prog 234 [.agg [.int .i64 (c:Int),.int .i64 (s:Int)],.fptr [sliN t]] (.bool (!decide (y=s))):=by refine Zcg 64 TQ.ok234 rfl (by simp only[noRefs,noRef,Qaa];rfl) rfl ?_;have hc:c<t.length:=(Zam.1 a).1;have d:decide ((y:Int)=(s:Int))=decide (y=s):=decide_eq_decide.2 (by omega);unfold TQ.s234;refine ZcK (ZcO (QaJ a) hc d) ?_;exact⟨.inr trivial,_,rfl,rfl⟩
def exQ(t:List Nat)(x:Nat×List (Nat×Nat)):Bool:=!x.2.any fun l=>!decide (t.getD l.1 0=l.2)
theorem excl233(t:List Nat)(x:Nat×List (Nat×Nat))(g:x.2.length<=1000)(d:∀l∈x.2,l.1<t.length):PSpec Tryz.prog 233 [sliN t,.fptr (exC x)] (.bool (exQ t x)):=by
 have a:noRefs (exC x)=true:=by simp only[exC,noRefs,noRef,SU.Qbj];rfl
 refine Zcg 64 TQ.ok233 rfl (by rw[noRefs,noRefs,Qab,noRef,a];rfl) rfl ?_;have f:=contains115 (K:=234) (cap:=[.fptr [sliN t]]) (fun l=>!decide (t.getD l.1 0=l.2)) x.2 (by omega) (by simp only[noRefs,noRef,Qaa];rfl) fun l hm=>by obtain⟨y,c⟩:=Qap (d l hm);have:=other234 t l.1 l.2 y c;rwa[show t.getD l.1 0=y by rw[Zak,c];rfl]
 show wS _ _ _ _ _ (argT 0 [sliN t,.fptr [.str [101,UInt8.ofNat (48+x.1)],los x.2]]) _ _;unfold exQ;generalize x.2.any (fun l=>!decide (t.getD l.1 0=l.2))=b at*;unfold TQ.s233;refine ZcJ ?_;refine SU.chc (Zcx (ZcA (Zch _) (ZcA (FrzTo.fn Zcz (ZcA (FrzTo.ptr (g:=0) (cs:=[sliN t]) gg (Zci _)) Zcz)) Zcz)) f rfl) ?_;refine ZcJ ?_;exact⟨.inr trivial,_,rfl,rfl⟩
def koV(t:List Nat)(l:List (Nat×Int)):Int:=(l.map fun x=>x.2*(t.getD x.1 0:Int)).foldl (·+·) 0
theorem Qmg{t:List Nat}{l:List (Nat×Int)}{i:Nat}{x:Nat×Int}(h:l[i]?=some x):koV t (l.take (i+1))=koV t (l.take i)+x.2*(t.getD x.1 0:Int):=by unfold koV;rw[take_succ' h,ZaL,ZaZ];rfl
theorem Qkp{a b:Int}(h:-4<a/\a<4)(c:0<=b/\b<3):-12<=a*b/\a*b<=12:=by
 obtain rfl|rfl|rfl:b=0\/b=1\/b=2:=by omega
 ·omega
 ·omega
 omega
theorem Qkq{t:List Nat}(c:∀x∈t,x<3){l:List (Nat×Int)}(d:∀x∈l,-4<x.2/\x.2<4):∀i,i<=l.length->-12*(i:Int)<=koV t (l.take i)/\koV t (l.take i)<=12*(i:Int)
 |0,_=>by simp[koV]|i+1,hi=>by
  obtain⟨x,a⟩:=Qap (l:=l) (i:=i) (by omega);rw[Qmg a];have h1:=Qkq c d i (by omega);have f:(0:Int)<=(t.getD x.1 0:Int)/\(t.getD x.1 0:Int)<3:=by
   refine⟨by omega,?_⟩;rcases Zbz x.1 t.length with h|h;·have :=c (t.getD x.1 0) (by rw[Zak,Zal h];exact List.getElem_mem h);omega
   rw[Zak,Zat h];decide
  have g:=Qkp (d x (Zaf a)) f;omega
theorem _root_.Go.AM.au25{p:Prop}(h:p:=by repeat'(first|exact Zcm|(refine Zce ?_;first|rfl|(simp only[noRef,noRefs,Qag,Zad,Zac,Zag,Qaa,Qan,Qab,SU.Qbj,SU.QaQ,SU.Qbo,SU.Qbb,SU.QcQ];done))|exact Zcy rfl|exact Zcs|exact(True.intro:RnM _ _ _ [] [])|refine Zct ?_ ?_|(refine Zcd ?_;first|rfl|(simp only[noRef,noRefs,Qag,Zad,Zac,Zag,Qaa,Qan,Qab,SU.Qbj,SU.QaQ,SU.Qbo,SU.Qbb,SU.QcQ];done))|exact Rn.x1 rfl rfl|exact Rn.x2 rfl rfl|exact Rn.x3 rfl rfl|exact Rn.x4 rfl rfl|exact Rn.x5 rfl|exact Rn.x6 rfl|exact Rn.x7 rfl|refine Zco rfl rfl ?_|refine Zcn rfl rfl rfl ?_ ?_|refine Zcp rfl rfl rfl ?_ ?_|refine Zcq rfl rfl ?_ ?_|refine Zcr rfl rfl ?_ ?_)):p:=h
theorem value236(t:List Nat)(k:List (Nat×Int)×Int)(hk:k.1.length<=1000)(p:∀x∈t,x<3)(hc:∀x∈k.1,x.1<t.length/\-4<x.2/\x.2<4):PSpec Tryz.prog 236 [.agg (coC k),sliN t] (.int .i64 (koV t k.1)):=by
 have m:noRefs (coC k)=true:=by simp only[coC,noRefs,noRef,SU.QaQ];rfl
 refine Zcg 64 TQ.ok236 rfl (by rw[noRefs,noRefs,Qab,noRef,m];rfl) rfl ?_;have q:=SU.QcY k.1;have l:=Qkq p fun x d=>(hc x d).2;show wS _ _ _ _ _ (argT 0 [.agg [.str [107],tes k.1,.int .i64 k.2],sliN t]) _ _;unfold TQ.s236;refine ZcJ ?_;refine Qaq 100 (fun i:Nat=>[(1,sliN t),(5,.int .i64 (koV t (k.1.take i))),(9,tes k.1),(10,.int .i64 k.1.length),(11,.int .i64 i)]) (fun _=>[]) (fun i=>i<=k.1.length) (fun i=>k.1.length-i) 0 0 160 (fun _:Unit=>[(5,.int .i64 (koV t k.1))]) (fun _=>[]) (fun _=>True) ?_ (Zah _) ?_ ?_;·exact⟨[],rfl,Zcj,Zcm,Zcl (Zcd (Qab _)) (Zcl (Zcd rfl) (Zcl (Zcd (SU.Qco _)) au18))⟩
 ·rintro i hi;by_cases a:i<k.1.length
  ·obtain⟨x,d⟩:=Qap a;obtain⟨h1,u⟩:=hc x (Zaf d);obtain⟨y,j⟩:=Qap h1;have r:=p y (Zaf j);have o:t.getD x.1 0=y:=by rw[Zak,j];rfl
   have f:=SU.Qdj d;have h:2<=((k.1.flatMap teC).drop (i*2)).length:=by rw[f];simp
   have c:=Qmg (t:=t) d;rw[o]at c;have hp:=Qkp u (b:=(y:Int)) ⟨by omega,by omega⟩;have s:=l i hi;have n:wr .i64 (x.2*(y:Int))=x.2*(y:Int):=QfY (by omega) (by omega);have g:wr .i64 (koV t (k.1.take i)+x.2*(y:Int))=koV t (k.1.take i)+x.2*(y:Int):=QfY (by omega) (by omega);refine ZcK (ZcS a f h h1 (QaJ j) n g) ?_;refine⟨i+1,by omega,by omega,?_⟩;rw[c];exact⟨[],rfl,Zcj,Zcm,Zcl (Zcd (Qab _)) (Zcl (Zcd rfl) (Zcl (Zcd (SU.Qco _)) au18))⟩
  have e:i=k.1.length:=by omega
  subst e;refine ZcI a ?_;exact⟨(),⟨[],rfl,au0,au25,au18⟩⟩
 rintro _ _;refine ZcJ ?_;exact⟨.inr trivial,_,rfl,rfl⟩
def koQ(t:List Nat)(k:List (Nat×Int)×Int):Bool:=decide (k.2<koV t k.1)
theorem excd235(t:List Nat)(k:List (Nat×Int)×Int)(hk:k.1.length<=1000)(d:∀x∈t,x<3)(hc:∀x∈k.1,x.1<t.length/\-4<x.2/\x.2<4):PSpec Tryz.prog 235 [sliN t,.fptr (coC k)] (.bool (koQ t k)):=by
 have a:noRefs (coC k)=true:=by simp only[coC,noRefs,noRef,SU.QaQ];rfl
 refine Zcg 64 TQ.ok235 rfl (by rw[noRefs,noRefs,Qab,noRef,a];rfl) rfl ?_;have c:=value236 t k hk d hc;show wS _ _ _ _ _ (argT 0 [sliN t,.fptr [.str [107],tes k.1,.int .i64 k.2]]) _ _;unfold koQ;unfold TQ.s235;refine ZcJ ?_;refine cp c ?_;refine ZcJ ?_;exact⟨.inr trivial,_,rfl,rfl⟩
def cdF:(Nat×List (Nat×Nat))⊕(List (Nat×Int)×Int)->AV|.inl x=>.fn 233 [] [.fptr (exC x)]|.inr k=>.fn 235 [] [.fptr (coC k)]
def cdQ(t:List Nat):(Nat×List (Nat×Nat))⊕(List (Nat×Int)×Int)->Bool|.inl x=>exQ t x|.inr k=>koQ t k
def cdA(xs:List (Nat×List (Nat×Nat)))(ks:List (List (Nat×Int)×Int)):List ((Nat×List (Nat×Nat))⊕(List (Nat×Int)×Int)):=xs.map .inl++ks.map .inr
abbrev cdL(l:List ((Nat×List (Nat×Nat))⊕(List (Nat×Int)×Int))):AV:=.fsl (l.map cdF) l.length 1
theorem Qbx(x:(Nat×List (Nat×Nat))⊕(List (Nat×Int)×Int)):noRef (cdF x)=true:=by cases x with|inl x=>simp only[cdF,exC,noRef,noRefs,SU.Qbj];rfl|inr k=>simp only[cdF,coC,noRef,noRefs,SU.QaQ];rfl
theorem QcS(l:List ((Nat×List (Nat×Nat))⊕(List (Nat×Int)×Int))):noRef (cdL l)=true:=by rw[cdL,noRef];exact Qav Qbx _
theorem Qsq{l:List ((Nat×List (Nat×Nat))⊕(List (Nat×Int)×Int))}{i:Nat}{x:(Nat×List (Nat×Nat))⊕(List (Nat×Int)×Int)}(h:l[i]?=some x):((l.map cdF).drop i).head?=some (cdF x):=by rw[Zb5,ZaJ,h];rfl
theorem index203{K:Nat}{cap:List AV}(q:((Nat×List (Nat×Nat))⊕(List (Nat×Int)×Int))->Bool)(l:List ((Nat×List (Nat×Nat))⊕(List (Nat×Int)×Int)))(s:l.length<=1000000)(hc:noRefs cap=true)(hk:∀x∈l,PSpec Tryz.prog K (cdF x::cap) (.bool (q x))):PSpec Tryz.prog 203 [cdL l,.fn K [] cap] (.int .i64 (idxQ q l)):=by
 refine Zcg 64 TQ.ok203 rfl (by rw[noRefs,noRefs,Qbw hc,(QcS _)];rfl) rfl ?_;have d:=Qbw (K:=K) hc;have o:=(show(l.map cdF).length=l.length*1 by simp);unfold TQ.s203;refine ZcJ ?_;refine QaN 100 (fun i:Nat=>[(0,cdL l),(1,.fn K [] cap),(7,.int .i64 l.length),(8,.int .i64 i)]) (fun _=>[]) (fun i=>i<=l.length/\∀(j:Nat)y,j<i->l[j]?=some y->q y=false) (fun i=>l.length-i) 0 ?_ ⟨Zah _,fun j y m=>absurd m (ZaD _)⟩ ?_;·exact⟨[],rfl,Zcj,Zcm,Zcl (Zcd (QcS _)) (Zcl (Zcd d) (Zcl (Zcd rfl) (Zcl (Zcd rfl) Zck)))⟩
 rintro i⟨hi,n⟩;by_cases a:i<l.length
 ·obtain⟨x,c⟩:=Qap a;have k:=hk x (Zaf c);have f:=Qsq c;have g:1<=(List.drop (i*1) (l.map cdF)).length:=by rw[Za6,o];omega
  cases h:q x
  ·rw[h]at k;refine ZcM (ZcS a f g @Zbi @Qac @Qae @Qaf) ?_;refine⟨_,by simpa using k,?_⟩;refine ZcJ ?_;refine⟨i+1,by omega,⟨by omega,fun j y m p=>?_⟩,?_⟩
   ·by_cases e:j=i;·subst e;rw[c]at p;cases p;exact h
    exact n j y (by omega) p
   exact⟨[],rfl,Zcj,Zcm,Zcl (Zcd (QcS _)) (Zcl (Zcd d) (Zcl (Zcd rfl) (Zcl (Zcd rfl) Zck)))⟩
  rw[h]at k;refine ZcM (ZcS a f g @Zbi @Qac @Qae @Qaf) ?_;refine⟨_,by simpa using k,?_⟩;refine ZcJ ?_;refine⟨.inr trivial,_,rfl,?_⟩;rw[QeV c h n];rfl
 refine ZcK a ?_;refine⟨.inr trivial,_,rfl,?_⟩;rw[QdF fun x c=>by obtain⟨j,m,r⟩:=Zbf c;exact n j x (by omega) (by rw[Zal m,r])];rfl
end Go.AM.SO
namespace Go.AM.SO
open Go.Proofs Go.AM.SD Go.AM.SE
structure TOk(S:List Nat)(t:List Nat)(xs:List (Nat×List (Nat×Nat)))(ks:List (List (Nat×Int)×Int)):Prop where
 ln:t.length=S.length
 l3:t.length<=1000
 t3:∀x∈t,x<3
 lt:∀(i:Nat)x n,t[i]?=some x->S[i]?=some n->x<n
 xl:∀x∈xs,x.2.length<=1000/\∀l∈x.2,l.1<t.length
 kl:∀k∈ks,k.1.length<=1000/\∀x∈k.1,x.1<t.length/\-4<x.2/\x.2<4
 xn:xs.length<=1000
 kn:ks.length<=1000
variable{S t:List Nat}{xs:List (Nat×List (Nat×Nat))}{ks:List (List (Nat×Int)×Int)}
theorem call204(h:TOk S t xs ks){x:(Nat×List (Nat×Nat))⊕(List (Nat×Int)×Int)}(a:x∈cdA xs ks):PSpec Tryz.prog 204 [cdF x,.fptr [sliN t]] (.bool (cdQ t x)):=by
 refine Zcg 64 TQ.ok204 rfl (by rw[noRefs,Qbx,noRefs];simp only[noRefs,noRef,Qaa];rfl) rfl ?_;unfold cdA at a;rcases ZaI.1 a with a|a;·obtain⟨y,c,rfl⟩:=Zaq.1 a;have hc:=excl233 t y (h.xl y c).1 (h.xl y c).2;simp(disch:=first|omega|exact PairsOK.mk rfl|(simp only[lenW]<;>omega))only[TQ.s204,cdF,Qac,Qae,Qaf,wW,wV,simprocAttr];refine⟨_,by simpa using hc,?_⟩;refine ZcJ ?_;exact⟨.inr trivial,_,rfl,rfl⟩
 obtain⟨y,c,rfl⟩:=Zaq.1 a;have hc:=excd235 t y (h.kl y c).1 h.t3 (h.kl y c).2;simp(disch:=first|omega|exact PairsOK.mk rfl|(simp only[lenW]<;>omega))only[TQ.s204,cdF,Qac,Qae,Qaf,wW,wV,simprocAttr];refine⟨_,by simpa using hc,?_⟩;refine ZcJ ?_;exact⟨.inr trivial,_,rfl,rfl⟩
theorem QdY:(cdA xs ks).length=xs.length+ks.length:=by simp[cdA]
theorem violated158(h:TOk S t xs ks):PSpec Tryz.prog 158 [cdL (cdA xs ks),sliN t] (.int .i64 (idxQ (cdQ t) (cdA xs ks))):=by have a:=QcS (cdA xs ks);refine Zcg 64 TQ.ok158 rfl (by rw[noRefs,a,noRefs,Qab];rfl) rfl ?_;have c:=index203 (K:=204) (cap:=[.fptr [sliN t]]) (cdQ t) (cdA xs ks) (by rw[QdY];have:=h.xn;have:=h.kn;omega) (by simp only[noRefs,noRef,Qaa];rfl) fun x d=>call204 h d;generalize cdA xs ks=l at*;unfold TQ.s158;refine ZcJ ?_;refine SU.chc (Zcx (ZcA (Zch _) (ZcA (FrzTo.fn Zcz (ZcA (FrzTo.ptr (g:=0) (cs:=[sliN t]) gg (Zci _)) Zcz)) Zcz)) c rfl) ?_;refine ZcJ ?_;exact⟨.inr trivial,_,rfl,rfl⟩
theorem mk205(x:Nat×List (Nat×Nat)):PSpec Tryz.prog 205 [.agg (exC x)] (cdF (.inl x)):=by
 have a:noRefs (exC x)=true:=by simp only[exC,noRefs,noRef,SU.Qbj];rfl
 refine Zcf 64 TQ.ok205 rfl (by rw[noRefs,noRef,a];rfl) (Qbx _) ?_;show wS _ _ _ _ _ (argT 0 [.agg [.str [101,UInt8.ofNat (48+x.1)],los x.2]]) _ _;unfold TQ.s205;refine ZcJ ?_;refine⟨.inr trivial,_,rfl,?_⟩;exact Rn.fn Zcs (Zct (Rn.frzp (b:=64) (g:=0) rfl (Zah _) (fun d c _ e=>by simp[π0]at e) (by simp) (Zce a)) Zcs)
theorem mk206(k:List (Nat×Int)×Int):PSpec Tryz.prog 206 [.agg (coC k)] (cdF (.inr k)):=by
 have a:noRefs (coC k)=true:=by simp only[coC,noRefs,noRef,SU.QaQ];rfl
 refine Zcf 64 TQ.ok206 rfl (by rw[noRefs,noRef,a];rfl) (Qbx _) ?_;show wS _ _ _ _ _ (argT 0 [.agg [.str [107],tes k.1,.int .i64 k.2]]) _ _;unfold TQ.s206;refine ZcJ ?_;refine⟨.inr trivial,_,rfl,?_⟩;exact Rn.fn Zcs (Zct (Rn.frzp (b:=64) (g:=0) rfl (Zah _) (fun d c _ e=>by simp[π0]at e) (by simp) (Zce a)) Zcs)
theorem Qkr(x:(Nat×List (Nat×Nat))⊕(List (Nat×Int)×Int)):(cdF x).cells=[cdF x]:=by cases x<;>rfl
theorem QnT(x:(Nat×List (Nat×Nat))⊕(List (Nat×Int)×Int)):(cdF x).one=true:=by cases x<;>rfl
theorem QnU(x:(Nat×List (Nat×Nat))⊕(List (Nat×Int)×Int)):(cdF x).boxable=true:=by cases x<;>rfl
theorem conds159(m:xs.length<=1000)(hk:ks.length<=1000):PSpec Tryz.prog 159 [cdV S xs ks] (cdL (cdA xs ks)):=by
 have c:=@QbP S xs ks;refine Zcf 64 TQ.ok159 rfl (by rw[noRefs,noRef,c];rfl) (QcS _) ?_;have o:=SU.Qel xs;have n:=Qgi ks;show wS _ _ _ _ _ (argT 0 [.agg [sliN S,exs xs,cos ks]]) _ _;unfold TQ.s159;refine ZcJ ?_;refine Qaq 100 (fun i:Nat=>[(1,.ptr 51 0 0),(3,.sl 60 0 0 i 1),(9,exs xs),(10,.int .i64 xs.length),(11,.int .i64 i)]) (fun i=>[(51,.cells 0 [sliN S,exs xs,cos ks]),(60,.cells 0 ((cdA (xs.take i) []).map cdF))]) (fun i=>i<=xs.length) (fun i=>xs.length-i) 0 0 160 (fun _:Unit=>[(1,.ptr 51 0 0),(3,.sl 60 0 0 xs.length 1)]) (fun _=>[(51,.cells 0 [sliN S,exs xs,cos ks]),(60,.cells 0 ((cdA xs []).map cdF))]) (fun _=>True) ⟨[(51,.blk 64 0),(60,.nil)],rfl,au0,?_,au18⟩ (Zah _) ?_ ?_;·exact Zcn rfl rfl gg (Zce c) (Zco rfl rfl Zcm)
 ·rintro i hi;by_cases a:i<xs.length
  ·obtain⟨x,m⟩:=Qap a;have f:=Qi1 m;have h:2<=((xs.flatMap exC).drop (i*2)).length:=by rw[f];simp
   have j:((cdA (xs.take i) []).map cdF).length=i:=by rw[Zaw,QdY,Zas];simp;omega
   have hm:=mk205 x;have hc:=Qkr (.inl x);have ho:=QnT (.inl x);have l:=QnU (.inl x);have g:(cdA (xs.take (i+1)) []).map cdF=(cdA (xs.take i) []).map cdF++[cdF (.inl x)]:=by rw[take_succ' m];simp[cdA]
   have d:=Qbx (.inl x);generalize cdF (.inl x)=F at*;refine ZcK (ZcO a f h) ?_;refine cp hm ?_;refine ZcK (ZcQ hc ho l j d) ?_;refine⟨i+1,by omega,by omega,?_⟩;rw[g];refine⟨[(51,.blk 51 0),(60,.blk 60 1)],rfl,au0,?_,au18⟩;exact Zcn rfl rfl gg (Zce c) (Zcn rfl rfl gg (Zce (SU.Qax (Qav Qbx _) (by rw[noRefs,d];rfl))) Zcm)
  have e:i=xs.length:=by omega
  subst e;refine ZcI a ?_;refine⟨(),?_⟩;refine⟨[(51,.blk 51 0),(60,.blk 60 0)],rfl,au0,?_,au18⟩;exact Zcn rfl rfl gg (Zce c) (Zcn rfl rfl gg (Zce (Qav Qbx _)) Zcm)
 rintro _ _;refine ZcJ ?_;refine Qaq 200 (fun i:Nat=>[(3,.sl 60 0 0 (xs.length+i) 1),(22,cos ks),(23,.int .i64 ks.length),(24,.int .i64 i)]) (fun i=>[(60,.cells 0 ((cdA xs (ks.take i)).map cdF))]) (fun i=>i<=ks.length) (fun i=>ks.length-i) 0 2 260 (fun _:Unit=>[(3,cdL (cdA xs ks))]) (fun _=>[]) (fun _=>True) ⟨[(60,.blk 60 0)],rfl,au0,?_,au18⟩ (Zah _) ?_ ?_;·exact Zcn rfl rfl gg (Zce (Qav Qbx _)) Zcm
 ·rintro i hi;by_cases a:i<ks.length
  ·obtain⟨k,hk⟩:=Qap a;have f:=Qi2 hk;have h:3<=((ks.flatMap coC).drop (i*3)).length:=by rw[f];simp
   have j:((cdA xs (ks.take i)).map cdF).length=xs.length+i:=by rw[Zaw,QdY,Zas];omega
   have hm:=mk206 k;have hc:=Qkr (.inr k);have ho:=QnT (.inr k);have l:=QnU (.inr k);have g:(cdA xs (ks.take (i+1))).map cdF=(cdA xs (ks.take i)).map cdF++[cdF (.inr k)]:=by rw[take_succ' hk];simp[cdA]
   have d:=Qbx (.inr k);generalize cdF (.inr k)=F at*;refine ZcK (ZcO a f h) ?_;refine cp hm ?_;refine ZcK (ZcQ hc ho l j d) ?_;refine⟨i+1,by omega,by omega,?_⟩;rw[g];refine⟨[(60,.blk 60 1)],rfl,au0,?_,au18⟩;exact Zcn rfl rfl gg (Zce (SU.Qax (Qav Qbx _) (by rw[noRefs,d];rfl))) Zcm
  have e:i=ks.length:=by omega
  subst e;refine ZcI a ?_;exact⟨(),[],rfl,Zcj,Zcm,Zcl (Zcu (b:=60) (g:=0) gg rfl rfl QdY (by rw[Zaw,QdY];simp) (Zce (Qav Qbx _))) Zck⟩
 rintro _ _;refine ZcJ ?_;exact⟨.inr trivial,_,rfl,Zcd (QcS _)⟩
end Go.AM.SO
namespace Go.AM.SO
open Go.Proofs Go.AM.SD Go.AM.SE
variable{S t:List Nat}{xs:List (Nat×List (Nat×Nat))}{ks:List (List (Nat×Int)×Int)}
theorem checkT202(h:TOk S t xs ks):PSpec Tryz.prog 202 [cdV S xs ks,sliN t] (.int .i64 0):=by
 have a:=@QbP S xs ks;refine Zcg 64 TQ.ok202 rfl (by rw[noRefs,noRef,a,noRefs,Qab];rfl) rfl ?_;have l:=h.l3;have d:(t.length=S.length)=True:=eq_true h.ln;have g:((t.length:Int)=(S.length:Int))=True:=eq_true (by rw[h.ln]);show wS _ _ _ _ _ (argT 0 [.agg [sliN S,exs xs,cos ks],sliN t]) _ _;unfold TQ.s202;refine ZcK (ZcN d g) ?_;refine Qaq 100 (fun i:Nat=>[(2,.ptr 51 0 0),(13,sliN t),(14,.int .i64 t.length),(15,.int .i64 i)]) (fun _=>[(51,.cells 0 [sliN S,exs xs,cos ks])]) (fun i=>i<=t.length) (fun i=>t.length-i) 0 0 160 (fun _:Unit=>[]) (fun _=>[]) (fun _=>True) ?_ (Zah _) ?_ ?_;·refine⟨[(51,.blk 64 0)],rfl,au0,?_,au18⟩;exact Zcn rfl rfl gg (Zce a) Zcm
 ·rintro i hi;by_cases c:i<t.length
  ·obtain⟨x,j⟩:=Qap c;obtain⟨n,k⟩:=Qap (l:=S) (i:=i) (by rw[<-h.ln];exact c);have f:i<S.length:=by rw[<-h.ln];exact c
   have m:=h.lt i x n j k;have g1:¬(x:Int)<0:=by omega
   have g2:¬(n:Int)<=(x:Int):=by omega
   refine ZcK (ZcR c f (QaJ j) (QaJ k) g1 g2) ?_;refine⟨i+1,by omega,by omega,?_⟩;refine⟨[(51,.blk 51 0)],rfl,au0,?_,au18⟩;exact Zcn rfl rfl gg (Zce a) Zcm
  refine ZcK c ?_;exact⟨(),⟨[],rfl,au0,au25,au18⟩⟩
 rintro _ _;refine ZcJ ?_;exact⟨.inr trivial,_,rfl,rfl⟩
theorem Qqk{c:Cel}(h:WfCel c){t:List Nat}(m:InT (auL c.cs) t):TOk (szs c) t c.xs c.ks:=by
 have g:t.length=c.cs.length:=by rw[m.1,Qa4]
 have r:=h.c3;have a:=h.x2;have hk:=h.k1;refine⟨by rw[g,h.slen],by omega,fun x a=>m.lt (Qbk h) a,fun i x n hi f=>?_,fun x a=>⟨by have:=h.xlen a;omega,fun l o=>?_⟩,fun k hk=>⟨by have:=h.klen hk;omega,fun x a=>?_⟩,by omega,by omega⟩
 ·have j:i<c.cs.length:=by rw[<-g];exact(Zam.1 hi).1
  obtain⟨y,d⟩:=Qap j;have h1:=m.2 i y.2 (by rw[ZaJ,d];rfl);rw[Zak,hi]at h1;unfold szs at f;rw[ZaJ,d]at f;simp only[Zbv,Zaa]at f;subst f;simpa using h1
 ·obtain⟨y,d,_⟩:=(h.xl x a).2.2 l o;rw[g];exact(Zam.1 d).1
 obtain⟨h1,_,q,p⟩:=(h.kl k hk).2.2.1 x a;exact⟨by rw[g];exact h1,q,p⟩
theorem checkT157(c:Cel)(h:WfCel c){t:List Nat}(f:InT (auL c.cs) t):PSpec Tryz.prog 157 [cdV (szs c) c.xs c.ks,sliN t] (.int .i64 0):=by have a:=@QbP (szs c) c.xs c.ks;refine Zcg 64 TQ.ok157 rfl (by rw[noRefs,noRef,a,noRefs,Qab];rfl) rfl ?_;have h1:=conds32 c h;have d:=checkT202 (Qqk h f);show wS _ _ _ _ _ (argT 0 [.agg [sliN (szs c),exs c.xs,cos c.ks],sliN t]) _ _;unfold TQ.s157;refine ZcJ ?_;refine cp h1 ?_;refine ZcJ ?_;refine cp d ?_;refine ZcJ ?_;exact⟨.inr trivial,_,rfl,rfl⟩
theorem QhN{α:Type}{q:α->Bool}{A:List α}:-1<=idxQ q A/\(0<=idxQ q A->idxQ q A<A.length):=by
 unfold idxQ;by_cases a:A.any q=true;·rw[if_pos a];have:A.findIdx q<A.length:=Zbj (by simpa using a);exact⟨by omega,fun _=>by omega⟩
 rw[if_neg a];exact⟨by omega,fun h=>by omega⟩
def vioV(t:List Nat)(xs:List (Nat×List (Nat×Nat)))(ks:List (List (Nat×Int)×Int)):Int×Int×Bool:=if idxQ (cdQ t) (cdA xs ks)<0 then(0,0,false)else if idxQ (cdQ t) (cdA xs ks)<xs.length then(1,idxQ (cdQ t) (cdA xs ks),true)else(2,idxQ (cdQ t) (cdA xs ks)-xs.length,true)
theorem violated73(c:Cel)(h:WfCel c){t:List Nat}(i:InT (auL c.cs) t):PSpec Tryz.prog 73 [cdV (szs c) c.xs c.ks,sliN t] (.tup [.int .i64 (vioV t c.xs c.ks).1,.int .i64 (vioV t c.xs c.ks).2.1,.bool (vioV t c.xs c.ks).2.2,.int .i64 0]):=by
 have d:=@QbP (szs c) c.xs c.ks;refine Zcg 64 TQ.ok73 rfl (by rw[noRefs,noRef,d,noRefs,Qab];rfl) rfl ?_;have h1:=checkT157 c h i;have ho:=Qqk h i;have j:=conds159 (S:=szs c) ho.xn ho.kn;have m:=violated158 ho;have hle:=@QhN _ (cdQ t) (cdA c.xs c.ks);have k:=h.x2;have l:=h.k1;rw[QdY]at hle;unfold vioV;generalize idxQ (cdQ t) (cdA c.xs c.ks)=a at*;show wS _ _ _ _ _ (argT 0 [.agg [sliN (szs c),exs c.xs,cos c.ks],sliN t]) _ _;unfold TQ.s73;refine ZcJ ?_;refine cp h1 ?_;refine ZcJ ?_;refine cp j ?_;refine ZcJ ?_;refine cp m ?_;by_cases f:a<0;·refine ZcK f ?_;exact⟨.inr trivial,_,rfl,rfl⟩
 by_cases g:a<c.xs.length;·refine ZcK (ZcN f g) ?_;exact⟨.inr trivial,_,rfl,rfl⟩
 have hw:wr .i64 (a-(c.xs.length:Int))=a-(c.xs.length:Int):=QfY (by omega) (by omega);refine ZcK (ZcO f g hw) ?_;exact⟨.inr trivial,_,rfl,rfl⟩
end Go.AM.SO
namespace Go.AM.TR
open Go.Proofs
set_option maxHeartbeats 4000000
noncomputable section
def cf:YA.Cf:={most:=.pure,always:=[28,69].map fun k=>(k,.heap)}
def s70:SFn:=by
 refine(?f:YA.Yt Tryz.prog cf 70 [[0,2,3],[8,9,10],[5],[12,13,14,15,11,16,17,18,19,20,21,22],[23],[1,4,5,24,25],[2,3,24,27,28,29,30,31,32,33,34,35,36,26,37,38,39,40,41,42,43],[44],[1,4,5,45,46],[2,3,1,5,45,47,48,49,50,51,52,53,54,55],[56,57,58],[],[62,63,64,65],[6,7,66,67,68,69,70,71,72],[73],[4,59,60,61,74]] [(9,[(4,6)])]) ?s ?h;case h=>exact YA.rr
 exact fun s _=>s
def s160:SFn:=by
 refine(?f:YA.Yt Tryz.prog cf 160 [[2,11,12,13,14,15,16,10,17,18,6],[5],[],[22,23,24],[25,26,27,28],[8,9,29,30,31],[37,38]]) ?s ?h;case h=>exact YA.rr
 exact fun s _=>s
theorem ok70:okFn Tryz.prog 70 s70=true:=by kernel_rfl
theorem ok160:okFn Tryz.prog 160 s160=true:=by kernel_rfl
end
end Go.AM.TR
namespace Go.AM
variable{P:Program}
theorem HRel.give{ok:Okc}{c:Ctx ok}{h:Heap}{w:World}(H:HRel c h w){b g len sz:Nat}{ds:List AV}(A:h.get b=some (.cells g ds))(O:noRefs ds=true)(R:ds.length=len*sz)(B:Nat.blt b 1099511627775=true):∃c2,Evo c w c2 w/\HRel c2 (h.set b (.dead g)) w/\(∀v,VRel c w (.sl b g 0 len sz) v->VRel c2 w (.fsl ds len sz) v)/\∀x v,noRef x=true->VRel c w x v->VRel c2 w x v:=by
 have j:b<1099511627775:=by simp_all
 have a:Live h b g:=⟨_,A,rfl,fun _=>by simp⟩;let c2:Ctx ok:={c with F:=fun k=>c.F k\/∃base,c.ρ b g=some (.loc k base),O:=fun k=>c.O k/\¬∃base,c.ρ b g=some (.loc k base)};have d:∀k,(h.set b (.dead g)).get k=if k=b then some (.dead g)else h.get k:=fun k=>by
  by_cases e:k=b;·subst e;rw[QaA j,if_pos rfl]
  simp_all[QaH]
 have r:∀k y,Live (h.set b (.dead g)) k y->k≠b/\Live h k y:=by
  rintro k y⟨x,hk,Z,z⟩;rw[d]at hk;split at hk;·grind
  rename_i e;exact⟨e,x,hk,Z,z⟩
 have E:=Evo.refl c w;have E2:Evo c w c2 w:=⟨E.os,E.tape,E.output,E.size,E.shape,E.keep,E.rho,fun k hk=>.inl (E.frz k hk),fun k hk=>by
  rcases hk with hk|⟨base,hk⟩;·simp_all
  exact .inr (.inl (H.owned a hk)),fun k hk=>E.own k hk.1,E.base⟩;refine⟨c2,E2,⟨fun k hk y=>?_,fun k x hk y n=>?_,fun k x hk=>?_,fun k y J S s base i l1 G p1 T=>H.inj k y J S s base i (r _ _ l1).2 (r _ _ G).2 p1 T,fun k f hO=>?_,fun k f=>?_,fun k hO=>H.inO k hO.1⟩,fun v V=>?_,fun x v M U=>Zcb (c:=c) (c':=c2) (fun _ h=>.inl h) _ _ M U⟩
 ·rw[d]at hk;split at hk;·cases hk
  exact H.fresh k hk y
 ·rw[d]at hk;split at hk;·rename_i e;subst e;cases hk;exact H.later k _ A y n
  exact H.later k x hk y n
 ·rw[d]at hk;split at hk;·cases hk;trivial
  rename_i e;refine Zca (c:=c) (c':=c2) (w:=w) (w':=w) ⟨fun _ _ _ h=>h,fun _ h=>.inl h,fun _ _ _ h=>h,fun _ C _ F h=>⟨C,F,h,rfl⟩⟩ (fun s base z hp=>?_) (H.blk k x hk);have m:Live h k x.gen:=⟨x,hk,rfl,z⟩;exact⟨⟨H.owned m hp,fun⟨i,t⟩=>e (H.inj _ _ _ _ _ _ _ m a hp t)⟩,rfl⟩
 ·rcases f with f|f;·exact H.disj k f hO.1
  grind
 ·rcases f with f|⟨base,f⟩;·exact H.inF k f
  exact H.inO k (H.owned a f)
 simp only[VRel]at V;rcases V with⟨hp,rfl,_,rfl⟩|⟨s,base,o,cap,C,e,F,hp,rfl,K,X,q⟩;·simp_all[VRel]
 obtain⟨C',e',L,hO,p,N,P,l⟩:=H.here A hp;rw[X]at p;cases p;have f:c2.F s:=.inr ⟨base,hp⟩;by_cases Q:cap=0
 ·have u:len=0:=by omega
  subst u;have:ds=[]:=Zbx (by rw[R];simp);subst this;simp only[VRel];simp_all
 obtain⟨rfl,Y⟩:=q.resolve_left Q;have I:=VPre.noRef2 (c:=c) (c':=c2) (fun _ h=>.inl h) O l;simp only[VRel];grind
theorem HSpec.give1{f b g len sz:Nat}{ds:List AV}{h:Heap}{v:AV}(S:PSpec P f [.fsl ds len sz] v)(j:h.get b=some (.cells g ds))(n:noRefs ds=true)(m:ds.length=len*sz)(d:Nat.blt b 1099511627775=true):HSpec P f [.sl b g 0 len sz] h v (h.set b (.dead g)):=by
 have l:=S;obtain⟨_,_,p,hc,_⟩:=S;refine⟨hc,fun c w a H q=>?_⟩;obtain⟨c2,E2,H2,V2,_⟩:=H.give j n m d;have i:VRels c2 w [.fsl ds len sz] a.toList:=by grind[VRels]
 refine((l.pure H2 i).2).mono ?_;rintro e r⟨k,o,rfl,E,H',V⟩;exact⟨k,o,rfl,E2.trans E,H',V⟩
end Go.AM
namespace Go.AM
variable{P:Program}
def tight(i:Nat)(f:FP):Prop:=f.all=false/\∀b,b∈f.R\/b∈f.W->b∈[i]
def wpRS(P:Program)(z:Nat):Nat->List SOper->Tmps->Heap->(Tmps->Heap->Nat->Prop)->Prop|n,[],T,h,K=>K T h n|n,s::r,T,h,K=>∃v h1 f,StepV P n s T h v h1 f/\(n=z->tight n f)/\wpRS P z (n+1) r (putD T s.dst v) h1 K
theorem Qks{z:Nat}:∀{r:List SOper}{n:Nat}{T:Tmps}{h:Heap}{K:Tmps->Heap->Nat->Prop},z<n->wpR P n r T h K->wpRS P z n r T h K|[],n,T,h,K,_,hk=>hk|s::r,n,T,h,K,d,⟨v,h1,f,a,c⟩=>⟨v,h1,f,a,fun e=>by omega,Qks (by omega) c⟩
theorem Qsr{s:SOper}{K:Tmps->Heap->Nat->Prop}:∀(k:Nat)(r:List SOper)(n:Nat)(T:Tmps)(h:Heap),r[k]?=some s->wpR P n (r.take k) T h (fun T1 h1 g=>∃v a f,StepV P g s T1 h1 v a f/\tight g f/\wpR P (g+1) (r.drop (k+1)) (putD T1 s.dst v) a K)->wpRS P (n+k) n r T h K:=by intro k;induction k with
 |zero=>intro r n T h e hw;cases r with|nil=>cases e|cons t r=>rw[Zbk,Zaa]at e;subst e;rw[List.take_zero]at hw;simp only[wpR]at hw;obtain⟨v,a,f,c,d,i⟩:=hw;rw[Zbe,Za9]at i;exact⟨v,a,f,c,fun _=>d,Qks (by omega) i⟩
 |succ k j=>intro r n T h e hw;cases r with|nil=>cases e|cons t r=>rw[ZaY]at hw;simp only[wpR]at hw;obtain⟨v,h1,f,c,d⟩:=hw;refine⟨v,h1,f,c,fun e=>by omega,?_⟩;rw[show n+(k+1)=n+1+k by omega];exact j r (n+1) _ _ (by simpa using e) d
theorem Qmh{z:Nat}:∀{r:List SOper}{n:Nat}{T:Tmps}{h:Heap}{K:Tmps->Heap->Nat->Prop},wpRS P z n r T h K->∃T' h' n',K T' h' n'/\∀d,(∀s∈r,s.dst≠some d)->lk T' d=lk T d|[],n,T,h,K,hk=>⟨T,h,n,hk,fun _ _=>rfl⟩|s::r,n,T,h,K,⟨v,h1,f,g,_,a⟩=>by obtain⟨T',h',n',hk,he⟩:=Qmh a;refine⟨T',h',n',hk,fun d c=>?_⟩;simp_all[Qbz]
def touch3(z i:Nat)(ax:Opd->Option (List Nat))(s:SOp):Option (List Nat):=bif Nat.beq i z then some [i]else touch2 i ax s
def touchesN(z:Nat)(C:Claims)(n:Nat)(T:Tmps):List SOper->Abs->List (Option (List Nat))|[],_=>[]|s::r,A=>touch3 z n (absO T A) s.op::touchesN z C (n+1) T r (match s.dst with|some d=>(d,absH C d (s.op.absV n (absO T A)))::A|none=>A)
theorem Qmi{T0:Tmps}{C:Claims}{z:Nat}:∀{r:List SOper}{n:Nat}{A:Abs}{T:Tmps}{h:Heap}{K:Tmps->Heap->Nat->Prop}(hA:AbsOK T0 A T)(K':List FP->Tmps->Heap->Nat->Prop)(l:∀T h n,K T h n->∀d bs,clm C d=some bs->Pts (lk T d) bs)(a:ssa C r=true),(∀fs T h n',fs.length=r.length->(∀(j:Nat)i,(touchesN z C n T0 r A).getD j none=some i->(fs.getD j ⟨false,[],[]⟩).all=false/\∀b,b∈(fs.getD j ⟨false,[],[]⟩).R\/b∈(fs.getD j ⟨false,[],[]⟩).W->b∈i)->K T h n'->K' fs T h n')->wpRS P z n r T h K->wpRF P n r T h K'
 |[],n,A,T,h,K,hA,K',l,a,p,hw=>p [] T h n rfl (fun j i c=>by simp_all) hw|s::r,n,A,T,h,K,hA,K',l,a,p,hw=>by
  obtain⟨v,h1,f,t,B,u⟩:=hw;simp only[ssa,Zab]at a;obtain⟨g,m⟩:=a;refine⟨v,h1,f,t,?_⟩;have q:AbsOK T0 (match s.dst with|some d=>(d,absH C d (s.op.absV n (absO T0 A)))::A|none=>A) (putD T s.dst v):=by cases e:s.dst with|none=>exact hA|some d=>
   refine AbsOK.up hA fun bs k=>?_;unfold absH at k;split at k
   ·rename_i x hc;cases k;obtain⟨T',E,n',hk,he⟩:=Qmh u;have w:=l T' E n' hk d _ hc;rw[he d ?_,Qbz,if_pos e]at w;·exact w
    intro F o;rw[e]at g;simp only[hc,Option.isNone_some,Bool.false_or,ZaG]at g;have:=g F o;intro G;simp_all
   exact Qfe hA.opd k t
  refine Qmi q (fun fs T h n=>K' (f::fs) T h n) l m (fun fs T h n' y hf hk=>?_) u;refine p (f::fs) T h n' (by simp[y]) (fun j i c=>?_) hk;cases j with
  |zero=>simp only[touchesN,List.getD_cons_zero]at c⊢;unfold touch3 at c;cases e:Nat.beq n z with|true=>rw[e]at c;simp only[cond_true,Zaa]at c;subst c;exact B (by simpa using e)|false=>rw[e]at c;exact Qf8 hA.opd c t
  |succ j=>simp only[touchesN,List.getD_cons_succ]at c⊢;exact hf j i c
def NewAt(P:Program)(N:NM)(x:Opd)(ag:List Opd)(d:Option Nat)(r:List SOper)(n:Nat)(T:Tmps)(h:Heap)(Q:QC):Prop:=∃f a len sz,ev T x=.fn f [] []/\NSpec P f (evs T ag) a len sz/\noRefs a=true/\n<lim/\h.get n=none/\wR P N r [] [] (n+1) (putD T d (.sl n 0 0 len sz)) (h.set n (.cells 0 a)) Q
theorem QoA(C:Claims)(k:Nat){x:Opd}{ag:List Opd}{d:Option Nat}{N:NM}{ops:List SOper}{p:Nat×Nat}{u:List (Nat×Nat)}{dead:List Nat}{fs:List Fr}{n:Nat}{T:Tmps}{h:Heap}{Q:QC}{af:List Nat}(hk:ops[k]?=some ⟨d,.call .heap x ag,af,none⟩)(i:ssa C ops=true)(hp:pairsOK (touchesN (n+k) C n T ops []) (p::u)=true)(hw:wR P N (ops.take k) [] [] n T h fun e T h n=>NewAt P N x ag d (ops.drop (k+1)) n T h fun e T h n=>Clms T C/\wX P N .normal fs n (rm T dead) h Q):wS P N (.region ops (p::u) dead) fs n T h Q:=by
 have rm0:∀T:Tmps,rm T []=T:=by intro T;induction T with|nil=>rfl|cons p T m=>obtain⟨j,v⟩:=p;simp[rm,m]
 refine Qmi (C:=C) (z:=n+k) (K:=fun T h n=>Clms T C/\wX P N .normal fs n (rm T dead) h Q) AbsOK.nil _ (fun T h n hk d w hc=>hk.1.get d w hc) i (fun M T h U V hf hk=>⟨?_,hk.2⟩) ?_
 ·rw[ZaG];intro q B;have:=ZaG.1 hp q B;split at this
  ·rename_i a b E o;obtain⟨f1,f2⟩:=hf _ _ E;obtain⟨g1,g2⟩:=hf _ _ o;have R:∀x y,x∈a->y∈b->x≠y:=by grind
   have S:∀xs g:List Nat,(∀x∈xs,∀y∈g,x≠y)->disj xs g=true:=by intro xs g t;unfold disj;grind
   grind[FP.apart]
  cases this
 refine Qsr k ops n T h hk ?_;have l:wpR P n (ops.take k) T h fun T h n=>NewAt P N x ag d (ops.drop (k+1)) n (rm T []) h fun e T h n=>Clms T C/\wX P N .normal fs n (rm T dead) h Q:=hw;simp only[rm0]at l;have mono:∀{r:List SOper}{n:Nat}{T:Tmps}{h:Heap}{K K':Tmps->Heap->Nat->Prop},(∀T h n,K T h n->K' T h n)->wpR P n r T h K->wpR P n r T h K':=by intro r;induction r with|nil=>intro n T h K K' hi hw;exact hi _ _ _ hw|cons s r m=>intro n T h K K' hi hw;obtain⟨v,h1,f,z,G⟩:=hw;exact⟨v,h1,f,z,m hi G⟩
 refine mono (fun T1 h1 c t=>?_) l;obtain⟨f,g,len,sz,O,H,J,L,I,F⟩:=t;refine⟨.sl c 0 0 len sz,h1.set c (.cells 0 g),⟨false,[c],[c]⟩,?_,⟨rfl,fun b o=>?_⟩,?_⟩;·refine⟨.call .heap f (evs T1 ag),h1,?_,.inr (.inr (.inl ⟨evs T1 ag,[],.inl ⟨rfl,rfl⟩,.inl ⟨g,len,sz,H,.inr ⟨J,rfl⟩,L,I,rfl,rfl,rfl⟩⟩))⟩;simp_all[aop,aCall,HM.run]
 ·simpa using o
 have A:wpR P (c+1) (ops.drop (k+1)) (putD T1 d (.sl c 0 0 len sz)) (h1.set c (.cells 0 g)) fun T h n=>Clms (rm T []) C/\wX P N .normal fs n (rm (rm T []) dead) h Q:=F;simp_all
end Go.AM
namespace Go.AM.SO
open Go.Proofs Go.AM.SD Go.AM.SE
theorem short25(p:Pln)(h:POk p)(d:p.xn<=9223372036854775807):PSpec Tryz.prog 25 [plnV p] (.bool (decide (p.xn<=4))):=by refine Zcg 64 ok25 rfl (by simp only[noRefs,noRef,SU.Qfq];rfl) rfl ?_;have hlen:=SU.QiX h;have c:=SU.QiY h;have a:(plnC p)[147]?=some (.fsl (u8s p.X) p.xn 4):=SU.QeU h (k:=0);show wS _ _ _ _ _ (argT 0 [.agg (plnC p)]) _ _;generalize plnC p=C at*;have e:decide ((p.xn:Int)<=4)=decide (p.xn<=4):=decide_eq_decide.2 (by omega);unfold s25;refine ZcM (ZcP hlen c a e) ?_;exact⟨.inr trivial,_,rfl,rfl⟩
end Go.AM.SO
namespace Go.AM.SO
open Go.Proofs Go.AM.SD Go.AM.SE
theorem Qql{l:List Aut}{ev:List Nat}:∀{k i:Nat}{s:List (List Nat)×List Ed},(pQ l ev k i s).2.length<=s.2.length+k*ev.length|0,_,s=>by simp[pQ]|k+1,i,s=>by unfold pQ;cases s.1[i]? with|none=>dsimp only;omega|some t=>have h1:=Qql (l:=l) (ev:=ev) (k:=k) (i:=i+1) (s:=pRow l ev i t s);have a:=Qem (l:=l) (i:=i) (t:=t) (ev:=ev) (s:=s);have c:(k+1)*ev.length=k*ev.length+ev.length:=Zbc ..;dsimp only;omega
theorem QdD(x:Aut):autB x x=true:=by simp[autB]
theorem QhO{l:List Aut}(h:∀a∈l,WfI a)(hl:l.length<=5):AOk (syncA l)/\(sync0 l).1.length<=243/\∀t∈(sync0 l).1,t.length<=5:=by
 have hw:∀a∈l,∀e∈a.es,e.1<a.n/\e.2.2<a.n:=fun a ha=>(h a ha).wf.esn;have hpos:∀a∈l,0<a.n:=fun a ha=>(h a ha).pos;have hbox:box l<=243:=Zax (Qqd (fun a ha=>(h a ha).n3) (by omega)) (Nat.pow_le_pow_right (n:=3) (by omega) hl);have hs:=Qrj hpos hw;have h5:=Qi6 h;have he:(sync0 l).2.length<=244*5:=by refine Zax Qql ?_;have:=Nat.mul_le_mul (show box l+1<=244 by omega) h5;simpa using this
 refine⟨⟨by show(evA l).length<=_;omega,?_,by show(sync0 l).2.length<=_;omega⟩,by omega,fun t ht=>?_⟩;·have :=@Qkn l (sync0 l).1 (sync0 l).1.length;show(marks l (sync0 l).1 (sync0 l).1.length).length<=_;omega
 ·have :=((QeW hpos hw).inT t ht).1;omega
end Go.AM.SO
namespace Go.AM.SO
open Go.Proofs Go.AM.SD Go.AM.SE
theorem Qss:allK 72 1 []=true:=by kernel_rfl
theorem Qst:allK 72 2 []=true:=by kernel_rfl
theorem Qsu:allK 72 3 []=true:=by kernel_rfl
theorem key72{c:Cel}(h:WfCel c){t:List Nat}(a:InT (auL c.cs) t):PSpec Tryz.prog 72 [sliN t] (.str (keyT t)):=by have g:=h.c0;have i:=h.c3;have f:=a.1;rw[Qa4]at f;refine QiB (QeX (u:=[]) ?_ fun x d=>a.lt (Qbk h) d);grind[Qss,Qst,Qsu]
def allA(c:Cel):List Aut:=auL c.cs++auL c.rs
theorem QdZ{c:Cel}(h:WfCel c):∀a∈allA c,WfI a:=fun a d=>by
 unfold allA at d;rcases ZaI.1 d with d|d;·exact Qbk h a d
 obtain⟨x,f,rfl⟩:=Zaq.1 d;exact h.ra x f
theorem Qcr{c:Cel}:(allA c).length=c.cs.length+c.rs.length:=by simp[allA]
theorem Qrn:allK 98 3 [0]=true:=by kernel_rfl
theorem Qro:allK 98 3 [1]=true:=by kernel_rfl
theorem Qrp:allK 98 3 [2]=true:=by kernel_rfl
theorem Qqm:allK 98 3 [0,0]=true:=by kernel_rfl
theorem Qqn:allK 98 3 [0,1]=true:=by kernel_rfl
theorem Qqo:allK 98 3 [0,2]=true:=by kernel_rfl
theorem Qqp:allK 98 3 [1,0]=true:=by kernel_rfl
theorem Qqq:allK 98 3 [1,1]=true:=by kernel_rfl
theorem Qqr:allK 98 3 [1,2]=true:=by kernel_rfl
theorem Qqs:allK 98 3 [2,0]=true:=by kernel_rfl
theorem Qqt:allK 98 3 [2,1]=true:=by kernel_rfl
theorem Qqu:allK 98 3 [2,2]=true:=by kernel_rfl
theorem key98w4{a:Nat}(h:a<3):allK 98 3 [a]=true:=by
 obtain rfl|rfl|rfl:a=0\/a=1\/a=2:=by omega
 ·exact Qrn
 ·exact Qro
 exact Qrp
theorem key98w5{a b:Nat}(h:a<3)(c:b<3):allK 98 3 [a,b]=true:=by
 obtain rfl|rfl|rfl:a=0\/a=1\/a=2:=by omega
 ·obtain rfl|rfl|rfl:b=0\/b=1\/b=2:=by omega
  ·exact Qqm
  ·exact Qqn
  exact Qqo
 ·obtain rfl|rfl|rfl:b=0\/b=1\/b=2:=by omega
  ·exact Qqp
  ·exact Qqq
  exact Qqr
 obtain rfl|rfl|rfl:b=0\/b=1\/b=2:=by omega
 ·exact Qqs
 ·exact Qqt
 exact Qqu
theorem Qsv{c:Cel}(h:WfCel c)(t:List Nat)(k:InT (allA c) t):PSpec Tryz.prog 98 [sliN t] (.str (keyT t)):=by
 have n:=h.c0;have m:=h.c3;have l:=h.r2;have j:=k.1;have g:∀x∈t,x<3:=fun x g=>k.lt (QdZ h) g;rw[Qcr]at j;by_cases i:t.length<=3;·grind[key98]
 match t,j,g,i with|[_,_,_],_,_,i=>exact absurd (by simp) i|[a,b,d,e],j,g,_=>exact QiB (QeX (t:=[b,d,e]) (u:=[a]) (key98w4 (g a (by simp))) fun x h=>g x (by simp_all))|[a,b,d,e,f],j,g,_=>exact QiB (QeX (t:=[d,e,f]) (u:=[a,b]) (key98w5 (g a (by simp)) (g b (by simp))) fun x h=>g x (by simp_all))|[],_,_,i=>exact absurd (by simp) i|[_],_,_,i=>exact absurd (by simp) i|[_,_],_,_,i=>exact absurd (by simp) i|_::_::_::_::_::_::_,j,_,_=>simp at j;omega
end Go.AM.SO
namespace Go.AM.SO
open Go.Proofs Go.AM.SD Go.AM.SE
theorem auto69H{ch:UInt8}(l:List (Nat×Aut))(k:l.length<=1000):HSpec Tryz.prog 69 [its ch l] .e (.sl 60 0 0 l.length 4) (hp [(60,.cells 0 ((auL l).flatMap auC))]):=by
 refine HSpec.Qbu 100 TP.ok69 rfl ?_;have j:=@SU.QaD ch l;unfold TP.s69;refine ZcJ ?_;refine Qaq 100 (fun i:Nat=>[(3,.sl 60 0 0 i 4),(6,its ch l),(7,.int .i64 l.length),(8,.int .i64 i)]) (fun i=>[(60,.cells 0 ((auL (l.take i)).flatMap auC))]) (fun i=>i<=l.length) (fun i=>l.length-i) 0 0 160 (fun _:Unit=>[(3,.sl 60 0 0 l.length 4)]) (fun _=>[(60,.cells 0 ((auL l).flatMap auC))]) (fun _=>True) ?_ (Zah _) ?_ ?_;·refine⟨[(60,.nil)],rfl,au0,?_,au24⟩;exact Zco rfl rfl Zcm
 ·rintro i hi;by_cases a:i<l.length
  ·obtain⟨x,h⟩:=Qap a;have c:=SU.Qdk (ch:=ch) h;have d:5<=((l.flatMap (itC ch)).drop (i*5)).length:=by rw[c];simp
   have f:(auL (l.take i)).length=i:=by rw[Qa4,Zas];omega
   have g:((auL (l.take i)).flatMap auC).length=i*4:=by rw[Qgn,f]
   refine ZcM (ZcU a c d g @Qab @Qam @Qac @Qae @Qaf) ?_;refine⟨i+1,by omega,by omega,?_⟩;rw[take_succ' h];show Rec _ _ [(60,.cells 0 ((List.map (fun x:Nat×Aut=>x.2) (l.take i++[x])).flatMap auC))] _ _;rw[ZaL,Zan,Qqi];refine⟨[(60,.blk 60 1)],rfl,au0,?_,au24⟩;exact Zcn rfl rfl gg (Zce (SU.Qax (Qa0 _) (Qa0 [x.2]))) Zcm
  have e:i=l.length:=by omega
  subst e;refine ZcI a ?_;refine⟨(),?_⟩;refine⟨[(60,.blk 60 0)],rfl,au0,?_,au24⟩;exact Zcn rfl rfl gg (Zce (Qa0 _)) Zcm
 rintro _ _;refine ZcJ ?_;refine⟨.inr trivial,_,rfl,?_⟩;refine⟨[(60,.blk 60 0)],rfl,au0,?_,au24⟩;exact Zcn rfl rfl gg (Zce (Qa0 _)) Zcm
theorem Qrq(c:Cel)(h:WfCel c):PSpec Tryz.prog 28 [auts (allA c)] (.tup [aV (syncA (allA c)),tuV (sync0 (allA c)).1,.int .i64 0]):=by have f:=h.c0;have d:=h.c3;have a:=h.r2;exact sync28 (allA c) (QdZ h) (by rw[Qcr];omega) (by rw[Qcr];omega) (Qsv h)
abbrev stG(c:Cel)(p q:Aut)(P T:List (List Nat)):List AV:=[evsV c.ev,its 99 c.cs,its 114 c.rs,exs c.xs,cos c.ks,sliN p.al,.int .i64 (p.n:Int),sliN p.ms,egsN p.es,tuV P,sliN q.al,.int .i64 (q.n:Int),sliN q.ms,egsN q.es,tuV T,sliN (szs c),exs c.xs,cos c.ks,fmapG keyC (ixV P) P]
def stC(c:Cel):List AV:=stG c (syncA (auL c.cs)) (syncA (allA c)) (sync0 (auL c.cs)).1 (sync0 (allA c)).1
abbrev stP(c:Cel)(p q:Aut)(P T:List (List Nat)):List AV:=[evsV c.ev,its 99 c.cs,its 114 c.rs,exs c.xs,cos c.ks,sliN p.al,.int .i64 (p.n:Int),sliN p.ms,egsN p.es,tuV P,sliN q.al,.int .i64 (q.n:Int),sliN q.ms,egsN q.es,tuV T,sliN (szs c),exs c.xs,cos c.ks]
theorem Qfy(c:Cel)(p q:Aut)(P T:List (List Nat)):noRefs (stP c p q P T)=true:=by have h1:=SU.Qbc c;rw[celV,noRef]at h1;simp only[noRefs,Zab,Zac]at h1;obtain⟨a,a2,a3,a4,a5⟩:=h1;simp only[noRefs,a,a2,a3,a4,a5,Qab,Qam,QbH];rfl
theorem Qex(c:Cel)(p q:Aut)(P T:List (List Nat)):noRefs (stG c p q P T)=true:=by have h1:=SU.Qbc c;rw[celV,noRef]at h1;simp only[noRefs,Zab,Zac]at h1;obtain⟨a,a2,a3,a4,a5⟩:=h1;simp only[noRefs,a,a2,a3,a4,a5,Qab,Qam,QbH];rw[show noRef (fmapG keyC (ixV P) P)=true by rw[fmapG,noRef,Qav (fun _=>rfl),Qav (fun _=>rfl)];rfl];rfl
theorem open70(c:Cel)(h:WfCel c):PSpec Tryz.prog 70 [celV c] (.tup [.fptr (stC c),.int .i64 0]):=by
 have B:=QbS c;have w:noRef (.tup [.fptr (stC c),.int .i64 0])=true:=by rw[noRef,noRefs,noRef,stC,Qex];rfl
 refine Zcf 64 TR.ok70 rfl (by rw[noRefs,SU.Qbc];rfl) w ?_;have J:=h.c3;have z:=h.r2;have I:=plant17 c h;have hA:=auto69H (ch:=99) c.cs (by omega);have G:=automata69 (ch:=114) c.rs (by omega);have y:=Qrq c h;have F:=conds85 c h;have d:=QeW (fun a r=>(Qbk h a r).pos) fun a r=>(Qbk h a r).wf.esn;have C:=QhO (Qbk h) (by rw[Qa4];omega);have l:=QbH (sync0 (auL c.cs)).1;have m:((auL c.cs).flatMap auC).length=c.cs.length*4:=by rw[Qgn,Qa4]
 have n:((auL c.rs).flatMap auC).length=c.rs.length*4:=by rw[Qgn,Qa4]
 have s:(auL c.rs).length=c.rs.length:=Qa4;have j:((auL c.rs).flatMap auC).all AV.one=true:=Qfr (fun _=>rfl) _;have u:PSpec Tryz.prog 28 [.fsl ((auL c.cs).flatMap auC++(auL c.rs).flatMap auC) (c.cs.length+c.rs.length) 4] (.tup [aV (syncA (allA c)),tuV (sync0 (allA c)).1,.int .i64 0]):=by rw[<-Zan,<-Qcr];exact y
 clear y;rw[stC];generalize syncA (auL c.cs)=p at*;generalize syncA (allA c)=q at*;generalize(sync0 (auL c.cs))=E at*;generalize(sync0 (allA c)).1=T at*;obtain⟨P,es⟩:=E;dsimp only at*;unfold TR.s70;refine ZcJ ?_;refine cp I ?_;refine ZcJ ?_;refine QoA [] 4 (x:=.f 69) (ag:=[.t 30]) (d:=some 31) rfl rfl rfl ?_;refine ZcJ ?_;refine⟨69,(auL c.cs).flatMap auC,c.cs.length,4,rfl,⟨hA.1,by show noRefs [its 99 c.cs]=true;rw[noRefs,SU.QaD];rfl,60,0,0,_,_,rfl,Zah _,gg,hA⟩,Qa0 _,by decide,gg,?_⟩;refine ZcJ ?_;refine ch (PSpec.toH G _) ?_;refine ZcK (ZcP m n s j) ?_;refine ch (HSpec.give1 (g:=1) u gg (SU.Qax (Qa0 _) (Qa0 _)) (by rw[Zae,m,n];omega) rfl) ?_;refine ZcJ ?_;refine⟨trivial,?_⟩;refine cp F ?_;refine ZcJ ?_;refine Qaq 200 (fun i:Nat=>[(4,.ptr 52 0 0),(59,tuV P),(60,.int .i64 P.length),(61,.int .i64 i)]) (fun i=>[(52,.cells 0 [evsV c.ev,its 99 c.cs,its 114 c.rs,exs c.xs,cos c.ks,sliN p.al,.int .i64 (p.n:Int),sliN p.ms,egsN p.es,tuV P,sliN q.al,.int .i64 (q.n:Int),sliN q.ms,egsN q.es,tuV T,sliN (szs c),exs c.xs,cos c.ks,.map 53 0]),(53,.map 0 (mapG keyC (ixV P) (P.take i)))]) (fun i=>i<=P.length) (fun i=>P.length-i) 0 0 260 (fun _:Unit=>[(4,.ptr 52 0 0)]) (fun _=>[(52,.cells 0 [evsV c.ev,its 99 c.cs,its 114 c.rs,exs c.xs,cos c.ks,sliN p.al,.int .i64 (p.n:Int),sliN p.ms,egsN p.es,tuV P,sliN q.al,.int .i64 (q.n:Int),sliN q.ms,egsN q.es,tuV T,sliN (szs c),exs c.xs,cos c.ks,fmapG keyC (ixV P) P])]) (fun _=>True) ?_ (Zah _) ?_ ?_;·refine⟨[(52,.blk 69 0),(53,.blk 116 0)],rfl,RO.set rfl (RO.set rfl Zcj),?_,Zcl (Rn.x2 rfl rfl) (Zcl (Zcd l) au24)⟩;exact Zcn rfl rfl gg (RnL.append (xs:=stP c p q P T) (ys:=stP c p q P T) (Zce (Qfy c p q P T)) (RnL.one (Rn.x3 rfl rfl))) (Zcp rfl rfl gg (ZcC fun _ _=>⟨rfl,rfl⟩) Zcm)
 ·rintro i hi;by_cases f:i<P.length
  ·obtain⟨t,k⟩:=Qap f;have g:=d.inT t (Zaf k);have hk:=key72 h g;have o:t∉P.take i:=fun hm=>by have z:ixT (P.take i) t=i:=(QgB (List.take_prefix i P) hm).trans (Qqh d.nd k);have A:=QiC hm;rw[z,Zas]at A;omega
   have v:updG (ixV P) t (.int .i64 ((i:Nat):Int))=ixV P:=by
    funext x;unfold updG;split;·rename_i e;subst e;unfold ixV;rw[Qqh d.nd k]
    rfl
   refine ZcK (ZcN f (QnS k)) ?_;refine cp hk ?_;refine ZcJ ?_;refine Qcp (c:=keyC) (f:=ixV P) (x:=t) (l:=P.take i) (g:=0) gg (Qgo (Qbk h) g fun x H=>d.inT x (ZaP H)) o (by omega) ?_;rw[v];refine ZcJ ?_;refine⟨i+1,by omega,by omega,?_⟩;rw[take_succ' k];refine⟨[(52,.blk 52 0),(53,.blk 53 0)],rfl,Zcj,?_,Zcl (Rn.x2 rfl rfl) (Zcl (Zcd l) au24)⟩;exact Zcn rfl rfl gg (RnL.append (xs:=stP c p q P T) (ys:=stP c p q P T) (Zce (Qfy c p q P T)) (RnL.one (Rn.x3 rfl rfl))) (Zcp rfl rfl gg (ZcC fun _ _=>⟨rfl,rfl⟩) Zcm)
  have e:i=P.length:=by omega
  subst e;refine ZcI f ?_;refine⟨(),[(52,.blk 52 0)],rfl,Zcj,?_,Zcl (Rn.x2 rfl rfl) Zck⟩;exact Zcn rfl rfl gg (RnL.append (xs:=stP c p q P T) (ys:=stP c p q P T) (Zce (Qfy c p q P T)) (RnL.one (Rn.fzM (b:=53) (g:=0) gg rfl rfl fun _ _=>⟨rfl,rfl⟩))) Zcm
 rintro _ _;refine ZcJ ?_;refine⟨.inr trivial,_,rfl,?_⟩;refine Rn.tup (Zct ?_ (Zce rfl));exact Rn.frzp (b:=52) (g:=0) rfl (Zah _) (fun K L _ e=>by simp[π0]at e) (by simp) (Zce (Qex c p q P T))
end Go.AM.SO
namespace Go.AM.SO
open Go.Proofs Go.AM.SD Go.AM.SE
structure WfB(a:Aut):Prop extends WfA a where
 a5:∀x∈a.al,x<5
 nb:a.n<=243
theorem WfI.b{a:Aut}(h:WfI a):WfB a:=⟨h.wf,h.a5,by have:=h.n3;omega⟩
theorem WfB.el{a:Aut}(h:WfB a):a.es.length<=1220:=by have:=WfA.elK h.toWfA h.a5;have:=h.nb;omega
theorem check112B(a:Aut)(h:WfB a):PSpec Tryz.prog 112 [aV a] (.int .i64 0):=check112 a h.toWfA (by have:=h.el;omega)
theorem Qi8{l:List Aut}{ev:List Nat}{T:List (List Nat)}{j:Nat}{t:List Nat}{x:Ed}(h:x∈rowE l ev T j t):x.1=j/\x.2.1∈ev/\∃n,stepT l t x.2.1=some n/\x.2.2=ixT T n:=by unfold rowE at h;obtain⟨e,he,a⟩:=ZbH.1 h;cases c:stepT l t e with|none=>rw[c]at a;cases a|some n=>rw[c]at a;simp only[Zbv,Zaa]at a;subst a;exact⟨rfl,he,n,c,rfl⟩
theorem Qhe{l:List Aut}{T:List (List Nat)}{j:Nat}{t:List Nat}:∀{ev:List Nat},ev.Pairwise (·<·)->(rowE l ev T j t).Pairwise fun x y=>x.1<y.1\/(x.1=y.1/\x.2.1<y.2.1)|[],_=>by simp[rowE]|e::ev,h=>by rw[Zaz]at h;have a:=Qhe (l:=l) (T:=T) (j:=j) (t:=t) h.2;unfold rowE at a⊢;rw[ZbB];cases f:stepT l t e with|none=>exact a|some n=>simp only[Zbv];rw[Zaz];refine⟨fun y d=>?_,a⟩;obtain⟨h1,c,_⟩:=Qi8 (l:=l) (T:=T) (j:=j) (t:=t) (ev:=ev) (by unfold rowE;exact d);exact .inr ⟨h1.symm,h.1 _ c⟩
theorem Qhf{f:Nat->List Ed}(hf:∀j,(f j).Pairwise (fun x y=>x.1<y.1\/(x.1=y.1/\x.2.1<y.2.1))/\∀x∈f j,x.1=j):∀i,((List.range i).flatMap f).Pairwise fun x y=>x.1<y.1\/(x.1=y.1/\x.2.1<y.2.1)|0=>by simp|i+1=>by rw[ZaH,Zan,Zav,Zb4,Zao,Zbb];refine⟨Qhf hf i,(hf i).1,fun x a y d=>?_⟩;obtain⟨j,c,a⟩:=Zby.1 a;have:=Zau.1 c;rw[(hf j).2 x a,(hf i).2 y d];exact .inl this
theorem Qfz{l:List Aut}(h:∀a∈l,WfI a)(z:l.length<=5):WfB (syncA l):=by
 have hw:∀a∈l,∀e∈a.es,e.1<a.n/\e.2.2<a.n:=fun a f=>(h a f).wf.esn;have i:∀a∈l,0<a.n:=fun a f=>(h a f).pos;have p:=Qkl i hw;obtain⟨ho,c,_⟩:=QhO h z;have g:∀e∈(sync0 l).2,e.2.1∈evA l/\e.1<(sync0 l).1.length/\e.2.2<(sync0 l).1.length:=fun e he=>by rw[p.ed]at he;obtain⟨j,m,he⟩:=Zby.1 he;have m:=Zau.1 m;obtain⟨h1,r,n,u,w⟩:=Qi8 he;obtain⟨t,v⟩:=Qap m;rw[Zak,v]at u;have hm:=p.cl j t m v _ r n u;exact⟨r,by omega,by rw[w];exact QiC hm⟩
 have s:∀x∈evA l,x<5:=fun x d=>by
  have k:x∈uUp (l.map fun a=>(0,a)):=by rw[<-QgA];exact d
  rw[Qgy fun y q=>by obtain⟨a,f,rfl⟩:=Zaq.1 q;exact h a f]at k;obtain⟨y,q,o⟩:=k;obtain⟨a,f,rfl⟩:=Zaq.1 q;exact(h a f).a5 x o
 refine⟨⟨Qiy h,fun x d=>by have:=s x d;omega,Zax c (by decide),?_,fun x d=>?_,?_,fun e he=>⟨(g e he).2.1,(g e he).2.2⟩,fun e he=>(g e he).1⟩,s,c⟩;·exact List.pairwise_lt_range.filter _
 ·exact Zau.1 (Zbq.1 d).1
 show(sync0 l).2.Pairwise _;rw[p.ed];exact Qhf (fun j=>⟨Qhe (Qiy h),fun x d=>(Qi8 d).1⟩) _
theorem out199(a:Aut)(v:Nat)(h:WfB a)(c:v<=1000):PSpec Tryz.prog 199 [aV a,.int .i64 (v:Int)] (egsN (sOut a.es (fun _=>true) v)):=out58 a v h.toWfA (by have:=h.el;omega) (by omega)
end Go.AM.SO
namespace Go.AM.SO
open Go.Proofs Go.AM.SD Go.AM.SE
theorem state207(a:Aut)(v:Nat)(h:WfB a)(c:v<a.n):PSpec Tryz.prog 207 [aV a,.int .i64 (v:Int)] (.int .i64 0):=by
 refine Zcg 64 TQ.ok207 rfl (by(try simp only[noRefs,Qaa,Qaj,Qad,noRef,noRefs,Zad,Zac])<;>rfl) rfl ?_;have hc:=check112B a h;have g1:¬(v:Int)<0:=by omega
 have g2:¬(a.n:Int)<=(v:Int):=by omega
 unfold TQ.s207;refine ZcJ ?_;refine cp hc ?_;refine ZcK (ZcN g1 g2) ?_;exact⟨.inr trivial,_,rfl,rfl⟩
def evO(a:Aut)(v:Nat):List Nat:=(sOut a.es (fun _=>true) v).map (·.2.1)
theorem enabled161(a:Aut)(v:Nat)(h:WfB a)(l:v<a.n):PSpec Tryz.prog 161 [aV a,.int .i64 (v:Int)] (.tup [sliN (evO a v),.int .i64 0]):=by
 have m:=h.nb;have c:noRef (.tup [sliN (evO a v),.int .i64 0])=true:=by rw[noRef,noRefs,Qab];rfl
 refine Zcf 64 TQ.ok161 rfl (by(try simp only[noRefs,Qaa,Qaj,Qad,noRef,noRefs,Zad,Zac])<;>rfl) c ?_;have hc:=state207 a v h l;have ho:=out199 a v h (by omega);have k:(sOut a.es (fun _=>true) v).length<=1220:=Zax (Za4 ..) h.el;unfold evO at c⊢;generalize sOut a.es (fun _=>true) v=o at*;unfold TQ.s161;refine ZcJ ?_;refine cp hc ?_;refine ZcJ ?_;refine cp ho ?_;refine ZcJ ?_;refine Qaq 120 (fun i:Nat=>[(7,.sl 60 0 0 i 1),(18,egsN o),(19,.int .i64 o.length),(20,.int .i64 i)]) (fun i=>[(60,.cells 0 (ints (nz ((o.take i).map (·.2.1)))))]) (fun i=>i<=o.length) (fun i=>o.length-i) 0 0 180 (fun _:Unit=>[(7,sliN (o.map (·.2.1)))]) (fun _=>[]) (fun _=>True) ?_ (Zah _) ?_ ?_;·refine⟨[(60,.nil)],rfl,au0,?_,au24⟩;exact Zco rfl rfl Zcm
 ·rintro i hi;by_cases d:i<o.length
  ·obtain⟨e,he⟩:=Qap d;have f:=QaB he;have g:3<=((o.flatMap edC).drop (i*3)).length:=by rw[f];simp
   have j:(ints (nz ((o.take i).map (·.2.1)))).length=i:=by simp[ints];omega
   refine ZcK (ZcP d f g j) ?_;refine⟨i+1,by omega,by omega,?_⟩;rw[take_succ' he,ZaL,QaF,Qaw];refine⟨[(60,.blk 60 1)],rfl,au0,?_,au24⟩;exact Zcn rfl rfl gg (Zce (SU.Qax (Qaa _) rfl)) Zcm
  have e:i=o.length:=by omega
  subst e;refine ZcI d ?_;exact⟨(),[],rfl,Zcj,Zcm,Zcl (Zcu (b:=60) (g:=0) gg rfl rfl (by simp) (by simp[ints]) (Zce (Qaa _))) Zck⟩
 rintro _ _;refine ZcJ ?_;exact⟨.inr trivial,_,rfl,Zcd c⟩
theorem ev262(x:Ed)(e:Nat):PSpec Tryz.prog 262 [.agg [.int .i64 (x.1:Int),.int .i64 (x.2.1:Int),.int .i64 (x.2.2:Int)],.fptr [.int .i64 (e:Int)]] (.bool (decide (x.2.1=e))):=by refine Zcg 64 TQ.ok262 rfl rfl rfl ?_;have a:decide ((x.2.1:Int)=(e:Int))=decide (x.2.1=e):=decide_eq_decide.2 (by omega);unfold TQ.s262;refine ZcK a ?_;exact⟨.inr trivial,_,rfl,rfl⟩
theorem Qmj{α:Type}{q:α->Bool}:∀l:List α,l.find? q=l[l.findIdx q]?|[]=>rfl|x::l=>by rw[List.find?_cons,List.findIdx_cons];cases q x with|true=>rfl|false=>simpa using Qmj l
def nxI(a:Aut)(v e:Nat):Int:=match stepA a.es v e with|some t=>(t:Int)|none=>-1
theorem Qqv(es:List Ed)(v e:Nat):stepA es v e=((sOut es (fun _=>true) v).find? fun x=>decide (x.2.1=e)).map (·.2.2):=by unfold stepA sOut;rw[List.find?_filter];congr 2;funext x;by_cases h:x.2.1=e<;>by_cases a:x.1=v<;>simp[h,a]
theorem next226(a:Aut)(v e:Nat)(h:WfB a)(p:v<a.n):PSpec Tryz.prog 226 [aV a,.int .i64 (v:Int),.int .i64 (e:Int)] (.int .i64 (nxI a v e)):=by
 have q:=h.nb;refine Zcg 64 TQ.ok226 rfl (by(try simp only[noRefs,Qaa,Qaj,Qad,noRef,noRefs,Zad,Zac])<;>rfl) rfl ?_;have ho:=out199 a v h (by omega);have j:(sOut a.es (fun _=>true) v).length<=1220:=Zax (Za4 ..) h.el;have m:=index48 (K:=262) (cap:=[.fptr [.int .i64 (e:Int)]]) (fun x=>decide (x.2.1=e)) (sOut a.es (fun _=>true) v) (by omega) rfl fun x _=>ev262 x e;unfold nxI;rw[Qqv];generalize sOut a.es (fun _=>true) v=o at*;rw[Qmj];have r:=@QhN _ (fun x:Ed=>decide (x.2.1=e)) o;have l:idxQ (fun x:Ed=>decide (x.2.1=e)) o=-1/\o[o.findIdx fun x=>decide (x.2.1=e)]?=none\/∃y,idxQ (fun x:Ed=>decide (x.2.1=e)) o=((o.findIdx fun x=>decide (x.2.1=e):Nat):Int)/\o[o.findIdx fun x=>decide (x.2.1=e)]?=some y:=by
  unfold idxQ;by_cases d:o.any (fun x=>decide (x.2.1=e))=true;·rw[if_pos d];obtain⟨y,n⟩:=Qap (Zbj (p:=fun x:Ed=>decide (x.2.1=e)) (xs:=o) (by simpa using d));exact .inr ⟨y,rfl,n⟩
  rw[if_neg d];refine .inl ⟨rfl,Zat (Nat.le_of_not_lt fun c=>d ?_)⟩;rw[List.any_eq_true];exact⟨_,List.getElem_mem c,List.findIdx_getElem (w:=c)⟩
 generalize(o.findIdx fun x=>decide (x.2.1=e))=k at*;generalize idxQ (fun x:Ed=>decide (x.2.1=e)) o=i at*;unfold TQ.s226;refine ZcJ ?_;refine cp ho ?_;refine ZcJ ?_;refine SU.chc (Zcx (ZcA (Zch _) (ZcA (FrzTo.fn Zcz (ZcA (FrzTo.ptr (g:=0) (cs:=[.int .i64 (e:Int)]) gg (Zci _)) Zcz)) Zcz)) m rfl) ?_;rcases l with⟨rfl,hk⟩|⟨y,rfl,hk⟩;·refine ZcJ ?_;rw[hk];exact⟨.inr trivial,_,rfl,rfl⟩
 have g:k<o.length:=(Zam.1 hk).1;have g1:¬(k:Int)<0:=by omega
 have f:=QaB hk;refine ZcK (ZcO g1 g f) ?_;rw[hk];exact⟨.inr trivial,_,rfl,rfl⟩
theorem step208(a:Aut)(v e:Nat)(h:WfB a)(d:v<a.n)(he:e∈a.al):PSpec Tryz.prog 208 [aV a,.int .i64 (v:Int),.int .i64 (e:Int)] (.tup [.int .i64 (((stepA a.es v e).getD 0:Nat):Int),.bool (stepA a.es v e).isSome,.int .i64 0]):=by refine Zcg 64 TQ.ok208 rfl (by(try simp only[noRefs,Qaa,Qaj,Qad,noRef,noRefs,Zad,Zac])<;>rfl) rfl ?_;have i:=Qa3 h.al h.al5;have hc:=state207 a v h d;have f:=contains62 (nz a.al) (e:Int) (by simp;omega);have hm:decide ((e:Int)∈nz a.al)=true:=decide_eq_true (Zaq.2 ⟨e,he,rfl⟩);rw[hm,Qbi]at f;have c:=next226 a v e h d;unfold nxI at c;unfold TQ.s208;refine ZcJ ?_;refine cp hc ?_;refine ZcJ ?_;refine cp f ?_;refine ZcJ ?_;refine cp c ?_;cases j:stepA a.es v e with|none=>refine ZcJ ?_;exact⟨.inr trivial,_,rfl,rfl⟩|some t=>
 have g:(0:Int)<=(t:Int):=by omega
 refine ZcK g ?_;exact⟨.inr trivial,_,rfl,rfl⟩
end Go.AM.SO
namespace Go.AM.SO
open Go.Proofs Go.AM.SD Go.AM.SE
theorem QdG(c:Cel):noRef (.fptr (stC c))=true:=by rw[noRef,stC];exact Qex _ _ _ _ _
theorem Qsw{t:List Nat}{n:Nat}:(ints (nz t)).take n=ints (nz (t.take n)):=by simp[ints,nz,List.map_take]
theorem Qrr{t:List Nat}{n:Nat}:(ints (nz t)).drop n=ints (nz (t.drop n)):=by simp[ints,nz,List.map_drop]
theorem QmT{cs:List AV}{len sz:Nat}{k c:IntKind}{b m:Int}(h:0<b):aSliceC (some sz) (.fsl cs len sz) none (some (.int k b)) (some (.int c m))=if b<=m/\m<=len then some (.fsl (cs.take (b.toNat*sz)) b.toNat sz)else none:=by
 have e:¬((0:Int)=0/\b=0/\m=0):=by omega
 have a:(0:Int)<=b:=by omega
 simp only[aSliceC,if_true,aSlice,bnd,Int.le_refl,true_and,a,Int.toNat_zero,Nat.zero_mul,Za9,Nat.sub_zero];rw[if_neg (by omega)]
theorem split71(c:Cel)(t:List Nat)(l:0<c.cs.length)(h:c.cs.length<=t.length):PSpec Tryz.prog 71 [.fptr (stC c),sliN t] (.tup [sliN (t.take c.cs.length),sliN (t.drop c.cs.length)]):=by
 have a:noRef (.tup [sliN (t.take c.cs.length),sliN (t.drop c.cs.length)])=true:=by rw[noRef,noRefs,noRefs,Qab,Qab];rfl
 refine Zcf 64 TQ.ok71 rfl (by rw[noRefs,QdG,noRefs,Qab];rfl) a ?_;have j:=QdG c;rw[stC]at j⊢;generalize syncA (auL c.cs)=p at*;generalize syncA (allA c)=q at*;generalize(sync0 (auL c.cs)).1=P at*;generalize(sync0 (allA c)).1=T at*;have hle:(c.cs.length:Int)<=(t.length:Int):=by omega
 have g:(0:Int)<(c.cs.length:Int):=by omega
 have f:(t.drop c.cs.length).take (t.length-c.cs.length)=t.drop c.cs.length:=ZaT (by rw[Za6];exact ZaO _);have d:min c.cs.length t.length=c.cs.length:=Nat.min_eq_left h;unfold TQ.s71;refine ZcK (ZcQ hle @QmT @Qsw @Qrr f) ?_;refine⟨.inr trivial,_,rfl,?_⟩;have k:sliN (t.take c.cs.length)=.fsl (ints (nz (t.take c.cs.length))) c.cs.length 1:=by rw[sliN,Zas,d]
 have i:sliN (t.drop c.cs.length)=.fsl (ints (nz (t.drop c.cs.length))) (t.length-c.cs.length) 1:=by rw[sliN,Za6]
 rw[k,i]at a⊢;exact Zcd a
def rfQ(c:Cel)(r:List Nat)(e:Nat)(i:Nat):Bool:=match c.rs[i]? with|some y=>y.2.al.contains e&&(stepA y.2.es (r.getD i 0) e).isNone|none=>false
def rfI(c:Cel)(r:List Nat)(e:Nat):Int:=idxQ (rfQ c r e) (List.range c.rs.length)
theorem _root_.Go.AM.au26{p:Prop}(h:p:=by repeat'(first|exact Zcm|(refine Zce ?_;first|rfl|(simp only[noRef,noRefs,Qag,Zad,Zac,Zag,Qaa,Qan,Qab,Qam,Qa0,Qad,SU.Qbo];done))|exact Zcy rfl|exact Zcs|exact(True.intro:RnM _ _ _ [] [])|refine Zct ?_ ?_|(refine Zcd ?_;first|rfl|(simp only[noRef,noRefs,Qag,Zad,Zac,Zag,Qaa,Qan,Qab,Qam,Qa0,Qad,SU.Qbo];done))|exact Rn.x1 rfl rfl|exact Rn.x2 rfl rfl|exact Rn.x3 rfl rfl|exact Rn.x4 rfl rfl|exact Rn.x5 rfl|exact Rn.x6 rfl|exact Rn.x7 rfl|refine Zco rfl rfl ?_|refine Zcn rfl rfl rfl ?_ ?_|refine Zcp rfl rfl rfl ?_ ?_|refine Zcq rfl rfl ?_ ?_|refine Zcr rfl rfl ?_ ?_)):p:=h
theorem refuser162(c:Cel)(hw:WfCel c)(r:List Nat)(e:Nat)(J:r.length=c.rs.length)(hrn:∀(i:Nat)y,c.rs[i]?=some y->r.getD i 0<y.2.n):PSpec Tryz.prog 162 [.fptr (stC c),sliN r,.int .i64 (e:Int)] (.int .i64 (rfI c r e)):=by
 refine Zcg 64 TQ.ok162 rfl (by rw[noRefs,QdG,noRefs,Qab];rfl) rfl ?_;have G:=hw.r2;rw[stC];generalize syncA (auL c.cs)=p at*;generalize syncA (allA c)=q at*;generalize(sync0 (auL c.cs)).1=P at*;generalize(sync0 (allA c)).1=T at*;have h:=@SU.QaD 114 c.rs;unfold TQ.s162;refine ZcJ ?_;refine Qaq 100 (fun i:Nat=>[(1,sliN r),(2,.int .i64 (e:Int)),(16,its 114 c.rs),(17,.int .i64 c.rs.length),(18,.int .i64 i)]) (fun _=>[]) (fun i=>i<=c.rs.length/\∀(j:Nat)y,j<i->(List.range c.rs.length)[j]?=some y->rfQ c r e y=false) (fun i=>c.rs.length-i) 0 0 200 (fun _:Unit=>[]) (fun _=>[]) (fun _=>∀x∈List.range c.rs.length,rfQ c r e x=false) ?_ ⟨Zah _,fun j y F=>absurd F (ZaD _)⟩ ?_ ?_;·exact⟨[],rfl,Zcj,Zcm,Zcl (Zcd (Qab _)) (Zcl (Zcd rfl) (Zcl (Zcd h) au24))⟩
 ·rintro i⟨hi,w⟩;by_cases d:i<c.rs.length
  ·obtain⟨x,l⟩:=Qap d;have g:=hw.ra x (Zaf l);have k:=SU.Qdk (ch:=114) l;have A:5<=((c.rs.flatMap (itC 114)).drop (i*5)).length:=by rw[k];simp
   have z:i<r.length:=by omega
   obtain⟨v,E⟩:=Qap z;have s:r.getD i 0=v:=by rw[Zak,E];rfl
   have o:=hrn i x l;rw[s]at o;have f:(List.range c.rs.length)[i]?=some i:=by simp[d]
   have B:=has189 x.2.al e g.wf.al (by have:=Qgj g.wf;omega);have a:rfQ c r e i=(x.2.al.contains e&&(stepA x.2.es v e).isNone):=by unfold rfQ;rw[l];dsimp only;rw[s]
   have n:∀q:rfQ c r e i=false,i+1<=c.rs.length/\∀(j:Nat)y,j<i+1->(List.range c.rs.length)[j]?=some y->rfQ c r e y=false:=fun q=>⟨by omega,fun j y F C=>by
    by_cases I:j=i;·subst I;rw[f]at C;cases C;exact q
    exact w j y (by omega) C⟩;cases u:x.2.al.contains e;·rw[u,Zbl]at a;rw[u]at B;refine ZcK (ZcO d k A) ?_;refine cp B ?_;refine ZcJ ?_;refine⟨i+1,by omega,n a,?_⟩;exact⟨[],rfl,Zcj,Zcm,Zcl (Zcd (Qab _)) (Zcl (Zcd rfl) (Zcl (Zcd h) au24))⟩
   have H:=step208 x.2 v e g.b o (List.contains_iff_mem.1 u);rw[u,Zag]at a;rw[u]at B;refine ZcK (ZcO d k A) ?_;refine cp B ?_;refine ZcK (ZcN z (QaJ E)) ?_;refine cp H ?_;cases m:stepA x.2.es v e with|none=>rw[m]at a;refine ZcJ ?_;refine⟨.inr trivial,_,rfl,?_⟩;unfold rfI;rw[QeV f a w];rfl|some t=>rw[m]at a;refine ZcJ ?_;refine⟨i+1,by omega,n a,?_⟩;exact⟨[],rfl,Zcj,Zcm,Zcl (Zcd (Qab _)) (Zcl (Zcd rfl) (Zcl (Zcd h) au24))⟩
  refine ZcK d ?_;refine⟨(),fun x l=>?_,⟨[],rfl,au0,au26,au24⟩⟩;have:=Zau.1 l;exact w x x (by omega) (by simp[this])
 rintro _ w;refine ZcJ ?_;refine⟨.inr trivial,_,rfl,?_⟩;unfold rfI;rw[QdF w];rfl
def rfF(c:Cel)(k:Nat)(r:List Nat):AV:=.fn 160 [] [.fptr [.fptr (stC c)],.fptr [.int .i64 (k:Int)],.fptr [sliN r]]
theorem Qgp(c:Cel)(k:Nat)(r:List Nat):noRef (rfF c k r)=true:=by have:=QdG c;rw[noRef]at this;simp only[rfF,noRef,noRefs,Qaa,this];rfl
theorem refused74(c:Cel)(k:Nat)(r:List Nat):PSpec Tryz.prog 74 [.fptr (stC c),.int .i64 (k:Int),sliN r] (rfF c k r):=by
 have a:=QdG c;refine Zcf 64 TQ.ok74 rfl (by rw[noRefs,a,noRefs,noRefs,Qab];rfl) (Qgp _ _ _) ?_;unfold rfF;have g:(AV.fptr (stC c)).boxable=true:=rfl;have hc:(AV.fptr (stC c)).cells=[.fptr (stC c)]:=rfl;have ho:(AV.fptr (stC c)).one=true:=rfl;generalize AV.fptr (stC c)=S at*;unfold TQ.s74;refine ZcK (ZcO g hc ho) ?_;refine⟨.inr trivial,_,rfl,?_⟩;refine Rn.fn Zcs (Zct (Rn.frzp (b:=64) (g:=0) rfl (Zah _) (fun d f _ e=>by simp[π0]at e) (by simp) (Zce ?_)) (Zct (Rn.frzp (b:=65) (g:=0) rfl (Zah _) (fun d f _ e=>by simp[π0]at e) (by simp) (Zce rfl)) (Zct (Rn.frzp (b:=66) (g:=0) rfl (Zah _) (fun d f _ e=>by simp[π0]at e) (by simp) (Zce ?_)) Zcs)));·show noRefs [S]=true;rw[noRefs,a];rfl
 show noRefs [sliN r]=true;rw[noRefs,Qab];rfl
end Go.AM.SO
namespace Go.AM.SO
open Go.Proofs Go.AM.SD Go.AM.SE
theorem Qsx{l:List Aut}{Q:List Nat->Prop}{i e:Nat}{t:List Nat}{s:List (List Nat)×List Ed}(a:∀n,stepT l t e=some n->Q n)(h:∀x∈s.1,Q x):∀x∈(pEv l i t s e).1,Q x:=by grind[pEv]
theorem Qmk{l:List Aut}{Q:List Nat->Prop}{i:Nat}{t:List Nat}:∀{ev:List Nat}{s:List (List Nat)×List Ed},(∀e∈ev,∀n,stepT l t e=some n->Q n)->(∀x∈s.1,Q x)->∀x∈(pRow l ev i t s).1,Q x|[],s,_,h=>h|e::ev,s,c,h=>Qmk (ev:=ev) (s:=pEv l i t s e) (fun d a=>c d (by simp[a])) (Qsx (fun n=>c e (by simp) n) h)
theorem Qqw{l:List Aut}{ev:List Nat}{Q:List Nat->Prop}(a:∀t,Q t->∀e∈ev,∀n,stepT l t e=some n->Q n):∀{k i:Nat}{s:List (List Nat)×List Ed},(∀x∈s.1,Q x)->∀x∈(pQ l ev k i s).1,Q x|0,_,_,h=>h|k+1,i,s,h=>by unfold pQ;cases c:s.1[i]? with|none=>exact h|some t=>exact Qqw a (Qmk (a t (h t (Zaf c))) h)
theorem QoB{A B:List Aut}{t n:List Nat}{e:Nat}(c:(A++B).length<=t.length)(h:stepT (A++B) t e=some n):stepT A (t.take A.length) e=some (n.take A.length):=by
 obtain⟨h1,j,d⟩:=(Qfv c).1 h;rw[Zae]at c;refine(Qfv (by grind)).2 ⟨by simp_all,fun i hi=>?_,fun i a hi f=>?_⟩;·grind
 have g:=d i a (by grind) (by grind);simp_all
theorem Qi9{l:List Aut}(h:∀a∈l,WfI a){e:Nat}:e∈evA l↔∃a∈l,e∈a.al:=by
 rw[QgA,Qgy (fun y f=>by grind)];constructor;·grind
 rintro⟨a,c,d⟩;exact⟨_,Zaq.2 ⟨a,c,rfl⟩,d⟩
theorem Qsy{c:Cel}(h:WfCel c){e:Nat}(he:e∈evA (allA c)):e∈evA (auL c.cs):=by
 have hA:=Qbk h;obtain⟨a,d,f⟩:=(Qi9 (QdZ h)).1 he;rcases ZaI.1 (show a∈auL c.cs++auL c.rs from d)with d|d;·grind[Qi9]
 obtain⟨x,i,rfl⟩:=Zaq.1 d;obtain⟨y,j,g⟩:=h.rsub x i e f;exact(Qi9 hA).2 ⟨y.2,Zaq.2 ⟨y,j,rfl⟩,g⟩
theorem Qsz{c:Cel}(h:WfCel c):∀t∈(sync0 (allA c)).1,InT (allA c) t/\t.take c.cs.length∈(sync0 (auL c.cs)).1:=by
 have hA:=Qbk h;have d:=QdZ h;have m:=Qkl (fun a f=>(hA a f).pos) (fun a f=>(hA a f).wf.esn);have i:=Qfx (l:=allA c) (fun a f=>(d a f).pos);show∀t∈(pQ (allA c) (evA (allA c)) (box (allA c)+1) 0 ([List.replicate (allA c).length 0],[])).1,_;refine Qqw (Q:=fun t=>InT (allA c) t/\t.take c.cs.length∈(sync0 (auL c.cs)).1) ?_ ?_;·rintro t⟨l,hp⟩e he n k;refine⟨Qfw (fun a f=>(d a f).wf.esn) l k,?_⟩;have g:=QoB (A:=auL c.cs) (B:=auL c.rs) (Nat.le_of_eq l.1.symm) k;rw[Qa4]at g;exact m.cl _ _ (QiC hp) (QnP hp) e (Qsy h he) _ g
 intro x j;have j:x=List.replicate (allA c).length 0:=by simpa using j
 subst j;refine⟨i.inT _ (by simp),?_⟩;have:(List.replicate (allA c).length 0).take c.cs.length=List.replicate (auL c.cs).length 0:=by simp_all[Qcr]
 rw[this];exact sync_pre.subset (by simp)
theorem Qrs{A B:List Aut}{t:List Nat}(h:InT (A++B) t):InT A (t.take A.length):=by refine⟨by rw[Zas,h.1,Zae];omega,fun i a c=>?_⟩;have hi:i<A.length:=(Zam.1 c).1;have:=h.2 i a (by grind);simp_all
theorem Qrt{A B:List Aut}{t:List Nat}(h:InT (A++B) t):InT B (t.drop A.length):=by refine⟨by rw[Za6,h.1,Zae];omega,fun i a c=>?_⟩;have:=h.2 (A.length+i) a (by grind);simp_all
end Go.AM.SO
namespace Go.AM
variable{P:Program}
theorem RSpec.of_wS{b N n:Nat}{T:Tmps}{c:List Nat}{a body:SCode}{args:List AV}{h h':Heap}{v:AV}(f:(noLoop a&&noLoop body)=true)(j:h.get b=some (.loop 0 N T c (.s a) (.s body) .ready))(i:Nat.blt b 1099511627775=true)(hlen:args.length=c.length)(k:(c.all fun p=>Nat.blt p N)=true)(hw:wS P ⟨N,0⟩ a [] n (upsT T c args) h fun e T1 h1 g=>e=.normal/\h1.get b=some (.loop 0 N T c (.s a) (.s body) .ready)/\wS P ⟨N,0⟩ body [] g T1 (h1.set b (.loop 0 N T c (.s a) (.s body) .busy)) fun e T2 d _=>d.get b=some (.loop 0 N T c (.s a) (.s body) .busy)/\v=.bool e.isNormal/\∀x,(d.set b (.loop 0 N T c (.s a) (.s body) (stOf e))).get x=h'.get x):RSpec P b 0 args h v h':=by simp only[Zab]at f;refine RSpec.of_W j (by simpa[lim]using i) hlen (fun p hp=>by simp_all) ((wpC.toW1 f.1 hw).mono ?_);rintro e B⟨g,rfl,h1,d⟩;refine⟨rfl,N,T,c,.s a,.s body,h1,(wpC.toW1 f.2 d).mono ?_⟩;rintro e C⟨q,o,m,l⟩;grind
section
variable{k m n:Nat}{T:Tmps}{h:Heap}{Q:QC}{fs:List Fr}
theorem Qkt{g:Opd}{j:List Nat}{a body:SCode}{f b n':Nat}{first cap:List AV}{v:AV}{o:Heap}{T' T2:Tmps}{L:HL}{N2:Nat}{i:List Nat}{l c:LCode}{st:LSt}(r:Rec m T' L T h)(s:ev T' g=.fn f first cap)(q:(hp L).get b=none)(t:Nat.blt b 1099511627775=true)(p:HSpec P f (first++[.yld b 0]++cap) ((hp L).set b (.loop 0 k T' j (.s a) (.s body) .ready)) v o)(d:o.get b=some (.loop 0 N2 T2 i l c st))(hQ:leftQ (fun e B=>wX P ⟨k,m⟩ e fs n' B.T B.h Q) ⟨T',o.set b (.dead 0)⟩ st):wS P ⟨k,m⟩ (.rfunc g j k a body) fs n T h Q:=by show W2 P ⟨k,m⟩ (.rfunc g j k a body) (fun e B=>∃n,ct P ⟨k,m⟩ fs Q e B.T B.h n) ⟨T,h⟩;refine W2.recL r (W2.of_W (W.rfunc (las:=.s a) (lbody:=.s body) rfl rfl s q (by simpa[lim]using t) p d ?_));cases st with|ready=>exact⟨n',hQ⟩|busy=>exact hQ|done e=>exact⟨hQ.1,n',hQ.2⟩
theorem cy{N:NM}{b g:Nat}{args:List AV}{v:AV}{h1:Heap}{d:Option Nat}{ops:List SOper}{dead:List Nat}(a:RSpec P b g args h v h1)(hk:wR P N ops dead fs (n+1) (putD T d v) h1 Q):wCall P N .heap (.yld b g) args d ops dead fs n T h Q:=⟨_,_,a,hk⟩
theorem W2.weakE{N:NM}{c:SCode}{Q:SX->St->Prop}{T L:Tmps}{h h':Heap}(a:Sub L T)(he:∀b,h.get b=h'.get b)(hw:W2 P N c Q ⟨L,h'⟩):W2 P N c Q ⟨T,h⟩:=W2.weak a (W2.congr hw ⟨fun _=>rfl,he⟩)
def loopI(P:Program)(k m:Nat){α:Type}(env:α->Tmps)(H:α->Heap)(I:α->Prop)(μ:α->Nat)(a:α)(fs:List Fr)(Q:QC):QC:=fun e T h n=>match e with|.normal=>∃c,μ c<μ a/\I c/\Sub (env c) T/\∀b,h.get b=(H c).get b|e=>wX P ⟨k,m⟩ e fs n T h Q
section
variable{α:Type}{env:α->Tmps}{H:α->Heap}{I:α->Prop}{μ:α->Nat}{a:α}
theorem Qa6:loopI P k m env H I μ a fs Q .normal T h n=∃c,μ c<μ a/\I c/\Sub (env c) T/\∀b,h.get b=(H c).get b:=rfl
theorem Qbn{i:Nat}:loopI P k m env H I μ a fs Q (.exit i) T h n=wX P ⟨k,m⟩ (.exit i) fs n T h Q:=rfl
theorem Qby:loopI P k m env H I μ a fs Q .ret T h n=wX P ⟨k,m⟩ .ret fs n T h Q:=rfl
theorem Qru{b:SCode}(r:Nat)(env:α->Tmps)(H:α->Heap)(I:α->Prop)(μ:α->Nat)(a0:α)(o:Sub (env a0) T)(g:∀b,h.get b=(H a0).get b)(j:I a0)(round:∀a,I a->wS P ⟨k,m⟩ b [] r (env a) (H a) (loopI P k m env H I μ a fs Q)):wS P ⟨k,m⟩ (.loop b) fs n T h Q:=by show W2 P ⟨k,m⟩ (.loop b) (fun e B=>∃n,ct P ⟨k,m⟩ fs Q e B.T B.h n) ⟨T,h⟩;refine W2.loop (fun q B=>∃a,μ a=q/\I a/\Sub (env a) B.T/\∀b,B.h.get b=(H a).get b) (μ a0) ⟨a0,rfl,j,o,g⟩ ?_;rintro q B⟨a,rfl,hi,p,he⟩;refine W2.weakE p he ((wpC.toW (round a hi)).mono ?_);rintro e C⟨d,c⟩;cases e with|normal=>obtain⟨f,h1,s,l⟩:=c;exact⟨μ f,h1,f,rfl,s,l⟩|exit i=>exact⟨d,c⟩|ret=>exact⟨d,c⟩
end
end
theorem HSpec.of_I{f:Nat}{sf:SFn}{args:List AV}{h h':Heap}{v:AV}(m n:Nat)(a:okFn P f sf=true)(q:Nat.ble args.length sf.n=true)(hm:Fresh m h)(hw:wS P ⟨sf.n,m⟩ sf.body [] n (argT 0 args) h fun e T k _=>(e=.normal\/e=.ret)/\∃vs,resV T k sf.res=some vs/\resOf vs=v/\∀b,k.get b=h'.get b):HSpec P f args h v h':=by
 obtain⟨_,_,_,_,_,_,_,hc⟩:=QbY a;refine⟨hc,fun c w d H l=>(QcW (m:=m) (R:=fun vs k=>resOf vs=v/\∀b,k.get b=h'.get b) a (Zar q) ((wpC.toW hw).mono fun e B⟨_,h1,vs,i,r⟩=>⟨h1,vs,i,r⟩) H l).mono ?_⟩;rintro e s⟨o,j,vs,k,rfl,E,H',V,rfl,hk⟩;refine⟨o,j,rfl,⟨E.os,E.tape,E.output,E.size,E.shape,E.keep,fun b g p hp=>?_,E.frz,E.frzNew,E.own,E.base⟩,Qb6 hk H',V⟩;rcases Zbz b m with h1|h1;·exact E.rho b g p h1 hp
 rw[H.fresh b (hm b h1) g]at hp;cases hp
end Go.AM
namespace Go.AM.SO
open Go.Proofs Go.AM.SD Go.AM.SE
def ylE(c:Cel)(r:List Nat)(e:Nat):Option (Nat×Int):=if 0<=rfI c r e then some (e,rfI c r e)else none
def yls(c:Cel)(k:Nat)(r:List Nat):List (Nat×Int):=(evO (syncA (auL c.cs)) k).filterMap (ylE c r)
theorem fm_at{α β:Type}{f:α->Option β}{l:List α}{i:Nat}{x:α}{y:β}(c:l[i]?=some x)(d:f x=some y):(l.filterMap f)[((l.take i).filterMap f).length]?=some y:=by
 have hi:i<l.length:=(Zam.1 c).1;have e:l=l.take i++x::l.drop (i+1):=by have a:l[i]=x:=(Zam.1 c).2;rw[<-a,List.getElem_cons_drop,List.take_append_drop]
 have g:l.filterMap f=(l.take i).filterMap f++y::(l.drop (i+1)).filterMap f:=by
  conv=>lhs;rw[e]
  rw[ZbJ,ZbB,d]
 rw[g,List.getElem?_append_right (ZaO _),ZbT,Zbk]
theorem QsA{α β:Type}{f:α->Option β}{l:List α}{i:Nat}{x:α}(a:l[i]?=some x):((l.take (i+1)).filterMap f).length=((l.take i).filterMap f).length+(match f x with|some _=>1|none=>0):=by rw[take_succ' a,ZbJ,Zae,ZbB];cases f x<;>rfl
theorem QsB{c:Cel}{r:List Nat}{e:Nat}:-1<=rfI c r e/\rfI c r e<=c.rs.length:=by have:=@QhN _ (rfQ c r e) (List.range c.rs.length);unfold rfI;rw[Zbt]at this;omega
theorem refused160(c:Cel)(hw:WfCel c){k:Nat}(hk:k<(syncA (auL c.cs)).n)(r:List Nat)(K:r.length=c.rs.length)(hrn:∀(i:Nat)y,c.rs[i]?=some y->r.getD i 0<y.2.n){b m:Nat}(H:Nat->Heap)(H':Heap)(n:Nat)(hf:Fresh m (H 0))(L:n<=(yls c k r).length)(hY:∀(j:Nat)y,j<n->(yls c k r)[j]?=some y->RSpec Tryz.prog b 0 [.int .i64 (y.1:Int),.int .i64 y.2] (H j) (.bool true) (H (j+1)))(E:(n=(yls c k r).length/\H'=H n)\/∃y,(yls c k r)[n]?=some y/\RSpec Tryz.prog b 0 [.int .i64 (y.1:Int),.int .i64 y.2] (H n) (.bool false) H'):HSpec Tryz.prog 160 [.yld b 0,.fptr [.fptr (stC c)],.fptr [.int .i64 (k:Int)],.fptr [sliN r]] (H 0) (.tup []) H':=by
 refine HSpec.of_I m 1099511627000 TR.ok160 rfl hf ?_;have s:=enabled161 (syncA (auL c.cs)) k (Qfz (Qbk hw) (by rw[Qa4];have:=hw.c3;omega)) hk;have J:=fun e=>refuser162 c hw r e K hrn;have F:=fun e=>@QsB c r e;have I:(evO (syncA (auL c.cs)) k).length<=1220:=by unfold evO;rw[Zaw];exact Zax (Za4 ..) (Qfz (Qbk hw) (by rw[Qa4];have:=hw.c3;omega)).el
 have u:stC c=stC c:=rfl;conv at u=>rhs;rw[stC]
 have M:∃S,S=AV.fptr (stC c):=⟨_,rfl⟩;unfold yls at L hY E;rw[stC]at*;generalize evO (syncA (auL c.cs)) k=o at*;generalize syncA (auL c.cs)=p at*;generalize syncA (allA c)=q at*;generalize(sync0 (auL c.cs)).1=P at*;generalize(sync0 (allA c)).1=T at*;unfold TR.s160;refine ZcM (ZcR @Qac @Qae @Qaf @Qa6 @Qbn @Qby) ?_;refine cp s ?_;refine ZcM (ZcR @Qac @Qae @Qaf @Qa6 @Qbn @Qby) ?_;refine Qru 1099511627100 (fun i:Nat=>[(0,.yld b 0),(1,.fptr [.fptr (stG c p q P T)]),(3,.fptr [sliN r]),(19,sliN o),(20,.int .i64 o.length),(21,.int .i64 i)]) (fun i=>H ((o.take i).filterMap (ylE c r)).length) (fun i=>i<=o.length/\((o.take i).filterMap (ylE c r)).length<=n) (fun i=>o.length-i) 0 ?_ (fun _=>rfl) ⟨Zah _,Zah _⟩ ?_;·repeat(first|exact Sub.nil|refine Sub.cons (by first|rfl|(rw[ZaV];rfl)) ?_)
 rintro i⟨hi,hc⟩;by_cases d:i<o.length
 ·obtain⟨x,B⟩:=Qap d;have a:=QsA (f:=ylE c r) B;have t:=J x;have N:=F x;by_cases z:0<=rfI c r x
  ·have g:ylE c r x=some (x,rfI c r x):=by unfold ylE;rw[if_pos z]
   have f:=fm_at B g;rw[g]at a;rcases Zbz ((o.take i).filterMap (ylE c r)).length n with A|G;·have l:=hY _ _ A f;dsimp only at l a;rw[<-a]at l;refine ZcM (ZcT d (QaJ B) @Qac @Qae @Qaf @Qa6 @Qbn @Qby) ?_;refine cp t ?_;generalize rfI c r x=v at*;refine ZcM (ZcS z @Qac @Qae @Qaf @Qa6 @Qbn @Qby) ?_;refine cy l ?_;refine ZcM (ZcR @Qac @Qae @Qaf @Qa6 @Qbn @Qby) ?_;refine⟨i+1,by omega,⟨by omega,by omega⟩,?_,fun _=>rfl⟩;repeat(first|exact Sub.nil|refine Sub.cons (by first|rfl|(rw[ZaV];rfl)) ?_)
   have h:((o.take i).filterMap (ylE c r)).length=n:=by omega
   rcases E with⟨he,_⟩|⟨y,C,w⟩;·have :=(Zam.1 f).1;omega
   rw[h]at f⊢;rw[f]at C;cases C;dsimp only at w;refine ZcM (ZcT d (QaJ B) @Qac @Qae @Qaf @Qa6 @Qbn @Qby) ?_;refine cp t ?_;generalize rfI c r x=v at*;refine ZcM (ZcS z @Qac @Qae @Qaf @Qa6 @Qbn @Qby) ?_;refine cy w ?_;refine ZcM (ZcR @Qac @Qae @Qaf @Qa6 @Qbn @Qby) ?_;exact⟨.inr trivial,_,rfl,rfl,fun _=>trivial⟩
  have g:ylE c r x=none:=by unfold ylE;rw[if_neg z]
  rw[g]at a;dsimp only at a;refine ZcM (ZcT d (QaJ B) @Qac @Qae @Qaf @Qa6 @Qbn @Qby) ?_;refine cp t ?_;generalize rfI c r x=v at*;refine ZcM (ZcS z @Qac @Qae @Qaf @Qa6 @Qbn @Qby) ?_;refine⟨i+1,by omega,⟨by omega,by omega⟩,?_,fun _=>by rw[a];rfl⟩;repeat(first|exact Sub.nil|refine Sub.cons (by first|rfl|(rw[ZaV];rfl)) ?_)
 have e:i=o.length:=by omega
 subst e;rw[Zay]at hc⊢;have h:n=(o.filterMap (ylE c r)).length:=by omega
 refine ZcM (ZcS d @Qac @Qae @Qaf @Qa6 @Qbn @Qby) ?_;refine⟨.inl trivial,_,rfl,rfl,fun _=>?_⟩;rcases E with⟨_,he⟩|⟨y,C,_⟩;·rw[he,h]
 rw[Zat (by omega)]at C;cases C
end Go.AM.SO
