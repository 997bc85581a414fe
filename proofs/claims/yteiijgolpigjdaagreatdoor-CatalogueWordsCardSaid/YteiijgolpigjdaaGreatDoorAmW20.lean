/- A part of the proof of CatalogueWordsCardSaid: lemmas on the way (AnZqc, AnZi, AnZj, AnZr). Conditions: none of ours. -/
import Derived.Test.YteiijgolpigjdaaGreatDoorAmW19
set_option linter.unusedSectionVars false
set_option maxHeartbeats 32000000
set_option maxRecDepth 100000
set_option linter.unusedVariables false
set_option linter.unusedSimpArgs false
namespace Go.AM.KN
open Go.Proofs
theorem Qso:runK 3 2=true:=by kernel_rfl
theorem Qsp:runC 3 2=true:=by kernel_rfl
theorem Qsq:runK 3 3=true:=by kernel_rfl
theorem Qsr:runC 3 3=true:=by kernel_rfl
theorem Qss:runK 3 4=true:=by kernel_rfl
theorem Qst:runC 3 4=true:=by kernel_rfl
theorem Qsu:runK 5 2=true:=by kernel_rfl
theorem Qsv:runC 5 2=true:=by kernel_rfl
theorem Qsw:runK 5 3=true:=by kernel_rfl
theorem Qsx:runC 5 3=true:=by kernel_rfl
theorem Qsy:runK 5 4=true:=by kernel_rfl
theorem Qsz:runC 5 4=true:=by kernel_rfl
theorem QsA:runK 5 5=true:=by kernel_rfl
theorem QsB:runC 5 5=true:=by kernel_rfl
theorem QsC:runK 5 6=true:=by kernel_rfl
theorem QsD:runC 5 6=true:=by kernel_rfl
end Go.AM.KN
namespace Go.AM.SO
open Go.Proofs Go.AM.SD Go.AM.SE
noncomputable section
def fN {α:Type} (x:Nat) (k:Nat->α):α:=Nat.rec (k 0) (fun n _=>k (n+1)) x
theorem fN_eq {α:Type} (x:Nat) (k:Nat->α):fN x k=k x:=by cases x<;>rfl
def fB {α:Type} (x:Bool) (k:Bool->α):α:=Bool.rec (k false) (k true) x
theorem fB_eq {α:Type} (x:Bool) (k:Bool->α):fB x k=k x:=by cases x<;>rfl
def fL {α β:Type} (f:β->(β->α)->α) (l:List β) (k:List β->α):α:=List.rec (motive:=fun _=>(List β->α)->α) (fun k=>k []) (fun x _ ih k=>f x fun x=>ih fun l=>k (x::l)) l k
theorem fL_eq {α β:Type} {f:β->(β->α)->α} (hf:∀x k,f x k=k x):∀(l:List β) (k:List β->α),fL f l k=k l
 |[],k=>rfl
 |x::l,k=>by
  show f x (fun x=>fL f l fun l=>k (x::l))=_
  rw[hf,fL_eq hf l]
def fE {α:Type} (x:Ed) (k:Ed->α):α:=fN x.1 fun a=>fN x.2.1 fun b=>fN x.2.2 fun c=>k (a,b,c)
theorem fE_eq {α:Type} (x:Ed) (k:Ed->α):fE x k=k x:=by unfold fE;rw[fN_eq,fN_eq,fN_eq]
def fA {α:Type} (x:Aut) (k:Aut->α):α:=fL fN x.al fun a=>fN x.n fun n=>fL fN x.ms fun m=>fL fE x.es fun e=>k ⟨a,n,m,e⟩
theorem fA_eq {α:Type} (x:Aut) (k:Aut->α):fA x k=k x:=by unfold fA;rw[fL_eq fN_eq,fN_eq,fL_eq fN_eq,fL_eq fE_eq]
def fS {α:Type} (x:List (List Nat)×List Ed) (k:List (List Nat)×List Ed->α):α:=fL (fL fN) x.1 fun t=>fL fE x.2 fun e=>k (t,e)
theorem fS_eq {α:Type} (x:List (List Nat)×List Ed) (k:List (List Nat)×List Ed->α):fS x k=k x:=by unfold fS;rw[fL_eq (fL_eq fN_eq),fL_eq fE_eq]
def synF (l:List Aut) (s:List (List Nat)×List Ed):Aut:=⟨evA l,s.1.length,(List.range s.1.length).filter fun i=>mkdT l (s.1.getD i []),s.2⟩
theorem Qm6 (l:List Aut):synF l (sync0 l)=syncA l:=rfl
def gysF (c:CelA) (p:Aut) (k:Nat) (r:List Nat):List (Nat×Int):=(evO p k).filterMap (gyE c r)
def grsF (c:CelA) (p:Aut) (P:List (List Nat)) (i:Nat) (t:List Nat):Option (Nat×Int×Int×Int):=
 if(vioG (t.take c.cs.length) c.ks).2.2=true then some (i,(vioG (t.take c.cs.length) c.ks).1,(vioG (t.take c.cs.length) c.ks).2.1,-1)
 else((gysF c p (ixT P (t.take c.cs.length)) (t.drop c.cs.length)).find? fun y=> !(c.ev.getD y.1 ev0).c).map fun y=>(i,3,y.2,(y.1:Int))
def gforbF (c:CelA) (p:Aut) (P T:List (List Nat)) (n:Nat):List (Nat×Int×Int×Int):=(List.range n).flatMap fun i=>(grsF c p P i (T.getD i [])).toList
theorem Qpo (c:CelA) (n:Nat):gforbF c (syncA (auN c.cs)) (sync0 (auN c.cs)).1 (sync0 (allN c)).1 n=gforb c n:=rfl
def ansG {α:Type} (c:CelA) (k:Aut->Aut->List Nat->LB->Aut->α):α:=
 fS (sync0 (auN c.cs)) fun s=>fA (synF (auN c.cs) s) fun p=>fS (sync0 (allN c)) fun t=>fA (synF (allN c) t) fun q=>
 fL fN (fbs (gforbF c p s.1 t.1 t.1.length)) fun F=>fL fN (uncG c.ev c.ev.length) fun u=>fL fB (fin q.n q.es q.ms F u true).1 fun L=>fA (restr q (lf L)) fun R=>k p q F L R
theorem Qrd {α:Type} (c:CelA) (k:Aut->Aut->List Nat->LB->Aut->α):ansG c k=k (syncA (auN c.cs)) (syncA (allN c)) (gfbd c) (fin (syncA (allN c)).n (syncA (allN c)).es (syncA (allN c)).ms (gfbd c) (uncG c.ev c.ev.length) true).1 (resG c).sup:=by
 unfold ansG
 rw[fS_eq,fA_eq,fS_eq,fA_eq,fL_eq fN_eq,fL_eq fN_eq,fL_eq fB_eq,fA_eq,Qm6,Qm6,Qpo]
 rfl
end
end Go.AM.SO
namespace Go.AM.SO
open Go.Proofs Go.AM.SD Go.AM.SE
noncomputable section
def stpF (es:List Ed) (x e:Nat):Option Nat:=List.rec none (fun d _ ih=>Bool.rec ih (Bool.rec ih (some d.2.2) (Nat.beq d.2.1 e)) (Nat.beq d.1 x)) es
theorem Qm7 (x y:Nat):(x==y)=Nat.beq x y:=by
 cases h:Nat.beq x y with
 |true=>simp[Nat.eq_of_beq_eq_true h]
 |false=>simp[Nat.ne_of_beq_eq_false h]
theorem Qm8 {x e:Nat}:∀{es:List Ed},stpF es x e=stepA es x e
 |[]=>rfl
 | d :: es => by
  have e1:stpF (d::es) x e=Bool.rec (stpF es x e) (Bool.rec (stpF es x e) (some d.2.2) (Nat.beq d.2.1 e)) (Nat.beq d.1 x):=rfl
  have e2:stepA (d::es) x e=bif (Nat.beq d.1 x&&Nat.beq d.2.1 e)then some d.2.2 else stepA es x e:=by
   unfold stepA
   rw[List.find?_cons,Qm7,Qm7]
   cases Nat.beq d.1 x&&Nat.beq d.2.1 e<;>rfl
  rw[e1,e2,Qm8]
  cases Nat.beq d.1 x<;>cases Nat.beq d.2.1 e<;>rfl
end
end Go.AM.SO
namespace Go.AM.SO
open Go.Proofs Go.AM.SD Go.AM.SE
def okA (a:Aut):Bool:=decide (a.al.Pairwise (· < ·))&&(decide (∀x∈a.al,x<32)&&(decide (a.ms.Pairwise (· < ·))&&(decide (∀x∈a.ms,x<a.n)&&(decide (a.es.Pairwise fun x y=>x.1<y.1\/(x.1=y.1/\x.2.1<y.2.1))&&
 (decide (∀e∈a.es,e.1<a.n/\e.2.2<a.n)&&(decide (∀e∈a.es,e.2.1∈a.al)&&(decide (0<a.n)&&decide (a.n<=10))))))))
theorem QsE {a:Aut} (h:okA a=true):WfJ a:=by
 simp only[okA,Bool.and_eq_true,decide_eq_true_eq]at h
 obtain⟨h1,h2,h3,h4,h5,h6,h7,h8,h9⟩:=h
 exact⟨⟨h1,h2,by omega,h3,h4,h5,h6,h7⟩,h8,h9⟩
def okI (x:List UInt8×Aut):Bool:=decide (x.1.length<=100)&&(decide (x.2.al.length<=100)&&(decide (x.2.ms.length<=100)&&(decide (x.2.es.length<=100)&&okA x.2)))
theorem Qif {x:List UInt8×Aut} (h:okI x=true):ItOk (zIt x)/\WfJ x.2:=by
 simp only[okI,Bool.and_eq_true,decide_eq_true_eq]at h
 obtain⟨h1,h2,h3,h4,h5⟩:=h
 have hj:=QsE h5
 have h10:=hj.n10
 refine⟨⟨by show x.1.length<=_;omega,?_,?_,?_,?_⟩,hj⟩
 ·show(nz x.2.al).length<=_;simp[nz];omega
 ·show(nz x.2.ms).length<=_;simp[nz];omega
 ·show(x.2.es.map eg).length<=_;simp;omega
 ·show((x.2.n:Nat):Int)<=1000;omega
def wfB (c:CelA):Bool:=decide (c.ev.length<=100)&&(decide (∀x∈c.ev,x.nm.length<=100)&&(decide (c.ks.length<=100)&&(decide (∀x∈c.ks,x.1.length<=100)&&(c.cs.all okI&&(c.rs.all okI&&(decide (celErr c.z=0)&&
 (decide (0<c.cs.length)&&(decide (c.cs.length+c.rs.length<=12)&&(decide (box (auN c.cs)<=4096)&&(decide (box (allN c)<=4096)&&(decide (∀a∈allN c,∀e∈a.al,e<c.ev.length)&&
 (decide (∀x∈c.rs,∀e∈x.2.al,∃y∈c.cs,e∈y.2.al)&&decide (∀k∈c.ks,k.2.1.length<=1000/\∀x∈k.2.1,(0<=x.1/\x.1<(c.cs.length:Int))/\ -4<x.2/\x.2<4)))))))))))))
theorem Qbr {c:CelA} (h:wfB c=true):WfG c:=by
 simp only[wfB,Bool.and_eq_true,decide_eq_true_eq,List.all_eq_true]at h
 obtain⟨h1,h2,h3,h4,h5,h6,h7,h8,h9,h10,h11,h12,h13,h14⟩:=h
 have hcj:∀a∈auN c.cs,WfJ a:=fun a ha=>by
  obtain⟨x,hx,rfl⟩:=List.mem_map.1 ha
  exact(Qif (h5 x hx)).2
 have hrj:∀a∈auN c.rs,WfJ a:=fun a ha=>by
  obtain⟨x,hx,rfl⟩:=List.mem_map.1 ha
  exact(Qif (h6 x hx)).2
 have hall:∀a∈allN c,WfJ a:=fun a ha=>(List.mem_append.1 ha).elim (hcj a) (hrj a)
 refine⟨⟨?_,?_,?_,?_,?_,?_,?_,?_,?_,?_⟩,h7,hcj,hrj,h8,h9,?_,?_,h12,h13,h14⟩
 ·show c.ev.length<=_;omega
 ·exact fun x hx=>by have:=h2 x hx;omega
 ·show(c.cs.map zIt).length<=_;rw[List.length_map];omega
 ·show(c.rs.map zIt).length<=_;rw[List.length_map];omega
 ·show([]:List Exn).length<=_;simp
 ·show c.ks.length<=_;omega
 ·intro x hx
  obtain⟨y,hy,rfl⟩:=List.mem_map.1 (show x∈c.cs.map zIt from hx)
  exact(Qif (h5 y hy)).1
 ·intro x hx
  obtain⟨y,hy,rfl⟩:=List.mem_map.1 (show x∈c.rs.map zIt from hx)
  exact(Qif (h6 y hy)).1
 ·intro x hx;cases hx
 ·exact fun x hx=>by have:=h4 x hx;have:=(h14 x hx).1;omega
 ·exact Nat.le_trans (Qlk (fun a ha=>(hcj a ha).pos) fun a ha=>(hcj a ha).wf.esn) h10
 ·exact Nat.le_trans (Qlk (fun a ha=>(hall a ha).pos) fun a ha=>(hall a ha).wf.esn) h11
end Go.AM.SO
