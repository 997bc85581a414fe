/- A part of the proof of CatalogueWordsCardSaid: lemmas on the way (AnYb). Conditions: none of ours. -/
import Derived.Test.YteiijgolpigjdaaGreatDoorAmW21
set_option linter.unusedSectionVars false
set_option maxHeartbeats 32000000
set_option maxRecDepth 100000
set_option linter.unusedVariables false
set_option linter.unusedSimpArgs false
namespace Go.AM.SO
open Go.Proofs Go.AM.SD Go.AM.SE Go.AM.KN
noncomputable section
def S13:FFn:=match KS.ft.get 13 with|some f=>f|none=>⟨0,[],.skip⟩
theorem okS13:okFn Tryz.prog 13 S13.slim=true:=FT2.ok KS.ft_ok 13 S13 (by kernel_rfl)
theorem resS13:S13.res=[.tmp 8]:=by kernel_rfl
def kS2 (b:Bool) (ys:Option (List AV)) (T:Tmps) (h:Heap):Bool:=(match lk T 8 with
  | .bool c=>c==b
  |_=>false)&&(match h.get 0 with
  |some (.cells g ds)=>Nat.beq g 0&&(noRefs ds&&(match ys with
   |some ys=>beqL ys ds
   |none=>true))
  |_=>false)
def kSt (b:Bool) (ys:Option (List AV)):KcA Bool:=fun e T h _=>match e with
 | .exit _=>false
 | .normal=>kS2 b ys T h
 | .ret=>kS2 b ys T h
def runS (k n:Nat) (xs:List AV) (e:Nat) (b:Bool) (ys:Option (List AV)):Bool:=
 exR ansB noOrc KS.ft.get 100000 S13.body (argT 0 [.int .i64 (k:Int),.int .i64 (n:Int),.sl 0 0 0 20 1,.int .i64 (e:Int)]) (hp [(0,.cells 0 xs)]) 64 (kSt b ys)
theorem Qqj {t:FT2} (ht:t.OK Tryz.prog) {f:Nat} {F:FFn} (hok:okFn Tryz.prog f F.slim=true) (hres:F.res=[.tmp 8]) {args xs:List AV} {b:Bool} {ys:Option (List AV)} (hl:Nat.ble args.length F.n=true)
  (hr:exR ansB noOrc t.get 100000 F.body (argT 0 args) (hp [(0,.cells 0 xs)]) 64 (kSt b ys)=true):
  ∃ds,noRefs ds=true/\(∀y,ys=some y->ds=y)/\HSpec Tryz.prog f args (hp [(0,.cells 0 xs)]) (.bool b) (hp [(0,.cells 0 ds)]):=by
 obtain⟨e',T',h',n',h1,h2,_⟩:=QfI Qga Qd5 (FT2.ok ht) 100000 F.n F.body _ _ 64 _ hr
 have h1:kSt b ys e' T' h' n'=true:=h1
 have he:e'= .normal\/e'= .ret:=by
  cases e' with
  |normal=>exact .inl rfl
  |ret=>exact .inr rfl
  |exit i=>cases h1
 have h1:kS2 b ys T' h'=true:=by rcases he with rfl|rfl<;>exact h1
 unfold kS2 at h1
 rw[Bool.and_eq_true]at h1
 obtain⟨ha,hb⟩:=h1
 have ha:lk T' 8= .bool b:=by
  split at ha
  ·rename_i c hc;rw[hc,eq_of_beq ha]
  ·cases ha
 split at hb
 ·rename_i g ds hg
  simp only[Bool.and_eq_true,Nat.beq_eq]at hb
  obtain⟨rfl,hn,hy⟩:=hb
  refine⟨ds,hn,fun y h=>?_,?_⟩
  ·subst h
   exact(QcY _ _ hy).symm
  ·refine HSpec.of_W2 (m := 1) hok (Nat.le_of_ble_eq_true hl) (fun b hb => ?_) ((W2.of_W h2).mono fun e B ⟨e1, e2⟩ => ?_)
   ·rw[Qb5 (by decide),if_neg (by omega)]
   ·subst e1; subst e2
    have hrec:Rec 1 [(0,.bool b)] [(0,.cells 0 ds)] [(0,.bool b)] h':=
     ⟨[(0,.nil)],rfl,fun b hb hn=>absurd (show(0:Nat)=b by omega) (hn (0,.cells 0 ds) (List.mem_cons_self ..)),RB.cellsB rfl hg (RnL.same hn) RB.nil,RT.cons (Rn.same rfl) RT.nil⟩
    obtain⟨ps,ho,hro,hb,ht⟩:=hrec
    refine⟨he,[.bool b],_,?_,Rec.maps ho hb,Rec.heap ho hb,Rec.dom ho hro,ht 0⟩
    show resV T' h' F.res=_
    rw[hres,show resV T' h' [.tmp 8]=some [lk T' 8] from rfl,ha]
 ·cases hb
theorem step13 {k n:Nat} {xs:List AV} {e:Nat} {b:Bool} {ys:Option (List AV)} (hr:runS k n xs e b ys=true):
  ∃ds,noRefs ds=true/\(∀y,ys=some y->ds=y)/\HSpec Tryz.prog 13 [.int .i64 (k:Int),.int .i64 (n:Int),.sl 0 0 0 20 1,.int .i64 (e:Int)] (hp [(0,.cells 0 xs)]) (.bool b) (hp [(0,.cells 0 ds)]):=by
 unfold runS at hr
 exact Qqj KS.ft_ok okS13 resS13 (by kernel_rfl) hr
def dig:Nat->Nat->List Nat
 |0,_=>[]
 |k+1,x=>(x % 10)::dig k (x/10)
def sxC (x:Nat):List AV:=(dig 20 x).map fun d:Nat=> .int .i64 (d:Int)
def stF (x:Nat) (f:List AV->Bool):Bool:=fL fN (dig 20 x) fun l=>f (l.map fun d:Nat=> .int .i64 (d:Int))
theorem Qpr (x:Nat) (f:List AV->Bool):stF x f=f (sxC x):=by unfold stF;rw[fL_eq fN_eq];rfl
def tabW (k n ne:Nat) (R:Aut) (sts:List Nat):Bool:=
 Nat.beq (sts.headD 1) 0&&(Nat.ble 1 R.n&&(Nat.beq sts.length R.n&&sts.zipIdx.all fun x=>stF x.1 fun xs=>(List.range ne).all fun e=>
  match stpF R.es x.2 e with
  |some j=>stF (sts.getD j 0) fun ys=>runS k n xs e true (some ys)
  |none=>runS k n xs e false none))
theorem Qre {k n ne:Nat} {R:Aut} {sts:List Nat} (h:tabW k n ne R sts=true):sts.headD 1=0/\0<R.n/\sts.length=R.n/\∀i,i<R.n->∀e,e<ne->
  match stepA R.es i e with
  |some j=>HSpec Tryz.prog 13 [.int .i64 (k:Int),.int .i64 (n:Int),.sl 0 0 0 20 1,.int .i64 (e:Int)] (hp [(0,.cells 0 (sxC (sts.getD i 0)))]) (.bool true) (hp [(0,.cells 0 (sxC (sts.getD j 0)))])
  |none=>∃ds,noRefs ds=true/\HSpec Tryz.prog 13 [.int .i64 (k:Int),.int .i64 (n:Int),.sl 0 0 0 20 1,.int .i64 (e:Int)] (hp [(0,.cells 0 (sxC (sts.getD i 0)))]) (.bool false) (hp [(0,.cells 0 ds)]):=by
 unfold tabW at h
 simp only[Bool.and_eq_true,Nat.beq_eq]at h
 obtain⟨h1,h2,h3,h4⟩:=h
 refine⟨h1,Nat.le_of_ble_eq_true h2,h3,fun i hi e he=>?_⟩
 have hm:(sts.getD i 0,i)∈sts.zipIdx:=by
  rw[List.mem_zipIdx_iff_getElem?,List.getD_eq_getElem?_getD,List.getElem?_eq_getElem (by omega)];rfl
 have h5:=List.all_eq_true.1 h4 _ hm
 rw[Qpr]at h5
 have h6:=List.all_eq_true.1 h5 e (List.mem_range.2 he)
 dsimp only at h6
 rw[Qm8]at h6
 cases hs:stepA R.es i e with
 |some j=>
  rw[hs]at h6
  dsimp only at h6⊢
  rw[Qpr]at h6
  obtain⟨ds,a1,a2,a3⟩:=step13 h6
  rw[a2 _ rfl]at a3
  exact a3
 |none=>
  rw[hs]at h6
  dsimp only at h6⊢
  obtain⟨ds,a1,a2,a3⟩:=step13 h6
  exact⟨ds,a1,a3⟩
def chkW (k n:Nat) (sts:List Nat):Bool:=ansG (catC k n) fun _ _ _ _ R=>tabW k n (catC k n).ev.length R sts
theorem Qrf {k n:Nat} {sts:List Nat} (h:chkW k n sts=true):tabW k n (catC k n).ev.length (resG (catC k n)).sup sts=true:=by
 unfold chkW at h
 rwa [Qrd]at h
end
end Go.AM.SO
