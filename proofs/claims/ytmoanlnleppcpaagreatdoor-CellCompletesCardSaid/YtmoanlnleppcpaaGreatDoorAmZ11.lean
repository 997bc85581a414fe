/- A part of the proof of CellCompletesCardSaid: lemmas on the way (AmCyc, AmCyd, AmCyb, AmCye, AmCyf, AmCyh, AmCyg, AmCyi, AmCyj, AmGb, AmGc, AmGd, AmGk, AmGl, AmCq, AmGe, AmGf, AmGn, AmGp, AmGq, AmGo, AmTo, AmTm, AmCr, AmCzc, AmCzf, AmGg, AmGs, AmGr, AmGt, AmGu, AmGw, AmGz, AmHe, AmGv, AmCzg, AmCzh, AmCzi, AmCzj, AmHf, AmTp, AmHc, AmHd, AmHg). Conditions: none of ours. -/
import Derived.Test.YtmoanlnleppcpaaGreatDoorProg
import Derived.KernelRfl
import Derived.Test.YtmoanlnleppcpaaGreatDoorAmZ10
set_option linter.unusedSectionVars false
set_option maxHeartbeats 32000000
set_option maxRecDepth 100000
set_option linter.unusedVariables false
set_option linter.unusedSimpArgs false
namespace Go.AM.SN
open Go.Proofs Go.AM.SD Go.AM.SE Go.AM.SO
noncomputable section
def is0:AV->Bool| .int .i64 n=>decide (n=0)|_=>false
theorem QrN:∀u,is0 u=true->u= .int .i64 0:=by
 intro u h
 unfold is0 at h
 grind
def nameR (s:List UInt8) (f:Nat) (X K:AV) (i:Int):Bool:=callR ansB noOrc SK.ft.get (exR ansB noOrc SK.ft.get 1000) (.c .pure) 102 [.str s,.fn f [] [.fptr [.any,X,K],.fptr [.int .i64 i]]] .e 64 (fun u _ _=>is0 u)
theorem QpP {s:List UInt8} {f:Nat} {X K:AV} {i:Int} (h:nameR s f X K i=true):PSpec Tryz.prog 102 [.str s,.fn f [] [.fptr [.any,X,K],.fptr [.int .i64 i]]] (.int .i64 0):=
 QbE (t:=SK.ft) SK.ft_ok Qc4 (d:=1000) is0 QrN h
theorem e0_1:nameR [101,48] 101 (.fsl [.str [101,48],.any] 1 2) .any 0=true:=by kernel_rfl
theorem e1_1:nameR [101,49] 101 (.fsl [.str [101,49],.any] 1 2) .any 0=true:=by kernel_rfl
theorem e0_2:nameR [101,48] 101 (.fsl [.str [101,48],.any,.str [101,49],.any] 2 2) .any 0=true:=by kernel_rfl
theorem e1_2a:nameR [101,49] 101 (.fsl [.str [101,48],.fsl [.any,.any] 1 2,.str [101,49],.any] 2 2) .any 1=true:=by kernel_rfl
theorem e1_2b:nameR [101,49] 101 (.fsl [.str [101,48],.fsl [.any,.any,.any,.any] 2 2,.str [101,49],.any] 2 2) .any 1=true:=by kernel_rfl
theorem e1_2c:nameR [101,49] 101 (.fsl [.str [101,48],.fsl [.any,.any,.any,.any,.any,.any] 3 2,.str [101,49],.any] 2 2) .any 1=true:=by kernel_rfl
theorem k_1:nameR [107] 104 .any (.fsl [.str [107],.any,.any] 1 3) 0=true:=by kernel_rfl
def Wk (x y:AV):Prop:=∀(ok:Okc) (c:Ctx ok) (w:World) (v:Value),VRel c w x v->VRel c w y v
def WkL:List AV->List AV->Prop
 |[],[]=>True
 |x::xs,y::ys=>Wk x y/\WkL xs ys
 |_,_=>False
theorem Wk.refl (x:AV):Wk x x:=fun _ _ _ _ h=>h
theorem Wk.any {x:AV}:Wk x .any:=fun _ _ _ _ _=>by simp[VRel]
theorem WkL.rels {ok:Okc} {c:Ctx ok} {w:World}:∀{xs ys:List AV} {vs:List Value},WkL xs ys->VRels c w xs vs->VRels c w ys vs
 |[],[],_,_,hv=>hv
 |[],_::_,_,h,_=>h.elim
 |_::_,[],_,h,_=>h.elim
 |x::xs,y::ys,vs,h,hv=>by
  simp only[VRels]at hv⊢
  obtain⟨v,vs',rfl,h1,h2⟩:=hv
  exact⟨v,vs',rfl,h.1 _ c w v h1,WkL.rels h.2 h2⟩
theorem WkL.pre {ok:Okc} {c:Ctx ok} {w:World}:∀{xs ys:List AV} {vs:List Value},WkL xs ys->VPre c w xs vs->VPre c w ys vs
 |[],[],_,_,hv=>hv
 |[],_::_,_,h,_=>h.elim
 |_::_,[],_,h,_=>h.elim
 |x::xs,y::ys,vs,h,hv=>by
  simp only[VPre]at hv⊢
  obtain⟨v,vs',rfl,h1,h2⟩:=hv
  exact⟨v,vs',rfl,h.1 _ c w v h1,WkL.pre h.2 h2⟩
theorem WkL.length:∀{xs ys:List AV},WkL xs ys->xs.length=ys.length
 |[],[],_=>rfl
 |[],_::_,h=>h.elim
 |_::_,[],h=>h.elim
 |x::xs,y::ys,h=>by simp[WkL.length h.2]
theorem Wk.fsl {cs ds:List AV} {len sz:Nat} (h:WkL cs ds):Wk (.fsl cs len sz) (.fsl ds len sz):=fun _ c w v hv=>by
 simp only[VRel]at hv⊢
 have hl:=h.length
 rcases hv with⟨h1,rfl,h2⟩|⟨cb,off,cap,C,e,fr,h1,h2,h3,h4,h5,h6⟩
 ·grind
 ·exact .inr ⟨cb,off,cap,C,e,fr,h1,h2,by omega,h4,h5,h.pre h6⟩
theorem Wk.fptr {cs ds:List AV} (h:WkL cs ds):Wk (.fptr cs) (.fptr ds):=fun _ c w v hv=>by
 simp only[VRel]at hv⊢
 obtain⟨cb,off,C,e,fr,h1,h2,h3,h4⟩:=hv
 exact⟨cb,off,C,e,fr,h1,h2,h3,h.pre h4⟩
theorem Wk.fn {f:Nat} {xs ys us vs:List AV} (h1:WkL xs ys) (h2:WkL us vs):Wk (.fn f xs us) (.fn f ys vs):=fun _ c w v hv=>by
 simp only[VRel]at hv⊢
 obtain⟨x',y',rfl,g1,g2⟩:=hv
 exact⟨x',y',rfl,h1.rels g1,h2.rels g2⟩
theorem PSpec.wk {f:Nat} {args bs:List AV} {v:AV} (hL:WkL args bs) (hn:noRefs args=true) (hp:PSpec Tryz.prog f bs v):PSpec Tryz.prog f args v:=SE.PSpec.weak (fun _ c w vs _ h=>hL.rels h) hn hp
theorem nameW {s:List UInt8} {f:Nat} {S X K X' K':AV} {i:Int} (h:nameR s f X' K' i=true) (hX:Wk X X') (hK:Wk K K') (hn:noRefs [S,X,K]=true):PSpec Tryz.prog 102 [.str s,.fn f [] [.fptr [S,X,K],.fptr [.int .i64 i]]] (.int .i64 0):=by
 refine PSpec.wk (bs:=[.str s,.fn f [] [.fptr [.any,X',K'],.fptr [.int .i64 i]]]) ⟨Wk.refl _,Wk.fn trivial ⟨Wk.fptr ⟨Wk.any,hX,hK,trivial⟩,Wk.refl _,trivial⟩,trivial⟩ ?_ (QpP h)
 simp_all [noRefs,noRef]
theorem nameX {S K:AV} {xs:List (Nat×List (Nat×Nat))} {i:Nat} {x:Nat×List (Nat×Nat)} (hx:xs[i]?=some x) (h2:xs.length<=2) (hs:(xs.map (·.1)).Pairwise (· < ·)) (hl:∀x∈xs,x.1<2) (hne:∀x∈xs,x.2≠[]/\x.2.length<=3) (hn:noRefs [S,exs xs,K]=true):
  PSpec Tryz.prog 102 [.str [101,UInt8.ofNat (48+x.1)],.fn 101 [] [.fptr [S,exs xs,K],.fptr [.int .i64 (i:Int)]]] (.int .i64 0):=by
 match xs,h2 with
 |[],_=>simp at hx
 | [(a, la)], _ =>
  have hi:i=0:=by
   grind
  subst hi
  simp at hx;subst hx
  have ha:=hl (a,la) (by simp)
  have:a=0\/a=1:=by omega
  rcases this with rfl|rfl
  ·exact nameW e0_1 (Wk.fsl ⟨Wk.refl _,Wk.any,trivial⟩) Wk.any hn
  ·exact nameW e1_1 (Wk.fsl ⟨Wk.refl _,Wk.any,trivial⟩) Wk.any hn
 | [(a, la), (b, lb)], _ =>
  have ha:=hl (a,la) (by simp)
  have hb:=hl (b,lb) (by simp)
  have hab:a<b:=by simpa using hs
  dsimp only at ha hb
  obtain rfl:a=0:=by omega
  obtain rfl:b=1:=by omega
  have hi:i=0\/i=1:=by
   grind
  rcases hi with rfl|rfl
  ·simp at hx; subst hx
   exact nameW e0_2 (Wk.fsl ⟨Wk.refl _,Wk.any,Wk.refl _,Wk.any,trivial⟩) Wk.any hn
  ·simp at hx; subst hx
   obtain⟨h3,h4⟩:=hne (0,la) (by simp)
   match la,h3,h4 with
   |[],h,_=>exact absurd rfl h
   |[p],_,_=>exact nameW e1_2a (Wk.fsl ⟨Wk.refl _,Wk.fsl ⟨Wk.any,Wk.any,trivial⟩,Wk.refl _,Wk.any,trivial⟩) Wk.any hn
   |[p,q],_,_=>exact nameW e1_2b (Wk.fsl ⟨Wk.refl _,Wk.fsl ⟨Wk.any,Wk.any,Wk.any,Wk.any,trivial⟩,Wk.refl _,Wk.any,trivial⟩) Wk.any hn
   |[p,q,r],_,_=>exact nameW e1_2c (Wk.fsl ⟨Wk.refl _,Wk.fsl ⟨Wk.any,Wk.any,Wk.any,Wk.any,Wk.any,Wk.any,trivial⟩,Wk.refl _,Wk.any,trivial⟩) Wk.any hn
theorem nameK {S X:AV} {ks:List (List (Nat×Int)×Int)} {x:List (Nat×Int)×Int} (hx:ks=[x]) (hn:noRefs [S,X,cos ks]=true):
  PSpec Tryz.prog 102 [.str [107],.fn 104 [] [.fptr [S,X,cos ks],.fptr [.int .i64 0]]] (.int .i64 0):=by
 subst hx
 exact nameW k_1 Wk.any (Wk.fsl ⟨Wk.refl _,Wk.any,Wk.any,trivial⟩) hn
end
end Go.AM.SN
namespace Go.AM.SO
open Go.Proofs Go.AM.SD Go.AM.SE
theorem great190 (n:Int) (h1: -65536<=n) (h2:n<=65536):PSpec Tryz.prog 190 [.int .i64 n] (.bool false):=by
 refine PSpec.Qal 64 ok190 rfl rfl rfl ?_
 have g1:¬n< -65536:=by omega
 have g2:¬65536<n:=by omega
 simp(disch:=first|omega|(simp only[lenW]<;>omega)) only[s190,g1,g2,wV,simprocAttr]
 exact⟨.inr trivial,_,rfl,rfl⟩
abbrev cdC (S:List Nat) (xs:List (Nat×List (Nat×Nat))) (ks:List (List (Nat×Int)×Int)):List AV:=[sliN S,exs xs,cos ks]
abbrev cdV (S:List Nat) (xs:List (Nat×List (Nat×Nat))) (ks:List (List (Nat×Int)×Int)):AV:= .agg (cdC S xs ks)
theorem QbI {S:List Nat} {xs:List (Nat×List (Nat×Nat))} {ks:List (List (Nat×Int)×Int)}:noRefs (cdC S xs ks)=true:=by
 rw[cdC,noRefs,noRefs,noRefs,Qab,SU.Qbr,SU.Qjk];rfl
theorem Qim {l:List (Nat×Nat)} {i:Nat} {x:Nat×Nat} (h:l[i]?=some x):(l.flatMap loC).drop (i*2)= .int .i64 (x.1:Int):: .int .i64 (x.2:Int)::(l.drop (i+1)).flatMap loC:=QbB (f:=loC) (k:=2) (fun _=>rfl) h
theorem pw_at {l:List Nat} (h:l.Pairwise (· < ·)) {i:Nat} {x y:Nat} (hx:l[i]?=some x) (hy:l[i+1]?=some y):x<y:=by
 have hi:i+1<l.length:=by
  rcases Nat.lt_or_ge (i+1) l.length with h|h
  ·exact h
  ·rw[List.getElem?_eq_none h]at hy;cases hy
 rw[List.getElem?_eq_getElem (by omega)]at hx
 rw[List.getElem?_eq_getElem hi]at hy
 cases hx;cases hy
 exact List.pairwise_iff_getElem.1 h i (i+1) (by omega) hi (Nat.lt_succ_self _)
theorem _root_.Go.AM.au16 {p:Prop} (h:p:=by repeat (first|exact RT.nil|(refine RT.cons ?_ ?_; · (first|exact Rn.any|exact Rn.x1 rfl rfl|exact Rn.x2 rfl rfl|exact Rn.x3 rfl rfl|exact Rn.x4 rfl rfl|exact Rn.x5 rfl|exact Rn.x6 rfl|exact Rn.x7 rfl|(refine Rn.slot ?_ ?_;(first|rfl|(rw[Int.natCast_add];rfl));(first|rfl|(simp only[noRef,noRefs,Qai,Bool.and_self,Bool.and_true,Bool.true_and,Qae,Qau,Qab,SU.Qa0,SU.QaG,SU.Qbe,SU.QaY,SU.QbU];done)))|(refine Rn.fn ?_ ?_<;>(repeat' (first|exact RnL.nil|refine RnL.cons ?_ ?_|exact Rn.same rfl|exact Rn.x6 rfl|exact Rn.x2 rfl rfl|exact Rn.x5 rfl|exact Rn.x1 rfl rfl))))))):p:=h
theorem excl103 (S:List Nat) (xs:List (Nat×List (Nat×Nat))) (ks:List (List (Nat×Int)×Int)) (x:Nat×List (Nat×Nat)) (hS:S.length<=8) (hS3:∀s∈S,s<=4096) (hl:x.2.length<=1000) (hne:x.2≠[]) (hp:(x.2.map (·.1)).Pairwise (· < ·)) (hs:∀l∈x.2,∃n,S[l.1]?=some n/\l.2<n):
    PSpec Tryz.prog 103 [cdV S xs ks,.agg (exC x)] (.int .i64 0):=by
  obtain⟨nm,l⟩:=x
  dsimp only at hl hne hp hs
  have hex:exC (nm,l)=[.str [101,UInt8.ofNat (48+nm)],los l]:=rfl
  rw[hex]
  have hnr1:=@QbI S xs ks
  have hnr2:noRefs [.str [101,UInt8.ofNat (48+nm)],los l]=true:=by rw[noRefs,noRefs,SU.QbT];rfl
  refine PSpec.Qal 64 ok103 rfl (by rw[noRefs,noRefs,noRef,noRef,hnr1,hnr2];rfl) rfl ?_
  have hl0:¬(l.length:Int)=0:=by
    have:=List.length_pos_iff.2 hne
    omega
  have hll:=SU.QfM l
  simp(disch:=first|omega|(simp only[lenW]<;>omega)) only[s103,hl0,wV,simprocAttr]
  refine QaK 100 (fun i:Nat=>[(2,.ptr 50 0 0),(3,.ptr 51 0 0),(12,los l),(13,.int .i64 l.length),(14,.int .i64 i)]) (fun _=>[(50,.cells 0 (cdC S xs ks)),(51,.cells 0 [.str [101,UInt8.ofNat (48+nm)],los l])]) (fun i=>i<=l.length) (fun i=>l.length-i) 0 ⟨[(50,.blk 64 0),(51,.blk 65 0)],rfl,au0,?_,au16⟩ (Nat.zero_le _) ?_
  · exact RB.cells rfl rfl gg (RnL.same hnr1) (RB.cells rfl rfl gg (RnL.same hnr2) RB.nil)
  rintro i hi
  by_cases hlt:i<l.length
  · obtain ⟨⟨c, s⟩, hcs⟩ := Qag hlt
    obtain⟨n,hn,hsn⟩:=hs _ (List.mem_of_getElem? hcs)
    dsimp only at hn hsn
    have hcl:c<S.length:=by
      rcases Nat.lt_or_ge c S.length with h|h
      · exact h
      · rw[List.getElem?_eq_none h]at hn;cases hn
    have hn4:=hS3 n (List.mem_of_getElem? hn)
    have hdr:=Qim hcs
    have hdl:2<=((l.flatMap loC).drop (i*2)).length:=by rw[hdr];simp
    have h1:¬(c:Int)<0:=by omega
    have h2:¬(S.length:Int)<=(c:Int):=by omega
    have h3:¬(s:Int)<0:=by omega
    have h4:¬(n:Int)<=(s:Int):=by omega
    cases i with
    | zero =>
      have h0:¬(0:Int)<((0:Nat):Int):=by omega
      simp(disch:=first|omega|(simp only[lenW]<;>omega)) only[hlt,hdr,hdl,h0,h1,h2,h3,h4,Qaz hn,hcl,wV,simprocAttr]
      refine⟨1,by omega,by omega,?_⟩
      refine⟨[(50,.blk 50 0),(51,.blk 51 0)],rfl,au0,?_,au16⟩
      exact RB.cells rfl rfl gg (RnL.same hnr1) (RB.cells rfl rfl gg (RnL.same hnr2) RB.nil)
    | succ j =>
      obtain⟨⟨c',s'⟩,hcs'⟩:=Qag (l:=l) (i:=j) (by omega)
      have hdr':=Qim hcs'
      have hcc:c'<c:=pw_at hp (i:=j) (by rw[List.getElem?_map,hcs'];rfl) (by rw[List.getElem?_map,hcs];rfl)
      have h0:(0:Int)<((j+1:Nat):Int):=by omega
      have h5:¬(c:Int)<=(c':Int):=by omega
      have h6:((j+1:Nat):Int)-1=(j:Int):=by omega
      have h7:j<l.length:=by omega
      have hle:((j+1:Nat):Int)<(l.length:Int):=by omega
      have hJt:((j+1:Nat):Int).toNat=j+1:=by omega
      have hJ2:0<=((j+1:Nat):Int):=by omega
      generalize hJJ:((j+1:Nat):Int)=J at*
      simp(disch:=first|omega|(simp only[lenW]<;>omega)) only[hlt,hle,hJt,hJ2,hdr,hdr',hdl,h0,h1,h2,h3,h4,h5,h6,h7,Qaz hn,hcl,wV,simprocAttr]
      refine⟨j+2,by omega,by omega,?_⟩
      have hJ3:J+1=((j+2:Nat):Int):=by omega
      rw[hJ3]
      refine⟨[(50,.blk 50 0),(51,.blk 51 0)],rfl,au0,?_,au16⟩
      exact RB.cells rfl rfl gg (RnL.same hnr1) (RB.cells rfl rfl gg (RnL.same hnr2) RB.nil)
  · simp (disch := first | omega | (simp only [lenW] <;> omega)) only [hlt, wV, simprocAttr]
    exact⟨.inr trivial,_,rfl,rfl⟩
theorem cons105 (S:List Nat) (xs:List (Nat×List (Nat×Nat))) (ks:List (List (Nat×Int)×Int)) (x:List (Nat×Int)×Int) (hS:S.length<=8) (hl:x.1.length<=1000) (hne:x.1≠[]) (hp:(x.1.map (·.1)).Pairwise (· < ·)) (hs:∀l∈x.1,l.1<S.length/\l.2≠0/\ -65536<=l.2/\l.2<=65536) (hb: -65536<=x.2/\x.2<=65536):
    PSpec Tryz.prog 105 [cdV S xs ks,.agg (coC x)] (.int .i64 0):=by
  obtain⟨l,bd⟩:=x
  dsimp only at hl hne hp hs hb
  have hex:coC (l,bd)=[.str [107],tes l,.int .i64 bd]:=rfl
  rw[hex]
  have hnr1:=@QbI S xs ks
  have hnr2:noRefs [.str [107],tes l,.int .i64 bd]=true:=by rw[noRefs,noRefs,SU.Qcf];rfl
  refine PSpec.Qal 64 ok105 rfl (by rw[noRefs,noRefs,noRef,noRef,hnr1,hnr2];rfl) rfl ?_
  have hl0:¬(l.length:Int)=0:=by
    have:=List.length_pos_iff.2 hne
    omega
  have hll:=SU.Qcr l
  have hgb:=great190 bd hb.1 hb.2
  simp(disch:=first|omega|(simp only[lenW]<;>omega)) only[s105,hl0,wV,simprocAttr]
  refine QaK 100 (fun i:Nat=>[(2,.ptr 50 0 0),(3,.ptr 51 0 0),(12,tes l),(13,.int .i64 l.length),(14,.int .i64 i)]) (fun _=>[(50,.cells 0 (cdC S xs ks)),(51,.cells 0 [.str [107],tes l,.int .i64 bd])]) (fun i=>i<=l.length) (fun i=>l.length-i) 0 ⟨[(50,.blk 64 0),(51,.blk 65 0)],rfl,au0,?_,au16⟩ (Nat.zero_le _) ?_
  · exact RB.cells rfl rfl gg (RnL.same hnr1) (RB.cells rfl rfl gg (RnL.same hnr2) RB.nil)
  rintro i hi
  by_cases hlt:i<l.length
  · obtain ⟨⟨c, s⟩, hcs⟩ := Qag hlt
    obtain⟨hcl,hs0,hsa,hsb⟩:=hs _ (List.mem_of_getElem? hcs)
    dsimp only at hcl hs0 hsa hsb
    have hdr:=SU.QcH hcs
    have hdl:2<=((l.flatMap teC).drop (i*2)).length:=by rw[hdr];simp
    have h1:¬(c:Int)<0:=by omega
    have h2:¬(S.length:Int)<=(c:Int):=by omega
    have hgs:=great190 s hsa hsb
    cases i with
    | zero =>
      have h0:¬(0:Int)<((0:Nat):Int):=by omega
      simp(disch:=first|omega|(simp only[lenW]<;>omega)) only[hlt,hdr,hdl,h0,h1,h2,hs0,wV,simprocAttr]
      refine cp hgs ?_
      simp(disch:=first|omega|(simp only[lenW]<;>omega)) only[wV,simprocAttr]
      refine⟨1,by omega,by omega,?_⟩
      refine⟨[(50,.blk 50 0),(51,.blk 51 0)],rfl,au0,?_,au16⟩
      exact RB.cells rfl rfl gg (RnL.same hnr1) (RB.cells rfl rfl gg (RnL.same hnr2) RB.nil)
    | succ j =>
      obtain⟨⟨c',s'⟩,hcs'⟩:=Qag (l:=l) (i:=j) (by omega)
      have hdr':=SU.QcH hcs'
      have hcc:c'<c:=pw_at hp (i:=j) (by rw[List.getElem?_map,hcs'];rfl) (by rw[List.getElem?_map,hcs];rfl)
      have h0:(0:Int)<((j+1:Nat):Int):=by omega
      have h5:¬(c:Int)<=(c':Int):=by omega
      have h6:((j+1:Nat):Int)-1=(j:Int):=by omega
      have h7:j<l.length:=by omega
      have hle:((j+1:Nat):Int)<(l.length:Int):=by omega
      have hJt:((j+1:Nat):Int).toNat=j+1:=by omega
      have hJ2:0<=((j+1:Nat):Int):=by omega
      generalize hJJ:((j+1:Nat):Int)=J at*
      simp(disch:=first|omega|(simp only[lenW]<;>omega)) only[hlt,hle,hJt,hJ2,hdr,hdr',hdl,h0,h1,h2,hs0,h5,h6,h7,wV,simprocAttr]
      refine cp hgs ?_
      simp(disch:=first|omega|(simp only[lenW]<;>omega)) only[wV,simprocAttr]
      refine⟨j+2,by omega,by omega,?_⟩
      have hJ3:J+1=((j+2:Nat):Int):=by omega
      rw[hJ3]
      refine⟨[(50,.blk 50 0),(51,.blk 51 0)],rfl,au0,?_,au16⟩
      exact RB.cells rfl rfl gg (RnL.same hnr1) (RB.cells rfl rfl gg (RnL.same hnr2) RB.nil)
  · simp (disch := first | omega | (simp only [lenW] <;> omega)) only [hlt, wV, simprocAttr]
    refine cp hgb ?_
    simp(disch:=first|omega|(simp only[lenW]<;>omega)) only[wV,simprocAttr]
    exact⟨.inr trivial,_,rfl,rfl⟩
end Go.AM.SO
namespace Go.AM.SQ
open Go.Proofs
set_option maxHeartbeats 4000000
noncomputable section
def cf:YA.Cf:={most:= .pure,always:=[102].map fun k=>(k,.heap)}
def s32:SFn:=by
 refine(?f:YA.Yt Tryz.prog cf 32 [[0,2],[15,16,17],[1,18],[2,18,19],[],[23,24,25],[4,26,27,28],[1,20,21,22,30,29,41,40,39,38,31],[2,31,32],[20,21,22,30,29,41,40,39,38,33,34,35,36,37],[1,42],[2,42,43],[],[47,48,49,50],[5,51],[7,52,53,54,55],[56],[1,44,45,46,6,8,57,58],[2,6,8,57,59,60,61],[62],[1,44,45,46,9,63,64],[2,9,63,65],[44,45,46,66],[],[70,71,72,73],[10,74],[12,75,76,77,78],[79],[1,67,68,69,11,13,80,81],[2,11,13,80,82,83,84],[85],[1,67,68,69,14,86,87],[2,14,86,88],[1,67,68,69]]) ?s ?h
 case h=>exact YA.rr
 exact fun s _=>s
theorem ok32:okFn Tryz.prog 32 s32=true:=by kernel_rfl
end
end Go.AM.SQ
namespace Go.AM.SO
open Go.Proofs Go.AM.SD Go.AM.SE
def szs (c:Cel):List Nat:=c.cs.map (·.2.n)
theorem WfCel.comp {c:Cel} (h:WfCel c) {x:Nat×List (Nat×Nat)} (hx:x∈c.xs):∀l∈x.2,∃n,(szs c)[l.1]?=some n/\l.2<n:=fun l hl=>by
 obtain⟨y,h1,h2⟩:=(h.xl x hx).2.2 l hl
 exact⟨y.2.n,by unfold szs;rw[List.getElem?_map,h1];rfl,h2⟩
theorem WfCel.xlen {c:Cel} (h:WfCel c) {x:Nat×List (Nat×Nat)} (hx:x∈c.xs):x.2.length<=3:=by
  have h1:=QaX c.cs.length (x.2.map (·.1)) (by rw[List.nodup_iff_pairwise_ne];exact(h.xl x hx).2.1.imp fun h=>by omega) (fun y hy=>by
    obtain⟨l,hl,rfl⟩:=List.mem_map.1 hy
    obtain⟨z,h1,_⟩:=(h.xl x hx).2.2 l hl
    rcases Nat.lt_or_ge l.1 c.cs.length with h|h
    · exact h
    · rw[List.getElem?_eq_none h]at h1;cases h1)
  rw[List.length_map]at h1
  exact Nat.le_trans h1 h.c3
theorem WfCel.klen {c:Cel} (h:WfCel c) {x:List (Nat×Int)×Int} (hx:x∈c.ks):x.1.length<=3:=by
  have h1:=QaX c.cs.length (x.1.map (·.1)) (by rw[List.nodup_iff_pairwise_ne];exact(h.kl x hx).2.1.imp fun h=>by omega) (fun y hy=>by
    obtain⟨l,hl,rfl⟩:=List.mem_map.1 hy
    exact((h.kl x hx).2.2.1 l hl).1)
  rw[List.length_map]at h1
  exact Nat.le_trans h1 h.c3
theorem WfCel.slen {c:Cel} (h:WfCel c):(szs c).length=c.cs.length:=by simp[szs]
theorem WfCel.sz {c:Cel} (h:WfCel c):∀s∈szs c,1<=s/\s<=3:=fun s hs=>by
 obtain⟨x,hx,rfl⟩:=List.mem_map.1 hs
 exact⟨(h.ca x hx).pos,(h.ca x hx).n3⟩
theorem QfW {l:List (Nat×List (Nat×Nat))} {i:Nat} {x:Nat×List (Nat×Nat)} (h:l[i]?=some x):(l.flatMap exC).drop (i*2)= .str [101,UInt8.ofNat (48+x.1)]::los x.2::(l.drop (i+1)).flatMap exC:=QbB (f:=exC) (k:=2) (fun _=>rfl) h
theorem QfX {l:List (List (Nat×Int)×Int)} {i:Nat} {x:List (Nat×Int)×Int} (h:l[i]?=some x):(l.flatMap coC).drop (i*3)= .str [107]::tes x.1:: .int .i64 x.2::(l.drop (i+1)).flatMap coC:=QbB (f:=coC) (k:=3) (fun _=>rfl) h
theorem Qex (l:List (List (Nat×Int)×Int)):(l.flatMap coC).length=l.length*3:=Qbi (k:=3) (fun _=>rfl) l
theorem conds32 (c:Cel) (h:WfCel c):PSpec Tryz.prog 32 [cdV (szs c) c.xs c.ks] (.int .i64 0):=by
  have hnr:=@QbI (szs c) c.xs c.ks
  refine PSpec.Qal 64 SQ.ok32 rfl (by rw[noRefs,noRef,hnr];rfl) rfl ?_
  have hsl:=h.slen
  have hc3:=h.c3
  have hx2:=h.x2
  have hk1:=h.k1
  have g1:¬(8:Int)<((szs c).length:Int):=by omega
  have g2:¬(32:Int)<(c.xs.length:Int):=by omega
  have g3:¬(32:Int)<(c.ks.length:Int):=by omega
  have hxn:∀x∈c.xs,x.2≠[]/\x.2.length<=3:=fun x hx=>⟨(h.xl x hx).1,h.xlen hx⟩
  simp(disch:=first|omega|(simp only[lenW]<;>omega)) only[SQ.s32,g1,wW,wV,simprocAttr]
  refine Qaj 100 (fun i:Nat=>[(1,.ptr 50 0 0),(20,sliN (szs c)),(21,.int .i64 (szs c).length),(22,.int .i64 i)]) (fun _=>[(50,.cells 0 (cdC (szs c) c.xs c.ks))]) (fun i=>i<=(szs c).length) (fun i=>(szs c).length-i) 0 0 140
    (fun _:Unit=>[(1,.ptr 50 0 0)]) (fun _=>[(50,.cells 0 (cdC (szs c) c.xs c.ks))]) (fun _=>True) ⟨[(50,.blk 64 0)],rfl,au0,?_,au16⟩ (Nat.zero_le _) ?_ ?_
  · exact RB.cells rfl rfl gg (RnL.same hnr) RB.nil
  · rintro i hi
    by_cases hlt:i<(szs c).length
    · obtain ⟨s, hs⟩ := Qag hlt
      obtain⟨hs1,hs3⟩:=h.sz s (List.mem_of_getElem? hs)
      have q1:¬(s:Int)<1:=by omega
      have q2:¬(4096:Int)<(s:Int):=by omega
      simp(disch:=first|omega|(simp only[lenW]<;>omega)) only[hlt,Qaz hs,q1,q2,wW,wV,simprocAttr]
      refine⟨i+1,by omega,by omega,?_⟩
      refine⟨[(50,.blk 50 0)],rfl,au0,?_,au16⟩
      exact RB.cells rfl rfl gg (RnL.same hnr) RB.nil
    · simp (disch := first | omega | (simp only [lenW] <;> omega)) only [hlt, wW, wV, simprocAttr]
      refine⟨(),?_⟩
      refine⟨[(50,.blk 50 0)],rfl,au0,?_,au16⟩
      exact RB.cells rfl rfl gg (RnL.same hnr) RB.nil
  rintro _ _
  simp(disch:=first|omega|(simp only[lenW]<;>omega)) only[g2,g3,wW,wV,simprocAttr]
  refine Qaj 200 (fun i:Nat=>[(1,.ptr 50 0 0),(44,exs c.xs),(45,.int .i64 c.xs.length),(46,.int .i64 i)]) (fun _=>[(50,.cells 0 (cdC (szs c) c.xs c.ks))]) (fun i=>i<=c.xs.length) (fun i=>c.xs.length-i) 0 2 240
    (fun _:Unit=>[(1,.ptr 50 0 0)]) (fun _=>[(50,.cells 0 (cdC (szs c) c.xs c.ks))]) (fun _=>True) ⟨[(50,.blk 50 0)],rfl,au0,?_,au16⟩ (Nat.zero_le _) ?_ ?_
  · exact RB.cells rfl rfl gg (RnL.same hnr) RB.nil
  · rintro i hi
    by_cases hlt:i<c.xs.length
    · obtain ⟨x, hx⟩ := Qag hlt
      have hxm:=List.mem_of_getElem? hx
      have hdr:=QfW hx
      have hdl:2<=((c.xs.flatMap exC).drop (i*2)).length:=by rw[hdr];simp
      have hN:=SN.nameX hx hx2 h.xn.1 h.xn.2 hxn hnr
      have hE:=excl103 (szs c) c.xs c.ks x (by omega) (fun s hs=>by have:=h.sz s hs;omega) (by have:=h.xlen hxm;omega) (h.xl x hxm).1 (h.xl x hxm).2.1 (h.comp hxm)
      have hex:exC x=[.str [101,UInt8.ofNat (48+x.1)],los x.2]:=rfl
      rw[hex]at hE
      simp(disch:=first|omega|(simp only[lenW]<;>omega)) only[hlt,hdr,hdl,wW,wV,simprocAttr]
      refine SU.chc (HSpec.lend (FrzL.cons (FrzTo.same _) (FrzL.cons (FrzTo.fn FrzL.nil (FrzL.cons (FrzTo.ptr (g:=0) (cs:=cdC (szs c) c.xs c.ks) gg (FrzL.same _)) (FrzL.cons (FrzTo.ptr (g:=0) (cs:=[.int .i64 (i:Int)]) gg (FrzL.same _)) FrzL.nil))) FrzL.nil)) hN rfl) ?_
      simp(disch:=first|omega|(simp only[lenW]<;>omega)) only[wW,wV,simprocAttr]
      refine cp hE ?_
      simp(disch:=first|omega|(simp only[lenW]<;>omega)) only[wW,wV,simprocAttr]
      refine⟨i+1,by omega,by omega,?_⟩
      refine⟨[(50,.blk 50 0)],rfl,au0,?_,au16⟩
      exact RB.cells rfl rfl gg (RnL.same hnr) RB.nil
    · simp (disch := first | omega | (simp only [lenW] <;> omega)) only [hlt, wW, wV, simprocAttr]
      refine⟨(),?_⟩
      refine⟨[(50,.blk 50 0)],rfl,au0,?_,au16⟩
      exact RB.cells rfl rfl gg (RnL.same hnr) RB.nil
  rintro _ _
  simp(disch:=first|omega|(simp only[lenW]<;>omega)) only[wW,wV,simprocAttr]
  refine QaK 300 (fun i:Nat=>[(1,.ptr 50 0 0),(67,cos c.ks),(68,.int .i64 c.ks.length),(69,.int .i64 i)]) (fun _=>[(50,.cells 0 (cdC (szs c) c.xs c.ks))]) (fun i=>i<=c.ks.length) (fun i=>c.ks.length-i) 0 ⟨[(50,.blk 50 0)],rfl,au0,?_,au16⟩ (Nat.zero_le _) ?_
  · exact RB.cells rfl rfl gg (RnL.same hnr) RB.nil
  rintro i hi
  by_cases hlt:i<c.ks.length
  · obtain ⟨x, hx⟩ := Qag hlt
    have hi0:i=0:=by omega
    subst hi0
    have hxm:=List.mem_of_getElem? hx
    have hdr:=QfX hx
    rw[Nat.zero_mul]at hdr
    have hdl:3<=(c.ks.flatMap coC).length:=by rw[Qex];omega
    have hks:c.ks=[x]:=by
      match hk:c.ks,hx,hk1 with
      |[y],hx,_=>simp at hx;rw[hx]
    have hN:=SN.nameK (S:=sliN (szs c)) (X:=exs c.xs) hks hnr
    obtain⟨k1,k2,k3,k4,k5⟩:=h.kl x hxm
    have hE:=cons105 (szs c) c.xs c.ks x (by omega) (by have:=h.klen hxm;omega) k1 k2 (fun l hl=>by obtain⟨q1,q2,q3,q4⟩:=k3 l hl;exact⟨by omega,q2,by omega,by omega⟩) ⟨by omega,by omega⟩
    have hex:coC x=[.str [107],tes x.1,.int .i64 x.2]:=rfl
    rw[hex]at hE
    have hlt0:(0:Int)<(c.ks.length:Int):=by omega
    rw[List.drop_zero]at hdr
    have htk:List.take 3 (c.ks.flatMap coC)=[.str [107],tes x.1,.int .i64 x.2]:=by rw[hdr];rfl
    simp(disch:=first|omega|(simp only[lenW]<;>omega)) only[hlt,hlt0,htk,hdl,wW,wV,simprocAttr]
    refine SU.chc (HSpec.lend (FrzL.cons (FrzTo.same _) (FrzL.cons (FrzTo.fn FrzL.nil (FrzL.cons (FrzTo.ptr (g:=0) (cs:=cdC (szs c) c.xs c.ks) gg (FrzL.same _)) (FrzL.cons (FrzTo.ptr (g:=0) (cs:=[.int .i64 0]) gg (FrzL.same _)) FrzL.nil))) FrzL.nil)) hN rfl) ?_
    simp(disch:=first|omega|(simp only[lenW]<;>omega)) only[wW,wV,simprocAttr]
    refine cp hE ?_
    simp(disch:=first|omega|(simp only[lenW]<;>omega)) only[wW,wV,simprocAttr]
    refine⟨1,by omega,by omega,?_⟩
    refine⟨[(50,.blk 50 0)],rfl,au0,?_,au16⟩
    exact RB.cells rfl rfl gg (RnL.same hnr) RB.nil
  · simp (disch := first | omega | (simp only [lenW] <;> omega)) only [hlt, wW, wV, simprocAttr]
    exact⟨.inr trivial,_,rfl,rfl⟩
end Go.AM.SO
namespace Go.AM.SO
open Go.Proofs Go.AM.SD Go.AM.SE
theorem Qcx {α:Type} {f:α->List AV} (hf:∀x,(f x).all AV.one=true):∀l:List α,(l.flatMap f).all AV.one=true
 |[]=>rfl
 |x::l=>by rw[List.flatMap_cons,List.all_append,hf,Qcx hf l];rfl
theorem clone148 (l:List (Nat×Nat)) (hl:l.length<=1000) (hne:l≠[]):PSpec Tryz.prog 148 [los l] (los l):=by
 refine PSpec.of_rn 100 ok148 rfl (by rw[noRefs,SU.QbT];rfl) (SU.QbT _) ?_
 have hq:aEqN false (los l)= .ret (.bool false):=by
  match l,hne with
  |x::l,_=>rfl
 have hone:(l.flatMap loC).all AV.one=true:=Qcx (fun _=>rfl) l
 have hln:=SU.QfM l
 simp(disch:=first|omega|(simp only[lenW]<;>omega)) only[s148,hq,hone,hln,wW,wV,simprocAttr]
 exact⟨.inr trivial,_,rfl,Rn.fz0 rfl hln (RnL.same (SU.Qa0 _))⟩
theorem clone149 (l:List (Nat×Int)) (hl:l.length<=1000) (hne:l≠[]):PSpec Tryz.prog 149 [tes l] (tes l):=by
 refine PSpec.of_rn 100 ok149 rfl (by rw[noRefs,SU.Qcf];rfl) (SU.Qcf _) ?_
 have hq:aEqN false (tes l)= .ret (.bool false):=by
  match l,hne with
  |x::l,_=>rfl
 have hone:(l.flatMap teC).all AV.one=true:=Qcx (fun _=>rfl) l
 have hln:=SU.Qcr l
 simp(disch:=first|omega|(simp only[lenW]<;>omega)) only[s149,hq,hone,hln,wW,wV,simprocAttr]
 exact⟨.inr trivial,_,rfl,Rn.fz0 rfl hln (RnL.same (SU.QaG _))⟩
theorem take_succ' {α:Type} {l:List α} {i:Nat} {x:α} (h:l[i]?=some x):l.take (i+1)=l.take i++[x]:=by
 rw[List.take_add_one,h];rfl
theorem QrO {x:Nat×List (Nat×Nat)}:List.flatMap exC [x]=[.str [101,UInt8.ofNat (48+x.1)],los x.2]:=rfl
theorem QrP {x:List (Nat×Int)×Int}:List.flatMap coC [x]=[.str [107],tes x.1,.int .i64 x.2]:=rfl
theorem conds85 (c:Cel) (h:WfCel c):PSpec Tryz.prog 85 [celV c] (cdV (szs c) c.xs c.ks):=by
  have hnr:noRefs [evsV c.ev,its 99 c.cs,its 114 c.rs,exs c.xs,cos c.ks]=true:=by
    have:=SU.Qa8 c
    rwa [celV,noRef]at this
  refine PSpec.of_rn 64 ok85 rfl (by rw[noRefs,SU.Qa8];rfl) (by rw[noRef];exact QbI) ?_
  have hc3:=h.c3
  have hx2:=h.x2
  have hk1:=h.k1
  have hci:=@SU.Qdq 99 c.cs
  have hxi:=SU.Qdp c.xs
  have hki:=Qex c.ks
  simp(disch:=first|omega|(simp only[lenW]<;>omega)) only[s85,wW,wV,simprocAttr]
  refine Qaj 100 (fun i:Nat=>[(1,.ptr 50 0 0),(2,.ptr 51 0 0),(3,.ptr 52 0 0),(12,its 99 c.cs),(13,.int .i64 c.cs.length),(14,.int .i64 i)]) (fun i=>[(50,.cells 0 [evsV c.ev,its 99 c.cs,its 114 c.rs,exs c.xs,cos c.ks]),(51,.cells 0 [.nilsl,.nilsl,.nilsl]),(52,.cells 0 [.sl 76 0 0 (szs c|>.take i).length 1,.nilsl,.nilsl]),(76,.cells 0 (ints (nz ((szs c).take i))))]) (fun i=>i<=c.cs.length) (fun i=>c.cs.length-i) 0 0 160
    (fun _:Unit=>[(1,.ptr 50 0 0),(2,.ptr 51 0 0),(3,.ptr 52 0 0)]) (fun _=>[(50,.cells 0 [evsV c.ev,its 99 c.cs,its 114 c.rs,exs c.xs,cos c.ks]),(51,.cells 0 [.nilsl,.nilsl,.nilsl]),(52,.cells 0 [sliN (szs c),.nilsl,.nilsl])]) (fun _=>True) ⟨[(50,.blk 64 0),(51,.blk 65 0),(52,.blk 67 0),(76,.nil)],rfl,au0,?_,au16⟩ (Nat.zero_le _) ?_ ?_
  · exact RB.cells rfl rfl gg (RnL.same hnr) (RB.cells rfl rfl gg (RnL.same rfl) (RB.cells rfl rfl gg (RnL.cons (Rn.x4 rfl rfl) (RnL.same rfl)) (RB.newnil rfl rfl RB.nil)))
  · rintro i hi
    by_cases hlt:i<c.cs.length
    · obtain ⟨x, hx⟩ := Qag hlt
      have hdr:=SU.QcJ (ch:=99) hx
      have hdl:5<=((c.cs.flatMap (itC 99)).drop (i*5)).length:=by rw[hdr];simp
      have hsx:(szs c)[i]?=some x.2.n:=by unfold szs;rw[List.getElem?_map,hx];rfl
      have hsuc:=take_succ' hsx
      have htl:((szs c).take i).length=i:=by rw[List.length_take,h.slen];omega
      have hone:=@SU.Qdw [99,UInt8.ofNat (48+x.1)] x.2
      simp(disch:=first|omega|(simp only[lenW]<;>omega)) only[hlt,hdr,hdl,htl,wW,wV,simprocAttr]
      refine⟨i+1,by omega,by omega,?_⟩
      rw[hsuc,List.length_append,QaI,QaB,htl]
      refine⟨[(50,.blk 50 0),(51,.blk 51 0),(52,.blk 52 0),(76,.blk 76 1)],rfl,au0,?_,au16⟩
      exact RB.cells rfl rfl gg (RnL.same hnr) (RB.cells rfl rfl gg (RnL.same rfl) (RB.cells rfl rfl gg (RnL.cons (Rn.x1 rfl rfl) (RnL.same rfl)) (RB.cells rfl rfl gg (RnL.same (SU.Qas (Qae _) rfl)) RB.nil)))
    · have e : i = c.cs.length := by omega
      subst e
      have hta:(szs c).take c.cs.length=szs c:=by rw[<-h.slen,List.take_length]
      simp(disch:=first|omega|(simp only[lenW]<;>omega)) only[hlt,hta,wW,wV,simprocAttr]
      refine⟨(),?_⟩
      refine⟨[(50,.blk 50 0),(51,.blk 51 0),(52,.blk 52 0)],rfl,au0,?_,au16⟩
      exact RB.cells rfl rfl gg (RnL.same hnr) (RB.cells rfl rfl gg (RnL.same rfl) (RB.cells rfl rfl gg (RnL.cons (Rn.fzm rfl rfl rfl rfl (by simp[ints]) (RnL.same (Qae _))) (RnL.same rfl)) RB.nil))
  rintro _ _
  simp(disch:=first|omega|(simp only[lenW]<;>omega)) only[wW,wV,simprocAttr]
  refine Qaj 200 (fun i:Nat=>[(1,.ptr 50 0 0),(2,.ptr 51 0 0),(3,.ptr 52 0 0),(28,exs c.xs),(29,.int .i64 c.xs.length),(30,.int .i64 i)]) (fun i=>[(50,.cells 0 [evsV c.ev,its 99 c.cs,its 114 c.rs,exs c.xs,cos c.ks]),(51,.cells 0 [.nilsl,.nilsl,.nilsl]),(52,.cells 0 [sliN (szs c),.sl 77 0 0 (c.xs.take i).length 2,.nilsl]),(77,.cells 0 ((c.xs.take i).flatMap exC))]) (fun i=>i<=c.xs.length) (fun i=>c.xs.length-i) 0 2 260
    (fun _:Unit=>[(1,.ptr 50 0 0),(2,.ptr 51 0 0),(3,.ptr 52 0 0)]) (fun _=>[(50,.cells 0 [evsV c.ev,its 99 c.cs,its 114 c.rs,exs c.xs,cos c.ks]),(51,.cells 0 [.nilsl,.nilsl,.nilsl]),(52,.cells 0 [sliN (szs c),exs c.xs,.nilsl])]) (fun _=>True) ⟨[(50,.blk 50 0),(51,.blk 51 0),(52,.blk 52 0),(77,.nil)],rfl,au0,?_,au16⟩ (Nat.zero_le _) ?_ ?_
  · exact RB.cells rfl rfl gg (RnL.same hnr) (RB.cells rfl rfl gg (RnL.same rfl) (RB.cells rfl rfl gg (RnL.cons (Rn.same (Qab _)) (RnL.cons (Rn.x4 rfl rfl) (RnL.same rfl))) (RB.newnil rfl rfl RB.nil)))
  · rintro i hi
    by_cases hlt:i<c.xs.length
    · obtain ⟨x, hx⟩ := Qag hlt
      have hxm:=List.mem_of_getElem? hx
      have hdr:=QfW hx
      have hdl:2<=((c.xs.flatMap exC).drop (i*2)).length:=by rw[hdr];simp
      have hsuc:=take_succ' hx
      have htl:(c.xs.take i).length=i:=by rw[List.length_take];omega
      have hcl:=clone148 x.2 (by have:=h.xlen hxm;omega) (h.xl x hxm).1
      have hxl:=SU.Qdp (c.xs.take i)
      rw[htl]at hxl
      simp(disch:=first|omega|(simp only[lenW]<;>omega)) only[hlt,hdr,hdl,htl,wW,wV,simprocAttr]
      refine cp hcl ?_
      simp(disch:=first|omega|(simp only[lenW]<;>omega)) only[hxl,wW,wV,simprocAttr]
      refine⟨i+1,by omega,by omega,?_⟩
      rw[hsuc,List.length_append,List.flatMap_append,htl,QrO]
      refine⟨[(50,.blk 50 0),(51,.blk 51 0),(52,.blk 52 0),(77,.blk 77 1)],rfl,au0,?_,au16⟩
      exact RB.cells rfl rfl gg (RnL.same hnr) (RB.cells rfl rfl gg (RnL.same rfl) (RB.cells rfl rfl gg (RnL.cons (Rn.same (Qab _)) (RnL.cons (Rn.x1 rfl rfl) (RnL.same rfl))) (RB.cells rfl rfl gg (RnL.same (SU.Qas (SU.QaY _) (by rw[noRefs,noRefs,SU.QbT];rfl))) RB.nil)))
    · have e : i = c.xs.length := by omega
      subst e
      simp(disch:=first|omega|(simp only[lenW]<;>omega)) only[hlt,List.take_length,wW,wV,simprocAttr]
      refine⟨(),?_⟩
      refine⟨[(50,.blk 50 0),(51,.blk 51 0),(52,.blk 52 0)],rfl,au0,?_,au16⟩
      exact RB.cells rfl rfl gg (RnL.same hnr) (RB.cells rfl rfl gg (RnL.same rfl) (RB.cells rfl rfl gg (RnL.cons (Rn.same (Qab _)) (RnL.cons (Rn.fzm rfl rfl rfl rfl (SU.Qdp _) (RnL.same (SU.QaY _))) (RnL.same rfl))) RB.nil))
  rintro _ _
  simp(disch:=first|omega|(simp only[lenW]<;>omega)) only[wW,wV,simprocAttr]
  refine Qaj 300 (fun i:Nat=>[(2,.ptr 51 0 0),(3,.ptr 52 0 0),(47,cos c.ks),(48,.int .i64 c.ks.length),(49,.int .i64 i)]) (fun i=>[(51,.cells 0 [.nilsl,.nilsl,.nilsl]),(52,.cells 0 [sliN (szs c),exs c.xs,.sl 78 0 0 (c.ks.take i).length 3]),(78,.cells 0 ((c.ks.take i).flatMap coC))]) (fun i=>i<=c.ks.length) (fun i=>c.ks.length-i) 0 4 360
    (fun _:Unit=>[(2,.ptr 51 0 0),(3,.ptr 52 0 0)]) (fun _=>[(51,.cells 0 [.nilsl,.nilsl,.nilsl]),(52,.cells 0 [sliN (szs c),exs c.xs,cos c.ks])]) (fun _=>True) ⟨[(51,.blk 51 0),(52,.blk 52 0),(78,.nil)],rfl,au0,?_,au16⟩ (Nat.zero_le _) ?_ ?_
  · exact RB.cells rfl rfl gg (RnL.same rfl) (RB.cells rfl rfl gg (RnL.cons (Rn.same (Qab _)) (RnL.cons (Rn.same (SU.Qbr _)) (RnL.cons (Rn.x4 rfl rfl) RnL.nil))) (RB.newnil rfl rfl RB.nil))
  · rintro i hi
    by_cases hlt:i<c.ks.length
    · obtain ⟨x, hx⟩ := Qag hlt
      have hxm:=List.mem_of_getElem? hx
      have hdr:=QfX hx
      have hdl:3<=((c.ks.flatMap coC).drop (i*3)).length:=by rw[hdr];simp
      have hsuc:=take_succ' hx
      have htl:(c.ks.take i).length=i:=by rw[List.length_take];omega
      have hcl:=clone149 x.1 (by have:=h.klen hxm;omega) (h.kl x hxm).1
      have hxl:=Qex (c.ks.take i)
      rw[htl]at hxl
      simp(disch:=first|omega|(simp only[lenW]<;>omega)) only[hlt,hdr,hdl,htl,wW,wV,simprocAttr]
      refine cp hcl ?_
      simp(disch:=first|omega|(simp only[lenW]<;>omega)) only[hxl,wW,wV,simprocAttr]
      refine⟨i+1,by omega,by omega,?_⟩
      rw[hsuc,List.length_append,List.flatMap_append,htl,QrP]
      refine⟨[(51,.blk 51 0),(52,.blk 52 0),(78,.blk 78 1)],rfl,au0,?_,au16⟩
      exact RB.cells rfl rfl gg (RnL.same rfl) (RB.cells rfl rfl gg (RnL.cons (Rn.same (Qab _)) (RnL.cons (Rn.same (SU.Qbr _)) (RnL.cons (Rn.x1 rfl rfl) RnL.nil))) (RB.cells rfl rfl gg (RnL.same (SU.Qas (SU.QbU _) (by rw[noRefs,noRefs,SU.Qcf];rfl))) RB.nil))
    · have e : i = c.ks.length := by omega
      subst e
      simp(disch:=first|omega|(simp only[lenW]<;>omega)) only[hlt,List.take_length,wW,wV,simprocAttr]
      refine⟨(),?_⟩
      refine⟨[(51,.blk 51 0),(52,.blk 52 0)],rfl,au0,?_,au16⟩
      exact RB.cells rfl rfl gg (RnL.same rfl) (RB.cells rfl rfl gg (RnL.cons (Rn.same (Qab _)) (RnL.cons (Rn.same (SU.Qbr _)) (RnL.cons (Rn.fzm rfl rfl rfl rfl (Qex _) (RnL.same (SU.QbU _))) RnL.nil))) RB.nil)
  rintro _ _
  simp(disch:=first|omega|(simp only[lenW]<;>omega)) only[wW,wV,simprocAttr]
  refine⟨.inr trivial,_,rfl,?_⟩
  exact Rn.same (by rw[noRef];exact QbI)
end Go.AM.SO
namespace Go.AM.SO
open Go.Proofs Go.AM.SD Go.AM.SE
def idxQ {α:Type} (q:α->Bool) (l:List α):Int:=if l.any q then(l.findIdx q:Int)else-1
theorem QbV {α:Type} {q:α->Bool} {l:List α} (h:∀x∈l,q x=false):idxQ q l= -1:=by
 unfold idxQ
 rw[if_neg]
 rw[List.any_eq_true]
 rintro⟨x,hx,hq⟩
 rw[h x hx]at hq;cases hq
theorem Qco {α:Type} {q:α->Bool} {l:List α} {i:Nat} {x:α} (hx:l[i]?=some x) (hq:q x=true) (hb:∀(j:Nat) y,j<i->l[j]?=some y->q y=false):idxQ q l=i:=by
 have hlt:i<l.length:=by
  rcases Nat.lt_or_ge i l.length with h|h
  ·exact h
  ·rw[List.getElem?_eq_none h]at hx;cases hx
 have h1:l.any q=true:=List.any_eq_true.2 ⟨x,List.mem_of_getElem? hx,hq⟩
 have h2:l.findIdx q=i:=by
  rw[List.findIdx_eq hlt]
  refine⟨by rw[List.getElem?_eq_getElem hlt]at hx;cases hx;exact hq,fun j hj=>hb j l[j] hj (List.getElem?_eq_getElem (by omega))⟩
 unfold idxQ
 rw[if_pos h1,h2]
theorem QfY {α:Type} {q:α->Bool} {l:List α}:decide (0<=idxQ q l)=l.any q:=by
 unfold idxQ
 cases h:l.any q
 ·simp
 ·simp
theorem Qa1 {K:Nat} {cap:List AV} (h:noRefs cap=true):noRef (.fn K [] cap)=true:=by
 simp only[noRef,noRefs,h];rfl
theorem index110 {K : Nat} {cap : List AV} (q : Nat -> Bool) (l : List Nat) (hl : l.length <= 1000000) (hc : noRefs cap = true) (hk : ∀ x ∈ l, PSpec Tryz.prog K (.int .i64 (x : Int) :: cap) (.bool (q x))) : PSpec Tryz.prog 110 [sliN l, .fn K [] cap] (.int .i64 (idxQ q l)) := by
  refine PSpec.Qal 64 ok110 rfl (by rw[noRefs,noRefs,Qa1 hc,(Qab _)];rfl) rfl ?_
  have hfn:=Qa1 (K:=K) hc
  have hln:=(show(ints (nz l)).length=l.length*1 by simp[ints])
  simp(disch:=first|omega|(simp only[lenW]<;>omega)) only[s110,List.append_nil,wW,wV,simprocAttr]
  refine QaK 100 (fun i:Nat=>[(0,sliN l),(1,.fn K [] cap),(7,.int .i64 l.length),(8,.int .i64 i)]) (fun _=>[]) (fun i=>i<=l.length/\∀(j:Nat) y,j<i->l[j]?=some y->q y=false) (fun i=>l.length-i) 0 ?_ ⟨Nat.zero_le _,fun j y hj=>absurd hj (Nat.not_lt_zero _)⟩ ?_
  · exact⟨[],rfl,RO.zero,RB.nil,RT.cons (Rn.same (Qab _)) (RT.cons (Rn.same hfn) (RT.cons (Rn.same rfl) (RT.cons (Rn.same rfl) RT.nil)))⟩
  rintro i ⟨hi,hb⟩
  by_cases hlt:i<l.length
  · obtain ⟨x, hx⟩ := Qag hlt
    have hn:=hk x (List.mem_of_getElem? hx)
    have hdr:=Qaz hx
    have hdl:1<=(List.drop (i*1) (ints (nz l))).length:=by rw[List.length_drop,hln];omega
    cases hq:q x
    · rw [hq] at hn
      simp(disch:=first|omega|(simp only[lenW]<;>omega)) only[hlt,hdr,hdl,List.head?_cons,List.append_nil,wW,wV,simprocAttr]
      refine⟨_,by simpa using hn,?_⟩
      simp(disch:=first|omega|(simp only[lenW]<;>omega)) only[List.append_nil,wW,wV,simprocAttr]
      refine⟨i+1,by omega,⟨by omega,fun j y hj hy=>?_⟩,?_⟩
      · by_cases e : j = i
        · subst e;rw[hx]at hy;cases hy;exact hq
        · exact hb j y (by omega) hy
      · exact⟨[],rfl,RO.zero,RB.nil,RT.cons (Rn.same (Qab _)) (RT.cons (Rn.same hfn) (RT.cons (Rn.same rfl) (RT.cons (Rn.same rfl) RT.nil)))⟩
    · rw [hq] at hn
      simp(disch:=first|omega|(simp only[lenW]<;>omega)) only[hlt,hdr,hdl,List.head?_cons,List.append_nil,wW,wV,simprocAttr]
      refine⟨_,by simpa using hn,?_⟩
      simp(disch:=first|omega|(simp only[lenW]<;>omega)) only[List.append_nil,wW,wV,simprocAttr]
      refine⟨.inr trivial,_,rfl,?_⟩
      rw[Qco hx hq hb];rfl
  · simp (disch := first | omega | (simp only [lenW] <;> omega)) only [hlt, List.append_nil, wW, wV, simprocAttr]
    refine⟨.inr trivial,_,rfl,?_⟩
    rw[QbV fun x hx=>by
      obtain⟨j,hj,hjl⟩:=List.getElem_of_mem hx
      exact hb j x (by omega) (by rw[List.getElem?_eq_getElem hj,hjl])];rfl
theorem contains36 {K:Nat} {cap:List AV} (q:Nat->Bool) (l:List Nat) (hl:l.length<=1000000) (hc:noRefs cap=true) (hk:∀x∈l,PSpec Tryz.prog K (.int .i64 (x:Int)::cap) (.bool (q x))):PSpec Tryz.prog 36 [sliN l,.fn K [] cap] (.bool (l.any q)):=by
 refine PSpec.Qal 64 ok36 rfl (by rw[noRefs,noRefs,Qa1 hc,Qab];rfl) rfl ?_
 simp(disch:=first|omega|(simp only[lenW]<;>omega)) only[s36,List.append_nil,wW,wV,simprocAttr]
 refine cp (index110 q l hl hc hk) ?_
 have e:=@QfY Nat q l
 cases h:l.any q
 ·rw [h, decide_eq_false_iff_not] at e
  simp(disch:=first|omega|(simp only[lenW]<;>omega)) only[e,List.append_nil,wW,wV,simprocAttr]
  exact⟨.inr trivial,_,rfl,rfl⟩
 ·rw [h, decide_eq_true_eq] at e
  simp(disch:=first|omega|(simp only[lenW]<;>omega)) only[e,List.append_nil,wW,wV,simprocAttr]
  exact⟨.inr trivial,_,rfl,rfl⟩
theorem ge166 (x:Nat):PSpec Tryz.prog 166 [.int .i64 (x:Int),.fptr [.int .i64 5]] (.bool (decide (5<=x))):=by
 refine PSpec.Qal 64 ok166 rfl rfl rfl ?_
 have e:decide ((5:Int)<=(x:Int))=decide (5<=x):=decide_eq_decide.2 (by omega)
 simp(disch:=first|omega|(simp only[lenW]<;>omega)) only[s166,e,List.append_nil,wW,wV,simprocAttr]
 exact⟨.inr trivial,_,rfl,rfl⟩
end Go.AM.SO
namespace Go.AM.SR
open Go.Proofs
set_option maxHeartbeats 4000000
noncomputable section
def cf:YA.Cf:={most:= .pure,always:=[36].map fun k=>(k,.heap)}
def s83:SFn:=by
 refine(?f:YA.Yt Tryz.prog cf 83 [[0,1,8],[11,12,13,14],[2,3,4,5,10],[10,16,17,18,19],[2,3,4,5,15],[8,3,15,20,21,22],[23,24,25],[26],[2,4,5,9,27,28],[8,9,27,30,31,32,33],[2,4,5,29],[29,35,36,37,38],[2,4,5,34],[5,34,40,41,42,43,44],[2,4,39],[2,4,39,46,47,48,49,50,51],[45],[45]]) ?s ?h
 case h=>exact YA.rr
 exact fun s _=>s
theorem ok83:okFn Tryz.prog 83 s83=true:=by kernel_rfl
end
end Go.AM.SR
namespace Go.AM.SO
open Go.Proofs Go.AM.SD Go.AM.SE
theorem QoO {A B:List Nat} (hA:A.Pairwise (· < ·)) (hB:B.Pairwise (· < ·)) (h:∀x∈A,x∈B):mrg (fun a b=>a&& !b) A B=[]:=by
 rw[List.eq_nil_iff_forall_not_mem]
 intro x hx
 obtain⟨h1,h2⟩:=(QbF hA hB).1 hx
 simp at h1
 exact h1.2 (h x h1.1)
theorem Qey {a:Aut} (h:WfA a):a.al.length<=5:=QaX 5 a.al (by rw[List.nodup_iff_pairwise_ne];exact h.al.imp fun h=>by omega) h.al5
abbrev nmsB (l:List (List UInt8)):Blk:= .map 0 (mapS yes l)
theorem item83 (nm:List UInt8) (a:Aut) (B:List Nat) (names:List (List UInt8)) (h:WfI a) (hN:PSpec Tryz.prog 135 [.str nm] (.bool true)) (hn:nm∉names) (hnl:names.length<=100) (hB:B.Pairwise (· < ·)) (hBl:B.length<=1000000) (hs:∀x∈a.al,x∈B):
  HSpec Tryz.prog 83 [.agg [.str nm,sliN a.al,.int .i64 (a.n:Int),sliN a.ms,egsN a.es],.int .i64 5,sliN B,.map 68 0] (hp [(68,nmsB names)]) (.int .i64 0) (hp [(68,nmsB (names++[nm]))]):=by
 have hal:=Qey h.wf
 have hel:a.es.length<=1000000:=Nat.le_trans h.el (by decide)
 have hC:=check112 a h.wf hel
 have hI:=isCanon60 a h.wf hel h.can
 have hp0:=h.pos
 have hn0:¬(a.n:Int)=0:=by omega
 have h36:=contains36 (K:=166) (cap:=[.fptr [.int .i64 5]]) (fun x=>decide (5<=x)) a.al (by omega) rfl (fun x _=>ge166 x)
 have hany:a.al.any (fun x=>decide (5<=x))=false:=by
  rw[List.any_eq_false]
  intro x hx
  have:=h.wf.al5 x hx
  simp;omega
 rw[hany]at h36
 have hsub:=subset167 a.al B (by omega) hBl
 rw[QoO h.wf.al hB hs]at hsub
 have hsub':PSpec Tryz.prog 167 [sliN a.al,sliN B] (.bool true):=hsub
 refine HSpec.Qrd (m:=69) 100 SR.ok83 rfl rfl rfl ?_
 simp(disch:=first|omega|(simp only[lenW]<;>omega)) only[SR.s83,wW,wV,simprocAttr]
 refine cp hN ?_
 simp(disch:=first|omega|(simp only[lenW]<;>omega)) only[wW,wV,simprocAttr]
 refine QfE gg hn ?_
 simp(disch:=first|omega|(simp only[lenW]<;>omega)) only[wW,wV,simprocAttr]
 refine QdY gg hn (by omega) ?_
 simp(disch:=first|omega|(simp only[lenW]<;>omega)) only[Qg5,wW,wV,simprocAttr]
 refine cp hC ?_
 simp(disch:=first|omega|(simp only[lenW]<;>omega)) only[wW,wV,simprocAttr]
 refine cp hI ?_
 simp(disch:=first|omega|(simp only[lenW]<;>omega)) only[hn0,wW,wV,simprocAttr]
 refine SU.chc (HSpec.lend (FrzL.cons (FrzTo.same _) (FrzL.cons (FrzTo.fn FrzL.nil (FrzL.cons (FrzTo.ptr (g:=0) (cs:=[.int .i64 5]) gg (FrzL.same _)) FrzL.nil)) FrzL.nil)) h36 rfl) ?_
 simp(disch:=first|omega|(simp only[lenW]<;>omega)) only[wW,wV,simprocAttr]
 refine cp hsub' ?_
 simp(disch:=first|omega|(simp only[lenW]<;>omega)) only[wW,wV,simprocAttr]
 refine⟨.inr trivial,_,rfl,rfl,?_⟩
 refine⟨[(68,.nil)],rfl,au0,?_,au16⟩
 exact RB.mapB rfl gg (RnM.mapS fun _ _=>Rn.same rfl) RB.nil
theorem item83F {h:Heap} (nm:List UInt8) (a:Aut) (B:List Nat) (names:List (List UInt8)) (hw:WfI a) (hN:PSpec Tryz.prog 135 [.str nm] (.bool true)) (hn:nm∉names) (hnl:names.length<=100) (hB:B.Pairwise (· < ·)) (hBl:B.length<=1000000) (hs:∀x∈a.al,x∈B) (h68:h.get 68=some (nmsB names)):
  HSpec Tryz.prog 83 [.agg [.str nm,sliN a.al,.int .i64 (a.n:Int),sliN a.ms,egsN a.es],.int .i64 5,sliN B,.map 68 0] h (.int .i64 0) (h.set 68 (nmsB (names++[nm]))):=by
 have hm:∀(l:List (List UInt8)),∀e∈mapS yes l,noRef e.1=true/\noRef e.2=true:=fun l e he=>by
  unfold mapS at he
  obtain⟨x,_,rfl⟩:=List.mem_map.1 he
  exact⟨rfl,rfl⟩
 exact HSpec.frameM (item83 nm a B names hw hN hn hnl hB hBl hs) (OnlyD.cons (OnlyD.same (by rw[noRef];exact SU.Qdw)) (OnlyD.cons (OnlyD.same rfl) (OnlyD.cons (OnlyD.same (Qab _)) (OnlyD.cons (OnlyD.map rfl) OnlyD.nil)))) (OnlyD.same rfl) (hm _) (hm _) h68 rfl
end Go.AM.SO
namespace Go.AM.SO
open Go.Proofs Go.AM.SD Go.AM.SE
def uUp (l:List (Nat×Aut)):List Nat:=l.foldl (fun out x=>mrg (fun a b=>a||b) out x.2.al) []
theorem Qin:∀{l:List (Nat×Aut)} {out:List Nat},out.Pairwise (· < ·)->(∀x∈l,x.2.al.Pairwise (· < ·))->
  (l.foldl (fun out x=>mrg (fun a b=>a||b) out x.2.al) out).Pairwise (· < ·)/\∀e,e∈l.foldl (fun out x=>mrg (fun a b=>a||b) out x.2.al) out↔e∈out\/∃y∈l,e∈y.2.al
 |[],out,h,_=>⟨h,fun e=>by simp⟩
 | x :: l, out, h, hl => by
  have hx:=hl x (by simp)
  obtain⟨h1,h2⟩:=Qin (l:=l) (Qcn (k:=fun a b=>a||b) h hx) fun y hy=>hl y (by simp[hy])
  refine⟨h1,fun e=>?_⟩
  rw[List.foldl_cons,h2 e,QbF h hx]
  simp only[List.mem_cons,exists_eq_or_imp,Bool.or_eq_true,decide_eq_true_eq]
  constructor
  ·rintro (⟨h3, _⟩ | h3)
   ·rcases h3 with h3 | h3
    ·exact .inl h3
    ·exact .inr (.inl h3)
   ·exact .inr (.inr h3)
  ·rintro (h3 | h3 | h3)
   ·exact .inl ⟨.inl h3,.inl h3⟩
   ·exact .inl ⟨.inr h3,.inr h3⟩
   ·exact .inr h3
theorem Qe4 {l:List (Nat×Aut)} (h:∀x∈l,WfI x.2):(uUp l).Pairwise (· < ·):=(Qin (by simp) fun x hx=>(h x hx).wf.al).1
theorem QfZ {l:List (Nat×Aut)} (h:∀x∈l,WfI x.2) {e:Nat}:e∈uUp l↔∃y∈l,e∈y.2.al:=by
 have:=(Qin (l:=l) (out:=[]) (by simp) fun x hx=>(h x hx).wf.al).2 e
 simpa[uUp]using this
theorem Qio {l:List (Nat×Aut)} (h:∀x∈l,WfI x.2):(uUp l).length<=5:=by
 refine QaX 5 _ (by rw[List.nodup_iff_pairwise_ne];exact(Qe4 h).imp fun h=>by omega) fun x hx=>?_
 obtain⟨y,hy,he⟩:=(QfZ h).1 hx
 exact(h y hy).wf.al5 x he
theorem QpQ {l:List (Nat×Aut)} {i:Nat} {x:Nat×Aut} (h:l[i]?=some x):uUp (l.take (i+1))=mrg (fun a b=>a||b) (uUp (l.take i)) x.2.al:=by
 unfold uUp
 rw[take_succ' h,List.foldl_append];rfl
def nmsI (ch:UInt8) (l:List (Nat×Aut)):List (List UInt8):=l.map fun x=>[ch,UInt8.ofNat (48+x.1)]
theorem Qk2 {ch:UInt8} {l:List (Nat×Aut)} {i:Nat} {x:Nat×Aut} (h:l[i]?=some x):nmsI ch (l.take (i+1))=nmsI ch (l.take i)++[[ch,UInt8.ofNat (48+x.1)]]:=by
 unfold nmsI
 rw[take_succ' h,List.map_append];rfl
theorem QqE {a b:Nat} (ha:a<10) (hb:b<10) (h:UInt8.ofNat (48+a)=UInt8.ofNat (48+b)):a=b:=by
 have:=congrArg UInt8.toNat h
 simp at this
 omega
theorem QhR {l:List (Nat×Aut)} (h:l.map (·.1)=List.range l.length) {i:Nat} {x:Nat×Aut} (hx:l[i]?=some x):x.1=i/\i<l.length:=by
 have hi:i<l.length:=by
  rcases Nat.lt_or_ge i l.length with h|h
  ·exact h
  ·rw[List.getElem?_eq_none h]at hx;cases hx
 have h1:(l.map (·.1))[i]?=some x.1:=by rw[List.getElem?_map,hx];rfl
 rw[h,List.getElem?_range hi]at h1
 cases h1
 exact⟨rfl,hi⟩
theorem QmF {ch:UInt8} {l:List (Nat×Aut)} (h:l.map (·.1)=List.range l.length) (h3:l.length<=9) {i:Nat} {x:Nat×Aut} (hx:l[i]?=some x):[ch,UInt8.ofNat (48+x.1)]∉nmsI ch (l.take i):=by
 intro hm
 obtain⟨y,hy,he⟩:=List.mem_map.1 hm
 obtain⟨j,hj,hjl⟩:=List.getElem_of_mem hy
 rw[List.length_take]at hj
 rw[List.getElem_take]at hjl
 obtain⟨e1,e2⟩:=QhR h hx
 obtain⟨e3,e4⟩:=QhR h (i:=j) (x:=y) (by rw[<-hjl];exact List.getElem?_eq_getElem (by omega))
 have:=QqE (a:=y.1) (b:=x.1) (by omega) (by omega) (by simpa using he)
 omega
theorem QoP {a b:UInt8} (hab:a≠b) {s:UInt8} {l:List (Nat×Aut)}:[a,s]∉nmsI b l:=by
 intro hm
 obtain⟨y,hy,he⟩:=List.mem_map.1 hm
 simp at he
 exact hab he.1.symm
theorem QkQ {i:Nat} (h:i<3):PSpec Tryz.prog 135 [.str [99,UInt8.ofNat (48+i)]] (.bool true):=by
 have:i=0\/i=1\/i=2:=by omega
 rcases this with rfl|rfl|rfl
 ·exact SP.Qqo
 ·exact SP.Qqp
 ·exact SP.Qqq
theorem QrQ {i:Nat} (h:i<2):PSpec Tryz.prog 135 [.str [114,UInt8.ofNat (48+i)]] (.bool true):=by
 have:i=0\/i=1:=by omega
 rcases this with rfl|rfl
 ·exact SP.Qqr
 ·exact SP.Qqs
theorem Qf0 {m:Nat} {π:Nat->Option Src} {h:Heap}:RnM m π h (mapS yes []) []:=trivial
theorem Qbf (c:Cel):noRefs [evsV c.ev,its 99 c.cs,its 114 c.rs,exs c.xs,cos c.ks]=true:=by
 have:=SU.Qa8 c
 rwa [celV,noRef]at this
theorem check21 (c : Cel) (h : WfCel c) : PSpec Tryz.prog 21 [celV c] (.int .i64 0) := by
  have hnr:=Qbf c
  refine PSpec.Qal 64 ok21 rfl (by rw[noRefs,SU.Qa8];rfl) rfl ?_
  have hE:=check82 c.ev h.ev
  have h0:=h.c0
  have h3:=h.c3
  have h2:=h.r2
  have g1:¬(c.cs.length:Int)=0:=by omega
  have g2:¬(8:Int)<(c.cs.length:Int):=by omega
  have g3:¬(12:Int)<(c.cs.length:Int)+(c.rs.length:Int):=by omega
  have hdL:=conds85 c h
  have hdC:=conds32 c h
  simp(disch:=first|omega|(simp only[lenW]<;>omega)) only[s21,wW,wV,simprocAttr]
  refine cp hE ?_
  simp(disch:=first|omega|(simp only[lenW]<;>omega)) only[g1,g2,g3,wW,wV,simprocAttr]
  refine Qaj 140 (fun i:Nat=>[(1,.ptr 50 0 0),(5,.map 68 0),(6,.sl 76 0 0 i 1),(7,.nilsl),(41,.int .i64 5),(42,.int .i64 i)]) (fun i=>[(50,.cells 0 [evsV c.ev,its 99 c.cs,its 114 c.rs,exs c.xs,cos c.ks]),(68,nmsB []),(76,.cells 0 (ints (nz (List.range i))))]) (fun i=>i<=5) (fun i=>5-i) 0 1 180
    (fun _:Unit=>[(1,.ptr 50 0 0),(5,.map 68 0),(6,sliN (List.range 5)),(7,sliN [])]) (fun _=>[(50,.cells 0 [evsV c.ev,its 99 c.cs,its 114 c.rs,exs c.xs,cos c.ks]),(68,nmsB [])]) (fun _=>True) ?_ (Nat.zero_le _) ?_ ?_
  · refine ⟨[(50, .blk 64 0), (68, .blk 90 0), (76, .nil)], rfl, au0, ?_, au16⟩
    exact RB.cells rfl rfl gg (RnL.same hnr) (RB.map rfl rfl gg Qf0 (RB.newnil rfl rfl RB.nil))
  · rintro i hi
    by_cases hlt:i<5
    · have hlt2 : (i : Int) < 5 := by omega
      have hrl:(ints (nz (List.range i))).length=i:=by simp[ints]
      simp(disch:=first|omega|(simp only[lenW]<;>omega)) only[hlt2,List.length_range,hrl,wW,wV,simprocAttr]
      refine⟨i+1,by omega,by omega,?_⟩
      rw[List.range_succ,QaI,QaB]
      refine⟨[(50,.blk 50 0),(68,.blk 68 0),(76,.blk 76 1)],rfl,au0,?_,au16⟩
      exact RB.cells rfl rfl gg (RnL.same hnr) (RB.map rfl rfl gg Qf0 (RB.cells rfl rfl gg (RnL.same (SU.Qas (Qae _) rfl)) RB.nil))
    · have e : i = 5 := by omega
      subst e
      simp(disch:=first|omega|(simp only[lenW]<;>omega)) only[wW,wV,simprocAttr]
      refine⟨(),[(50,.blk 50 0),(68,.blk 68 0)],rfl,RO.zero,?_,?_⟩
      · exact RB.cells rfl rfl gg (RnL.same hnr) (RB.map rfl rfl gg Qf0 RB.nil)
      · exact RT.cons (Rn.x2 rfl rfl) (RT.cons (Rn.x3 rfl rfl) (RT.cons (Rn.fz (b:=76) (g:=0) gg rfl rfl rfl (RnL.same rfl)) (RT.cons Rn.nilK RT.nil)))
  rintro _ _
  simp(disch:=first|omega|(simp only[lenW]<;>omega)) only[wW,wV,simprocAttr]
  refine Qaj 240 (fun i:Nat=>[(1,.ptr 50 0 0),(5,.map 68 0),(6,sliN (List.range 5)),(7,sliN (uUp (c.cs.take i))),(51,its 99 c.cs),(52,.int .i64 c.cs.length),(53,.int .i64 i)]) (fun i=>[(50,.cells 0 [evsV c.ev,its 99 c.cs,its 114 c.rs,exs c.xs,cos c.ks]),(68,nmsB (nmsI 99 (c.cs.take i)))]) (fun i=>i<=c.cs.length) (fun i=>c.cs.length-i) 0 3 280
    (fun _:Unit=>[(1,.ptr 50 0 0),(5,.map 68 0),(7,sliN (uUp c.cs))]) (fun _=>[(50,.cells 0 [evsV c.ev,its 99 c.cs,its 114 c.rs,exs c.xs,cos c.ks]),(68,nmsB (nmsI 99 c.cs))]) (fun _=>True) ?_ (Nat.zero_le _) ?_ ?_
  · refine ⟨[(50, .blk 50 0), (68, .blk 68 0)], rfl, au0, ?_, au16⟩
    exact RB.cells rfl rfl gg (RnL.same hnr) (RB.map rfl rfl gg Qf0 RB.nil)
  · rintro i hi
    by_cases hlt:i<c.cs.length
    · obtain ⟨x, hx⟩ := Qag hlt
      have hxm:=List.mem_of_getElem? hx
      have hdr:=SU.QcJ (ch:=99) hx
      have hdl:5<=((c.cs.flatMap (itC 99)).drop (i*5)).length:=by rw[hdr];simp
      have hwi:=h.ca x hxm
      have hfa:=QhR h.cn hx
      have hnl:(nmsI 99 (c.cs.take i)).length<=100:=by simp[nmsI];omega
      have hN:=QkQ (i:=x.1) (by omega)
      have hnew:=QmF (ch:=99) h.cn (by omega) hx
      have hulen:(uUp (c.cs.take i)).length<=1000000:=by have:=Qio (l:=c.cs.take i) fun y hy=>h.ca y (List.mem_of_mem_take hy);omega
      have hU:=union84 (uUp (c.cs.take i)) x.2.al hulen (by have:=Qey hwi.wf;omega)
      rw[<-QpQ hx]at hU
      have hns:=Qk2 (ch:=99) hx
      simp(disch:=first|omega|(simp only[lenW]<;>omega)) only[hlt,hdr,hdl,wW,wV,simprocAttr]
      refine SU.chc (item83F _ _ _ _ hwi hN hnew hnl List.pairwise_lt_range (by decide) (fun e he=>List.mem_range.2 (hwi.wf.al5 e he)) gg) ?_
      simp(disch:=first|omega|(simp only[lenW]<;>omega)) only[wW,wV,simprocAttr]
      refine cp hU ?_
      simp(disch:=first|omega|(simp only[lenW]<;>omega)) only[wW,wV,simprocAttr]
      refine⟨i+1,by omega,by omega,?_⟩
      rw[hns]
      refine⟨[(50,.blk 50 0),(68,.blk 68 0)],rfl,au0,?_,au16⟩
      exact RB.cells rfl rfl gg (RnL.same hnr) (RB.map rfl rfl gg (RnM.mapS fun _ _=>Rn.same rfl) RB.nil)
    · have e : i = c.cs.length := by omega
      subst e
      simp(disch:=first|omega|(simp only[lenW]<;>omega)) only[hlt,List.take_length,wW,wV,simprocAttr]
      refine⟨(),?_⟩
      refine⟨[(50,.blk 50 0),(68,.blk 68 0)],rfl,au0,?_,au16⟩
      exact RB.cells rfl rfl gg (RnL.same hnr) (RB.map rfl rfl gg (RnM.mapS fun _ _=>Rn.same rfl) RB.nil)
  rintro _ _
  simp(disch:=first|omega|(simp only[lenW]<;>omega)) only[wW,wV,simprocAttr]
  refine Qaj 340 (fun i:Nat=>[(1,.ptr 50 0 0),(5,.map 68 0),(7,sliN (uUp c.cs)),(74,its 114 c.rs),(75,.int .i64 c.rs.length),(76,.int .i64 i)]) (fun i=>[(50,.cells 0 [evsV c.ev,its 99 c.cs,its 114 c.rs,exs c.xs,cos c.ks]),(68,nmsB (nmsI 99 c.cs++nmsI 114 (c.rs.take i)))]) (fun i=>i<=c.rs.length) (fun i=>c.rs.length-i) 0 5 380
    (fun _:Unit=>[(1,.ptr 50 0 0)]) (fun _=>[(50,.cells 0 [evsV c.ev,its 99 c.cs,its 114 c.rs,exs c.xs,cos c.ks])]) (fun _=>True) ?_ (Nat.zero_le _) ?_ ?_
  · rw [show nmsI 99 c.cs ++ nmsI 114 (c.rs.take 0) = nmsI 99 c.cs by simp [nmsI]]
    refine⟨[(50,.blk 50 0),(68,.blk 68 0)],rfl,au0,?_,au16⟩
    exact RB.cells rfl rfl gg (RnL.same hnr) (RB.map rfl rfl gg (RnM.mapS fun _ _=>Rn.same rfl) RB.nil)
  · rintro i hi
    by_cases hlt:i<c.rs.length
    · obtain ⟨x, hx⟩ := Qag hlt
      have hxm:=List.mem_of_getElem? hx
      have hdr:=SU.QcJ (ch:=114) hx
      have hdl:5<=((c.rs.flatMap (itC 114)).drop (i*5)).length:=by rw[hdr];simp
      have hwi:=h.ra x hxm
      have hfa:=QhR h.rn hx
      have hnl:(nmsI 99 c.cs++nmsI 114 (c.rs.take i)).length<=100:=by simp[nmsI];omega
      have hN:=QrQ (i:=x.1) (by omega)
      have hnew:[114,UInt8.ofNat (48+x.1)]∉nmsI 99 c.cs++nmsI 114 (c.rs.take i):=by
        intro hm
        rcases List.mem_append.1 hm with hm|hm
        · exact QoP (by decide) hm
        · exact QmF (ch:=114) h.rn (by omega) hx hm
      have hulen:(uUp c.cs).length<=1000000:=by have:=Qio (l:=c.cs) h.ca;omega
      have hns:=Qk2 (ch:=114) hx
      simp(disch:=first|omega|(simp only[lenW]<;>omega)) only[hlt,hdr,hdl,wW,wV,simprocAttr]
      refine SU.chc (item83F _ _ _ _ hwi hN hnew hnl (Qe4 h.ca) hulen (fun e he=>(QfZ h.ca).2 (h.rsub x hxm e he)) gg) ?_
      simp(disch:=first|omega|(simp only[lenW]<;>omega)) only[wW,wV,simprocAttr]
      refine⟨i+1,by omega,by omega,?_⟩
      rw[hns,<-List.append_assoc]
      refine⟨[(50,.blk 50 0),(68,.blk 68 0)],rfl,au0,?_,au16⟩
      exact RB.cells rfl rfl gg (RnL.same hnr) (RB.map rfl rfl gg (RnM.mapS fun _ _=>Rn.same rfl) RB.nil)
    · simp (disch := first | omega | (simp only [lenW] <;> omega)) only [hlt, wW, wV, simprocAttr]
      refine⟨(),?_⟩
      refine⟨[(50,.blk 50 0)],rfl,au0,?_,au16⟩
      exact RB.cells rfl rfl gg (RnL.same hnr) RB.nil
  rintro _ _
  simp(disch:=first|omega|(simp only[lenW]<;>omega)) only[wW,wV,simprocAttr]
  refine cp hdL ?_
  simp(disch:=first|omega|(simp only[lenW]<;>omega)) only[wW,wV,simprocAttr]
  refine cp hdC ?_
  simp(disch:=first|omega|(simp only[lenW]<;>omega)) only[wW,wV,simprocAttr]
  exact⟨.inr trivial,_,rfl,rfl⟩
end Go.AM.SO
namespace Go.AM.SO
open Go.Proofs Go.AM.SD Go.AM.SE
def auC (a:Aut):List AV:=[sliN a.al,.int .i64 (a.n:Int),sliN a.ms,egsN a.es]
abbrev auts (l:List Aut):AV:= .fsl (l.flatMap auC) l.length 4
theorem QaH (l:List Aut):noRefs (l.flatMap auC)=true:=QaV (fun x=>by simp only[auC,noRefs,noRef,Qae,Qaf];rfl) l
theorem QaL (l:List Aut):noRef (auts l)=true:=by simp only[noRef];exact QaH l
theorem Qcs (l:List Aut):(l.flatMap auC).length=l.length*4:=Qbi (k:=4) (fun _=>rfl) l
theorem Qda {l:List Aut} {i:Nat} {x:Aut} (h:l[i]?=some x):(l.flatMap auC).drop (i*4)=sliN x.al:: .int .i64 (x.n:Int)::sliN x.ms::egsN x.es::(l.drop (i+1)).flatMap auC:=QbB (f:=auC) (k:=4) (fun _=>rfl) h
theorem _root_.Go.AM.au17 {p:Prop} (h:p:=by repeat (first|exact RT.nil|(refine RT.cons ?_ ?_; · (first|exact Rn.any|exact Rn.x1 rfl rfl|exact Rn.x2 rfl rfl|exact Rn.x3 rfl rfl|exact Rn.x4 rfl rfl|exact Rn.x5 rfl|exact Rn.x6 rfl|exact Rn.x7 rfl|(refine Rn.slot ?_ ?_;(first|rfl|(rw[Int.natCast_add];rfl));(first|rfl|(simp only[noRef,noRefs,Qai,Bool.and_self,Bool.and_true,Bool.true_and,Qae,Qau,Qab,Qak];done)))|(refine Rn.fn ?_ ?_<;>(repeat' (first|exact RnL.nil|refine RnL.cons ?_ ?_|exact Rn.same rfl|exact Rn.x6 rfl|exact Rn.x2 rfl rfl|exact Rn.x5 rfl|exact Rn.x1 rfl rfl))))))):p:=h
theorem _root_.Go.AM.au18 {p:Prop} (h:p:=by repeat' (first|exact RB.nil|(refine RnL.same ?_;first|rfl|(simp only[noRef,noRefs,Qai,Bool.and_self,Bool.and_true,Bool.true_and,Qae,Qau,Qab,Qak];done))|exact RnM.keyM rfl|exact RnL.nil|exact(True.intro:RnM _ _ _ [] [])|refine RnL.cons ?_ ?_|(refine Rn.same ?_;first|rfl|(simp only[noRef,noRefs,Qai,Bool.and_self,Bool.and_true,Bool.true_and,Qae,Qau,Qab,Qak];done))|exact Rn.x1 rfl rfl|exact Rn.x2 rfl rfl|exact Rn.x3 rfl rfl|exact Rn.x4 rfl rfl|exact Rn.x5 rfl|exact Rn.x6 rfl|exact Rn.x7 rfl|refine RB.newnil rfl rfl ?_|refine RB.cells rfl rfl rfl ?_ ?_|refine RB.map rfl rfl rfl ?_ ?_|refine RB.cellsB rfl rfl ?_ ?_|refine RB.mapB rfl rfl ?_ ?_)):p:=h
theorem check95 (l:List Aut) (h:∀a∈l,WfI a) (hl:l.length<=12):PSpec Tryz.prog 95 [auts l] (.int .i64 0):=by
  refine PSpec.Qal 64 TP.ok95 rfl (by rw[noRefs,QaL];rfl) rfl ?_
  have g1:¬(12:Int)<(l.length:Int):=by omega
  have hno:=QaL l
  simp(disch:=first|omega|exact PairsOK.mk rfl|(simp only[lenW]<;>omega)) only[TP.s95,g1,wW,wV,simprocAttr]
  refine Qaj 100 (fun i:Nat=>[(9,auts l),(10,.int .i64 l.length),(11,.int .i64 i)]) (fun _=>[]) (fun i=>i<=l.length) (fun i=>l.length-i) 0 0 140 (fun _:Unit=>[]) (fun _=>[]) (fun _=>True) ?_ (Nat.zero_le _) ?_ ?_
  · exact⟨[],rfl,RO.zero,RB.nil,RT.cons (Rn.same hno) au17⟩
  · rintro i hi
    by_cases hlt:i<l.length
    · obtain ⟨x, hx⟩ := Qag hlt
      have hwi:=h x (List.mem_of_getElem? hx)
      have hdr:=Qda hx
      have hdl:4<=((l.flatMap auC).drop (i*4)).length:=by rw[hdr];simp
      have hc:=check112 x hwi.wf (by have:=hwi.el;omega)
      simp(disch:=first|omega|exact PairsOK.mk rfl|(simp only[lenW]<;>omega)) only[hlt,hdr,hdl,wW,wV,simprocAttr]
      refine cp hc ?_
      simp(disch:=first|omega|exact PairsOK.mk rfl|(simp only[lenW]<;>omega)) only[wW,wV,simprocAttr]
      exact⟨i+1,by omega,by omega,[],rfl,RO.zero,RB.nil,RT.cons (Rn.same hno) au17⟩
    · simp (disch := first | omega | exact PairsOK.mk rfl | (simp only [lenW] <;> omega)) only [hlt, wW, wV, simprocAttr]
      exact⟨(),⟨[],rfl,au0,au18,au17⟩⟩
  rintro _ _
  simp(disch:=first|omega|exact PairsOK.mk rfl|(simp only[lenW]<;>omega)) only[wW,wV,simprocAttr]
  exact⟨.inr trivial,_,rfl,rfl⟩
theorem QpR {l:List Aut} {i:Nat} {x:Aut} (h:l[i]?=some x):evA (l.take (i+1))=mrg (fun a b=>a||b) (evA (l.take i)) x.al:=by
 unfold evA;rw[take_succ' h,List.foldl_append];rfl
theorem Qf1 (l:List Aut):evA l=uUp (l.map fun a=>(0,a)):=by unfold evA uUp;rw[List.foldl_map];rfl
theorem QcT {l:List Aut} (h:∀a∈l,WfI a):(evA l).Pairwise (· < ·):=by
 rw[Qf1]
 refine Qe4 fun x hx=>?_
 obtain⟨a,ha,rfl⟩:=List.mem_map.1 hx
 exact h a ha
theorem Qcp {l:List Aut} (h:∀a∈l,WfI a):(evA l).length<=5:=by
 rw[Qf1]
 refine Qio fun x hx=>?_
 obtain⟨a,ha,rfl⟩:=List.mem_map.1 hx
 exact h a ha
theorem events187 (l:List Aut) (h:∀a∈l,WfI a) (hl:l.length<=12):PSpec Tryz.prog 187 [auts l] (sliN (evA l)):=by
  refine PSpec.of_rn 64 TP.ok187 rfl (by rw[noRefs,QaL];rfl) (Qab _) ?_
  have hno:=QaL l
  simp(disch:=first|omega|exact PairsOK.mk rfl|(simp only[lenW]<;>omega)) only[TP.s187,wW,wV,simprocAttr]
  refine Qaj 100 (fun i:Nat=>[(3,sliN (evA (l.take i))),(6,auts l),(7,.int .i64 l.length),(8,.int .i64 i)]) (fun _=>[]) (fun i=>i<=l.length) (fun i=>l.length-i) 0 0 140 (fun _:Unit=>[(3,sliN (evA l))]) (fun _=>[]) (fun _=>True) ?_ (Nat.zero_le _) ?_ ?_
  · exact⟨[],rfl,RO.zero,RB.nil,RT.cons Rn.nilK (RT.cons (Rn.same hno) au17)⟩
  · rintro i hi
    by_cases hlt:i<l.length
    · obtain ⟨x, hx⟩ := Qag hlt
      have hwi:=h x (List.mem_of_getElem? hx)
      have hdr:=Qda hx
      have hdl:4<=((l.flatMap auC).drop (i*4)).length:=by rw[hdr];simp
      have hulen:(evA (l.take i)).length<=1000000:=by have:=Qcp (l:=l.take i) fun y hy=>h y (List.mem_of_mem_take hy);omega
      have hU:=union84 (evA (l.take i)) x.al hulen (by have:=Qey hwi.wf;omega)
      rw[<-QpR hx]at hU
      simp(disch:=first|omega|exact PairsOK.mk rfl|(simp only[lenW]<;>omega)) only[hlt,hdr,hdl,wW,wV,simprocAttr]
      refine cp hU ?_
      simp(disch:=first|omega|exact PairsOK.mk rfl|(simp only[lenW]<;>omega)) only[wW,wV,simprocAttr]
      exact⟨i+1,by omega,by omega,[],rfl,RO.zero,RB.nil,RT.cons (Rn.same (Qab _)) (RT.cons (Rn.same hno) au17)⟩
    · have e : i = l.length := by omega
      subst e
      simp(disch:=first|omega|exact PairsOK.mk rfl|(simp only[lenW]<;>omega)) only[hlt,List.take_length,wW,wV,simprocAttr]
      exact⟨(),⟨[],rfl,au0,au18,au17⟩⟩
  rintro _ _
  simp(disch:=first|omega|exact PairsOK.mk rfl|(simp only[lenW]<;>omega)) only[wW,wV,simprocAttr]
  exact⟨.inr trivial,_,rfl,Rn.same (Qab _)⟩
theorem has189 (l:List Nat) (t:Nat) (hs:l.Pairwise (· < ·)) (hl:l.length<=1000000):PSpec Tryz.prog 189 [sliN l,.int .i64 (t:Int)] (.bool (l.contains t)):=by
 refine PSpec.Qal 64 TP.ok189 rfl (by(try simp only[noRefs,Qae,noRef,noRefs,Bool.and_self,Bool.and_true])<;>rfl) rfl ?_
 have h:=find57 l t (hs.imp fun h=>Nat.le_of_lt h) hl
 simp(disch:=first|omega|exact PairsOK.mk rfl|(simp only[lenW]<;>omega)) only[TP.s189,wW,wV,simprocAttr]
 refine cp h ?_
 simp(disch:=first|omega|exact PairsOK.mk rfl|(simp only[lenW]<;>omega)) only[wW,wV,simprocAttr]
 exact⟨.inr trivial,_,rfl,rfl⟩
end Go.AM.SO
namespace Go.AM.SO
open Go.Proofs Go.AM.SD Go.AM.SE
theorem Qar {α:Type} {f:α->AV} (h:∀x,noRef (f x)=true) (l:List α):noRefs (l.map f)=true:=by
 induction l with
 |nil=>rfl
 |cons x l ih=>simp only[List.map_cons,noRefs,h,ih];rfl
def pE (e:Ed):Nat×Nat:=(e.1,e.2.1)
def vE (es:List Ed) (p:Nat×Nat):AV:= .int .i64 (((stepA es p.1 p.2).getD 0:Nat):Int)
abbrev emV (a:Aut):AV:=fmapG kP (vE a.es) (a.es.map pE)
theorem Qcg (a:Aut):noRef (emV a)=true:=by
 rw[emV,fmapG,noRef,Qar (fun _=>rfl),Qar (fun _=>rfl)];rfl
theorem Qaa {x y:List AV}:(AV.fmap x y).cells=[.fmap x y]:=rfl
theorem Qac {x y:List AV}:(AV.fmap x y).one=true:=rfl
theorem Qad {x y:List AV}:(AV.fmap x y).boxable=true:=rfl
abbrev macV (l:List Aut):AV:= .agg [auts l,sliN (evA l),.fsl (l.map emV) l.length 1]
theorem Qch (l:List Aut):noRef (macV l)=true:=by
 rw[macV,noRef,noRefs,noRefs,noRefs,QaL,Qab,noRef,Qar Qcg];rfl
theorem Qe5 {e:Ed} {es:List Ed} {s v:Nat}:stepA (e::es) s v=if e.1=s/\e.2.1=v then some e.2.2 else stepA es s v:=by
 unfold stepA
 rw[List.find?_cons]
 by_cases h1:e.1=s<;>by_cases h2:e.2.1=v<;>simp[h1,h2,beq_eq_false_iff_ne.2]
theorem Qd4:∀{es:List Ed},es.Pairwise (fun x y=>x.1<y.1\/(x.1=y.1/\x.2.1<y.2.1))->∀{e:Ed},e∈es->stepA es e.1 e.2.1=some e.2.2
 | x :: es, h, e, he => by
  rw[List.pairwise_cons]at h
  rw[Qe5]
  rcases List.mem_cons.1 he with rfl|he
  ·rw[if_pos ⟨rfl,rfl⟩]
  ·have := h.1 e he
   rw[if_neg (by omega)]
   exact Qd4 h.2 he
theorem QhS:∀{es:List Ed} {s v:Nat},(s,v)∉es.map pE->stepA es s v=none
 |[],s,v,_=>rfl
 |x::es,s,v,h=>by
  rw[List.map_cons,List.mem_cons,not_or]at h
  rw[Qe5,if_neg fun hh=>h.1 (by unfold pE;rw[hh.1,hh.2])]
  exact QhS h.2
theorem Qeb {es:List Ed} {s v t:Nat} (h:stepA es s v=some t):(s,v)∈es.map pE:=by
 refine Decidable.byContradiction fun hn=>?_
 rw[QhS hn]at h;cases h
theorem QpS {es:List Ed} (h:es.Pairwise (fun x y=>x.1<y.1\/(x.1=y.1/\x.2.1<y.2.1))) {j:Nat} {e:Ed} (he:es[j]?=some e):(e.1,e.2.1)∉(es.take j).map pE:=by
 intro hm
 obtain⟨y,hy,e2⟩:=List.mem_map.1 hm
 obtain⟨k,hk⟩:=List.mem_iff_getElem?.1 hy
 have hkj:k<j:=by
  rcases Nat.lt_or_ge k j with h|h
  ·exact h
  ·rw[List.getElem?_eq_none (by rw[List.length_take];omega)]at hk;cases hk
 rw[List.getElem?_take_of_lt hkj]at hk
 obtain⟨k1,k2⟩:=List.getElem?_eq_some_iff.1 hk
 obtain⟨j1,j2⟩:=List.getElem?_eq_some_iff.1 he
 have:=List.pairwise_iff_getElem.1 h k j k1 j1 hkj
 rw[k2,j2]at this
 unfold pE at e2
 simp only[Prod.mk.injEq]at e2
 omega
theorem QrR {es:List Ed} (h:es.Pairwise (fun x y=>x.1<y.1\/(x.1=y.1/\x.2.1<y.2.1))) {e:Ed} (he:e∈es):updG (vE es) (e.1,e.2.1) (.int .i64 (e.2.2:Int))=vE es:=by
 funext p
 unfold updG
 split
 ·rename_i hp; subst hp
  unfold vE
  rw[Qd4 h he];rfl
 ·rfl
theorem _root_.Go.AM.au19 {p:Prop} (h:p:=by repeat (first|exact RT.nil|(refine RT.cons ?_ ?_; · (first|exact Rn.any|exact Rn.x1 rfl rfl|exact Rn.x2 rfl rfl|exact Rn.x3 rfl rfl|exact Rn.x4 rfl rfl|exact Rn.x5 rfl|exact Rn.x6 rfl|exact Rn.x7 rfl|(refine Rn.slot ?_ ?_;(first|rfl|(rw[Int.natCast_add];rfl));(first|rfl|(simp only[noRef,noRefs,Qai,Bool.and_self,Bool.and_true,Bool.true_and,Qae,Qau,Qab,Qak,QaH,Qaf];done)))|(refine Rn.fn ?_ ?_<;>(repeat' (first|exact RnL.nil|refine RnL.cons ?_ ?_|exact Rn.same rfl|exact Rn.x6 rfl|exact Rn.x2 rfl rfl|exact Rn.x5 rfl|exact Rn.x1 rfl rfl))))))):p:=h
theorem open96 (l : List Aut) (h : ∀ a ∈ l, WfI a) (hl : l.length <= 12) : PSpec Tryz.prog 96 [auts l] (macV l) := by
  refine PSpec.of_rn 64 TP.ok96 rfl (by rw[noRefs,QaL];rfl) (Qch l) ?_
  have hev:=events187 l h hl
  have hno:=QaL l
  have hlen:(l.map emV).length=l.length:=List.length_map ..
  simp(disch:=first|omega|exact PairsOK.mk rfl|(simp only[lenW]<;>omega)) only[TP.s96,Qaa,Qac,Qad,wW,wV,simprocAttr]
  refine cp hev ?_
  simp(disch:=first|omega|exact PairsOK.mk rfl|(simp only[lenW]<;>omega)) only[Qaa,Qac,Qad,wW,wV,simprocAttr]
  refine Qaj 120 (fun i:Nat=>[(2,.ptr 51 0 0),(3,.ptr 52 0 0),(13,auts l),(14,.int .i64 l.length),(15,.int .i64 i)]) (fun i=>[(51,.cells 0 [.nilsl,.nilsl,.nilsl]),(52,.cells 0 [auts l,sliN (evA l),.sl 76 0 0 i 1]),(76,.cells 0 ((l.take i).map emV))]) (fun i=>i<=l.length) (fun i=>l.length-i) 0 0 300 (fun _:Unit=>[(2,.ptr 51 0 0),(3,.ptr 52 0 0)]) (fun _=>[(51,.cells 0 [.nilsl,.nilsl,.nilsl]),(52,.cells 0 [auts l,sliN (evA l),.fsl (l.map emV) l.length 1])]) (fun _=>True) ⟨[(51,.blk 64 0),(52,.blk 69 0),(76,.nil)],rfl,au0,?_,au19⟩ (Nat.zero_le _) ?_ ?_
  · exact RB.cells rfl rfl gg (RnL.same rfl) (RB.cells rfl rfl gg (RnL.cons (Rn.same hno) (RnL.cons (Rn.same (Qab _)) (RnL.cons (Rn.x4 rfl rfl) RnL.nil))) (RB.newnil rfl rfl RB.nil))
  · rintro i hi
    by_cases hlt:i<l.length
    · obtain ⟨x, hx⟩ := Qag hlt
      have hwi:=h x (List.mem_of_getElem? hx)
      have hdr:=Qda hx
      have hdl:4<=((l.flatMap auC).drop (i*4)).length:=by rw[hdr];simp
      have hsuc:=take_succ' hx
      have htl:(l.take i).length=i:=by rw[List.length_take];omega
      have htm:((l.take i).map emV).length=i:=by rw[List.length_map,htl]
      have hel:=hwi.el
      simp(disch:=first|omega|exact PairsOK.mk rfl|(simp only[lenW]<;>omega)) only[hlt,hdr,hdl,Qaa,Qac,Qad,wW,wV,simprocAttr]
      refine Qaj 220 (fun j:Nat=>[(2,.ptr 51 0 0),(3,.ptr 52 0 0),(13,auts l),(14,.int .i64 l.length),(15,.int .i64 i),(6,.map 77 0),(21,egsN x.es),(22,.int .i64 x.es.length),(23,.int .i64 j)]) (fun j=>[(51,.cells 0 [.nilsl,.nilsl,.nilsl]),(52,.cells 0 [auts l,sliN (evA l),.sl 76 0 0 i 1]),(76,.cells 0 ((l.take i).map emV)),(77,.map 0 (mapG kP (vE x.es) ((x.es.take j).map pE)))]) (fun j=>j<=x.es.length) (fun j=>x.es.length-j) 0 2 280 (fun _:Unit=>[(2,.ptr 51 0 0),(3,.ptr 52 0 0),(13,auts l),(14,.int .i64 l.length),(15,.int .i64 i),(6,emV x)]) (fun _=>[(51,.cells 0 [.nilsl,.nilsl,.nilsl]),(52,.cells 0 [auts l,sliN (evA l),.sl 76 0 0 i 1]),(76,.cells 0 ((l.take i).map emV))]) (fun _=>True) ⟨[(51,.blk 51 0),(52,.blk 52 0),(76,.blk 76 0),(77,.blk 125 0)],rfl,au0,?_,au19⟩ (Nat.zero_le _) ?_ ?_
      · exact RB.cells rfl rfl gg (RnL.same rfl) (RB.cells rfl rfl gg (RnL.cons (Rn.same hno) (RnL.cons (Rn.same (Qab _)) (RnL.cons (Rn.x1 rfl rfl) RnL.nil))) (RB.cells rfl rfl gg (RnL.same (Qar Qcg _)) (RB.map rfl rfl gg (RnM.mapG fun _ _=>⟨rfl,rfl⟩) RB.nil)))
      · rintro j hj
        by_cases hjl:j<x.es.length
        · obtain ⟨e, he⟩ := Qag hjl
          have hde:=QaP he
          have hdel:3<=((x.es.flatMap edC).drop (j*3)).length:=by rw[hde];simp
          have hnew:=QpS hwi.wf.es he
          have hup:=QrR hwi.wf.es (List.mem_of_getElem? he)
          simp(disch:=first|omega|exact PairsOK.mk rfl|(simp only[lenW]<;>omega)) only[hjl,hde,hdel,Qaa,Qac,Qad,wW,wV,simprocAttr]
          refine Qce (c:=kP) (f:=vE x.es) (x:=(e.1,e.2.1)) (l:=(x.es.take j).map pE) (g:=0) gg QkG hnew (by omega) ?_
          rw[hup]
          simp(disch:=first|omega|exact PairsOK.mk rfl|(simp only[lenW]<;>omega)) only[Qaa,Qac,Qad,wW,wV,simprocAttr]
          refine⟨j+1,by omega,by omega,?_⟩
          rw[take_succ' he,List.map_append]
          refine⟨[(51,.blk 51 0),(52,.blk 52 0),(76,.blk 76 0),(77,.blk 77 0)],rfl,au0,?_,au19⟩
          exact RB.cells rfl rfl gg (RnL.same rfl) (RB.cells rfl rfl gg (RnL.cons (Rn.same hno) (RnL.cons (Rn.same (Qab _)) (RnL.cons (Rn.x1 rfl rfl) RnL.nil))) (RB.cells rfl rfl gg (RnL.same (Qar Qcg _)) (RB.map rfl rfl gg (RnM.mapG fun _ _=>⟨rfl,rfl⟩) RB.nil)))
        · have e : j = x.es.length := by omega
          subst e
          simp(disch:=first|omega|exact PairsOK.mk rfl|(simp only[lenW]<;>omega)) only[hjl,List.take_length,Qaa,Qac,Qad,wW,wV,simprocAttr]
          refine⟨(),[(51,.blk 51 0),(52,.blk 52 0),(76,.blk 76 0)],rfl,RO.zero,?_,?_⟩
          · exact RB.cells rfl rfl gg (RnL.same rfl) (RB.cells rfl rfl gg (RnL.cons (Rn.same hno) (RnL.cons (Rn.same (Qab _)) (RnL.cons (Rn.x1 rfl rfl) RnL.nil))) (RB.cells rfl rfl gg (RnL.same (Qar Qcg _)) RB.nil))
          · exact RT.cons (Rn.x2 rfl rfl) (RT.cons (Rn.x2 rfl rfl) (RT.cons (Rn.same hno) (RT.cons (Rn.same rfl) (RT.cons (Rn.same rfl) (RT.cons (Rn.fzM (b:=77) (g:=0) gg rfl rfl fun _ _=>⟨rfl,rfl⟩) RT.nil)))))
      rintro _ _
      have hem:=Qcg x
      simp(disch:=first|omega|exact PairsOK.mk rfl|(simp only[lenW]<;>omega)) only[htm,Qaa,Qac,Qad,wW,wV,simprocAttr]
      refine⟨i+1,by omega,by omega,?_⟩
      rw[hsuc,List.map_append]
      refine⟨[(51,.blk 51 0),(52,.blk 52 0),(76,.blk 76 1)],rfl,au0,?_,au19⟩
      exact RB.cells rfl rfl gg (RnL.same rfl) (RB.cells rfl rfl gg (RnL.cons (Rn.same hno) (RnL.cons (Rn.same (Qab _)) (RnL.cons (Rn.x1 rfl rfl) RnL.nil))) (RB.cells rfl rfl gg (RnL.same (SU.Qas (Qar Qcg _) (Qar Qcg [x]))) RB.nil))
    · have e : i = l.length := by omega
      subst e
      simp(disch:=first|omega|exact PairsOK.mk rfl|(simp only[lenW]<;>omega)) only[hlt,List.take_length,Qaa,Qac,Qad,wW,wV,simprocAttr]
      refine⟨(),?_⟩
      refine⟨[(51,.blk 51 0),(52,.blk 52 0)],rfl,au0,?_,au19⟩
      exact RB.cells rfl rfl gg (RnL.same rfl) (RB.cells rfl rfl gg (RnL.cons (Rn.same hno) (RnL.cons (Rn.same (Qab _)) (RnL.cons (Rn.fzm rfl rfl rfl rfl (by simp) (RnL.same (Qar Qcg _))) RnL.nil))) RB.nil)
  rintro _ _
  simp(disch:=first|omega|exact PairsOK.mk rfl|(simp only[lenW]<;>omega)) only[Qaa,Qac,Qad,wW,wV,simprocAttr]
  refine⟨.inr trivial,_,rfl,?_⟩
  exact Rn.same (Qch l)
end Go.AM.SO
namespace Go.AM.SO
open Go.Proofs Go.AM.SD Go.AM.SE
theorem QcU (l:List Aut):noRefs [auts l,sliN (evA l),.fsl (l.map emV) l.length 1]=true:=by
 have:=Qch l
 rwa [macV,noRef]at this
theorem QoQ (n:Nat) (x:Int):(List.replicate n [AV.int .i64 x]).flatten=ints (List.replicate n x):=by
 induction n with
 |zero=>rfl
 |succ n ih=>rw[List.replicate_succ,List.flatten_cons,ih];rfl
theorem QrS (n:Nat):nz (List.replicate n 0)=List.replicate n 0:=by simp[nz]
theorem initial97 (l:List Aut) (h:∀a∈l,WfI a) (h0:0<l.length) (hl:l.length<=12):PSpec Tryz.prog 97 [macV l] (.tup [sliN (List.replicate l.length 0),.bool true]):=by
  refine PSpec.of_rn 64 TP.ok97 rfl (by rw[noRefs,Qch];rfl) (by rw[noRef,noRefs,Qab];rfl) ?_
  have hno:=QaL l
  have hnm:=QcU l
  have hn':(l.length:Int)<=140737488355328:=by omega
  have hn8:(8:Int)*l.length<=140737488355328:=by omega
  simp(disch:=first|omega|exact PairsOK.mk rfl|(simp only[lenW]<;>omega)) only[TP.s97,Qaa,Qac,Qad,wW,wV,simprocAttr]
  refine Qaj 100 (fun i:Nat=>[(1,.ptr 51 0 0),(7,auts l),(8,.int .i64 l.length),(9,.int .i64 i)]) (fun _=>[(51,.cells 0 [auts l,sliN (evA l),.fsl (l.map emV) l.length 1])]) (fun i=>i<=l.length) (fun i=>l.length-i) 0 0 140 (fun _:Unit=>[(1,.ptr 51 0 0)]) (fun _=>[(51,.cells 0 [auts l,sliN (evA l),.fsl (l.map emV) l.length 1])]) (fun _=>True) ⟨[(51,.blk 64 0)],rfl,au0,?_,au19⟩ (Nat.zero_le _) ?_ ?_
  · exact RB.cells rfl rfl gg (RnL.same hnm) RB.nil
  · rintro i hi
    by_cases hlt:i<l.length
    · obtain ⟨x, hx⟩ := Qag hlt
      have hwi:=h x (List.mem_of_getElem? hx)
      have hdr:=Qda hx
      have hdl:4<=((l.flatMap auC).drop (i*4)).length:=by rw[hdr];simp
      have hp:¬(x.n:Int)=0:=by have:=hwi.pos;omega
      simp(disch:=first|omega|exact PairsOK.mk rfl|(simp only[lenW]<;>omega)) only[hlt,hdr,hdl,hp,Qaa,Qac,Qad,wW,wV,simprocAttr]
      refine⟨i+1,by omega,by omega,?_⟩
      refine⟨[(51,.blk 51 0)],rfl,au0,?_,au19⟩
      exact RB.cells rfl rfl gg (RnL.same hnm) RB.nil
    · simp (disch := first | omega | exact PairsOK.mk rfl | (simp only [lenW] <;> omega)) only [hlt, Qaa, Qac, Qad, wW, wV, simprocAttr]
      refine⟨(),?_⟩
      refine⟨[(51,.blk 51 0)],rfl,au0,?_,au19⟩
      exact RB.cells rfl rfl gg (RnL.same hnm) RB.nil
  rintro _ _
  simp(disch:=first|omega|exact PairsOK.mk rfl|(simp only[lenW]<;>omega)) only[hn',hn8,QoQ,Qaa,Qac,Qad,wW,wV,simprocAttr]
  refine⟨.inr trivial,_,rfl,?_⟩
  refine Rn.tup (RnL.cons ?_ (RnL.same rfl))
  have e:sliN (List.replicate l.length 0)= .fsl (ints (List.replicate l.length 0)) l.length 1:=by rw[sliN,QrS,List.length_replicate]
  rw[e]
  exact Rn.fz0 (b:=143) rfl (by simp[ints]) (RnL.same (Qae _))
theorem _root_.Go.AM.au20 {p:Prop} (h:p:=by repeat' (first|exact RB.nil|(refine RnL.same ?_;first|rfl|(simp only[noRef,noRefs,Qai,Bool.and_self,Bool.and_true,Bool.true_and,Qae,Qau,Qab,Qak,QaH,Qaf];done))|exact RnM.keyM rfl|exact RnL.nil|exact(True.intro:RnM _ _ _ [] [])|refine RnL.cons ?_ ?_|(refine Rn.same ?_;first|rfl|(simp only[noRef,noRefs,Qai,Bool.and_self,Bool.and_true,Bool.true_and,Qae,Qau,Qab,Qak,QaH,Qaf];done))|exact Rn.x1 rfl rfl|exact Rn.x2 rfl rfl|exact Rn.x3 rfl rfl|exact Rn.x4 rfl rfl|exact Rn.x5 rfl|exact Rn.x6 rfl|exact Rn.x7 rfl|refine RB.newnil rfl rfl ?_|refine RB.cells rfl rfl rfl ?_ ?_|refine RB.map rfl rfl rfl ?_ ?_|refine RB.cellsB rfl rfl ?_ ?_|refine RB.mapB rfl rfl ?_ ?_)):p:=h
theorem marked99 (l : List Aut) (t : List Nat) (h : ∀ a ∈ l, WfI a) (hl : l.length <= 12) (ht : t.length = l.length) : PSpec Tryz.prog 99 [macV l, sliN t] (.bool (mkdT l t)) := by
  refine PSpec.of_rn 64 TP.ok99 rfl (by rw[noRefs,Qch,noRefs,Qab];rfl) rfl ?_
  have hno:=QaL l
  have hnm:=QcU l
  simp(disch:=first|omega|exact PairsOK.mk rfl|(simp only[lenW]<;>omega)) only[TP.s99,Qaa,Qac,Qad,wW,wV,simprocAttr]
  refine Qaj 100 (fun i:Nat=>[(1,sliN t),(8,auts l),(9,.int .i64 l.length),(10,.int .i64 i)]) (fun _=>[]) (fun i=>i<=l.length/\mkdT l t=mkdT (l.drop i) (t.drop i)) (fun i=>l.length-i) 0 0 140 (fun _:Unit=>[]) (fun _=>[]) (fun _=>mkdT l t=true) ⟨[],rfl,au0,au20,au19⟩ ⟨Nat.zero_le _,rfl⟩ ?_ ?_
  · rintro i ⟨hi, hm⟩
    by_cases hlt:i<l.length
    · obtain ⟨x, hx⟩ := Qag hlt
      obtain⟨y,hy⟩:=Qag (l:=t) (i:=i) (by omega)
      have hwi:=h x (List.mem_of_getElem? hx)
      have hdr:=Qda hx
      have hdl:4<=((l.flatMap auC).drop (i*4)).length:=by rw[hdr];simp
      have hlt2:i<t.length:=by omega
      have hst:mkdT (l.drop i) (t.drop i)=(x.ms.contains y&&mkdT (l.drop (i+1)) (t.drop (i+1))):=by
        obtain⟨h1,e1⟩:=List.getElem?_eq_some_iff.1 hx
        obtain⟨h2,e2⟩:=List.getElem?_eq_some_iff.1 hy
        rw[List.drop_eq_getElem_cons h1,List.drop_eq_getElem_cons h2,e1,e2];rfl
      have hc:=has189 x.ms y hwi.wf.ms (by have:=QaX x.n x.ms hwi.wf.nd hwi.wf.msn;have:=hwi.n3;omega)
      cases hq:x.ms.contains y
      · rw [hq] at hc hst
        simp(disch:=first|omega|exact PairsOK.mk rfl|(simp only[lenW]<;>omega)) only[hlt,hlt2,hdr,hdl,Qaz hy,Qaa,Qac,Qad,wW,wV,simprocAttr]
        refine cp hc ?_
        simp(disch:=first|omega|exact PairsOK.mk rfl|(simp only[lenW]<;>omega)) only[Qaa,Qac,Qad,wW,wV,simprocAttr]
        refine⟨.inr trivial,_,rfl,?_⟩
        rw[hm,hst]
        exact Rn.same rfl
      · rw [hq, Bool.true_and] at hst
        rw[hq]at hc
        simp(disch:=first|omega|exact PairsOK.mk rfl|(simp only[lenW]<;>omega)) only[hlt,hlt2,hdr,hdl,Qaz hy,Qaa,Qac,Qad,wW,wV,simprocAttr]
        refine cp hc ?_
        simp(disch:=first|omega|exact PairsOK.mk rfl|(simp only[lenW]<;>omega)) only[Qaa,Qac,Qad,wW,wV,simprocAttr]
        exact⟨i+1,by omega,⟨by omega,by rw[hm,hst]⟩,⟨[],rfl,au0,au20,au19⟩⟩
    · have e : i = l.length := by omega
      subst e
      simp(disch:=first|omega|exact PairsOK.mk rfl|(simp only[lenW]<;>omega)) only[hlt,Qaa,Qac,Qad,wW,wV,simprocAttr]
      refine⟨(),by rw[hm,List.drop_eq_nil_of_le (Nat.le_refl _)];rfl,?_⟩
      exact⟨[],rfl,au0,au20,au19⟩
  rintro _ hm
  simp(disch:=first|omega|exact PairsOK.mk rfl|(simp only[lenW]<;>omega)) only[Qaa,Qac,Qad,wW,wV,simprocAttr]
  refine⟨.inr trivial,_,rfl,?_⟩
  rw[hm]
  exact Rn.same rfl
def stV:Option (List Nat)->AV
 |some n=> .tup [sliN n,.bool true]
 |none=> .tup [.nilsl,.bool false]
theorem QoR (o:Option (List Nat)):noRef (stV o)=true:=by
 cases o with
 |none=>rfl
 |some n=>rw[stV,noRef,noRefs,Qab];rfl
theorem Qk3 {l:List Aut} {t:List Nat} {e:Nat} {k:Nat} (h:stp l t e k=none):∀m,stp l t e (k+m)=none
 |0=>h
 |m+1=>by
  have:=Qk3 h m
  show stp l t e (k+m+1)=none
  unfold stp;rw[this]
theorem QrT {l:List Nat} {i x:Nat}:(ints (nz l)).set i (.int .i64 (x:Int))=ints (nz (l.set i x)):=by simp[ints,nz,List.map_set]
theorem QqF {l:List Aut} {i:Nat} {x:Aut} (h:l[i]?=some x):((l.map emV).drop i).head?=some (emV x):=by
 rw[List.head?_drop,List.getElem?_map,h];rfl
theorem step100 (l : List Aut) (t : List Nat) (e : Nat) (h : ∀ a ∈ l, WfI a) (h0 : 0 < l.length) (hl : l.length <= 12) (ht : t.length = l.length) : PSpec Tryz.prog 100 [macV l, sliN t, .int .i64 (e : Int)] (stV (stepT l t e)) := by
  refine PSpec.of_rn 64 TP.ok100 rfl (by rw[noRefs,Qch,noRefs,Qab];rfl) (QoR _) ?_
  have hno:=QaL l
  have hnm:=QcU l
  have hml:(l.map emV).length=l.length:=List.length_map ..
  have hcl:=clone56 t (by omega)
  simp(disch:=first|omega|exact PairsOK.mk rfl|(simp only[lenW]<;>omega)) only[TP.s100,Qaa,Qac,Qad,wW,wV,simprocAttr]
  refine ch (HSpec.of_O (b:=83) (by rw[noRefs,Qab];rfl) hcl (by repeat (first|exact Fresh.e|exact Fresh.le (by assumption) (by omega)|refine Fresh.set ?_ (by omega) (by omega))) rfl) ?_
  simp(disch:=first|omega|exact PairsOK.mk rfl|(simp only[lenW]<;>omega)) only[Qaa,Qac,Qad,wW,wV,simprocAttr]
  refine Qaj 120 (fun s:Nat×List Nat=>[(1,sliN t),(2,.int .i64 (e:Int)),(3,.ptr 51 0 0),(8,.sl 60 0 0 t.length 1),(16,auts l),(17,.int .i64 l.length),(18,.int .i64 s.1)]) (fun s=>[(51,.cells 0 [auts l,sliN (evA l),.fsl (l.map emV) l.length 1]),(60,.cells 0 (ints (nz s.2)))]) (fun s=>s.1<=l.length/\s.2.length=t.length/\stp l t e s.1=some s.2) (fun s=>l.length-s.1) (0,t) 0 200 (fun n:List Nat=>[(8,.sl 60 0 0 t.length 1)]) (fun n=>[(60,.cells 0 (ints (nz n)))]) (fun n=>n.length=t.length/\stepT l t e=some n) ?_ ⟨Nat.zero_le _,rfl,rfl⟩ ?_ ?_
  · refine ⟨[(51, .blk 64 0), (60, .blk 83 0)], rfl, au0, ?_, au19⟩
    exact RB.cells rfl rfl gg (RnL.same hnm) (RB.cells rfl rfl gg (RnL.same (Qae _)) RB.nil)
  · rintro ⟨i, n⟩ ⟨hi, hn, hs⟩
    dsimp only at hi hn hs⊢
    by_cases hlt:i<l.length
    · obtain ⟨x, hx⟩ := Qag hlt
      obtain⟨y,hy⟩:=Qag (l:=t) (i:=i) (by omega)
      have hyd:t.getD i 0=y:=by rw[List.getD_eq_getElem?_getD,hy];rfl
      have hwi:=h x (List.mem_of_getElem? hx)
      have hdr:=Qda hx
      have hdl:4<=((l.flatMap auC).drop (i*4)).length:=by rw[hdr];simp
      have hlt2:i<t.length:=by omega
      have hin:i+1<=n.length:=by omega
      have hc:=has189 x.al e hwi.wf.al (by have:=Qey hwi.wf;omega)
      have hstep:stp l t e (i+1)=if e∈x.al then(match stepA x.es y e with|some to=>some (n.set i to)|none=>none)else some n:=by
        unfold stp;rw[hs,hx,hyd]
        rfl
      by_cases hq:e∈x.al
      · rw [List.contains_iff_mem.2 hq] at hc
        rw[if_pos hq]at hstep
        simp(disch:=first|omega|exact PairsOK.mk rfl|(simp only[lenW]<;>omega)) only[hlt,hlt2,hdr,hdl,Qaa,Qac,Qad,wW,wV,simprocAttr]
        refine cp hc ?_
        simp(disch:=first|omega|exact PairsOK.mk rfl|(simp only[lenW]<;>omega)) only[hlt,hlt2,QqF hx,Qaz hy,hml,Qaa,Qac,Qad,wW,wV,simprocAttr]
        cases hst:stepA x.es y e with
        | none =>
          rw[hst]at hstep
          have hk:(y,e)∉x.es.map pE:=fun hm=>by
            obtain⟨d,hd,e2⟩:=List.mem_map.1 hm
            have h3:=Qd4 hwi.wf.es hd
            unfold pE at e2
            simp only[Prod.mk.injEq]at e2
            rw[e2.1,e2.2,hst]at h3;cases h3
          have hfin:stepT l t e=none:=by
            have:=Qk3 hstep (l.length-(i+1))
            rwa [show i+1+(l.length-(i+1))=l.length by omega]at this
          refine QjF (c:=kP) (f:=vE x.es) (x:=(y,e)) (l:=x.es.map pE) QkG hk ?_
          simp(disch:=first|omega|exact PairsOK.mk rfl|(simp only[lenW]<;>omega)) only[Qaa,Qac,Qad,wW,wV,simprocAttr]
          refine⟨.inr trivial,_,rfl,?_⟩
          rw[hfin]
          exact Rn.same rfl
        | some to =>
          rw[hst]at hstep
          have hv:vE x.es (y,e)= .int .i64 (to:Int):=by unfold vE;rw[hst];rfl
          refine QdZ (c:=kP) (f:=vE x.es) (x:=(y,e)) (l:=x.es.map pE) QkG (Qeb hst) ?_
          rw[hv]
          simp(disch:=first|omega|exact PairsOK.mk rfl|(simp only[lenW]<;>omega)) only[hlt2,hin,QrT,Qaa,Qac,Qad,wW,wV,simprocAttr]
          refine⟨(i+1,n.set i to),by dsimp only;omega,⟨by dsimp only;omega,by rw[List.length_set];exact hn,hstep⟩,?_⟩
          refine⟨[(51,.blk 51 0),(60,.blk 60 0)],rfl,au0,?_,au19⟩
          exact RB.cells rfl rfl gg (RnL.same hnm) (RB.cells rfl rfl gg (RnL.same (Qae _)) RB.nil)
      · rw [show x.al.contains e = false by rw [Bool.eq_false_iff]; exact fun hh => hq (List.contains_iff_mem.1 hh)] at hc
        rw[if_neg hq]at hstep
        simp(disch:=first|omega|exact PairsOK.mk rfl|(simp only[lenW]<;>omega)) only[hlt,hlt2,hdr,hdl,Qaa,Qac,Qad,wW,wV,simprocAttr]
        refine cp hc ?_
        simp(disch:=first|omega|exact PairsOK.mk rfl|(simp only[lenW]<;>omega)) only[Qaa,Qac,Qad,wW,wV,simprocAttr]
        refine⟨(i+1,n),by dsimp only;omega,⟨by dsimp only;omega,hn,hstep⟩,?_⟩
        refine⟨[(51,.blk 51 0),(60,.blk 60 0)],rfl,au0,?_,au19⟩
        exact RB.cells rfl rfl gg (RnL.same hnm) (RB.cells rfl rfl gg (RnL.same (Qae _)) RB.nil)
    · have e2 : i = l.length := by omega
      subst e2
      simp(disch:=first|omega|exact PairsOK.mk rfl|(simp only[lenW]<;>omega)) only[hlt,Qaa,Qac,Qad,wW,wV,simprocAttr]
      refine⟨n,⟨hn,hs⟩,?_⟩
      refine⟨[(60,.blk 60 0)],rfl,au0,?_,au19⟩
      exact RB.cells rfl rfl gg (RnL.same (Qae _)) RB.nil
  rintro n ⟨hn,hs⟩
  simp(disch:=first|omega|exact PairsOK.mk rfl|(simp only[lenW]<;>omega)) only[Qaa,Qac,Qad,wW,wV,simprocAttr]
  refine⟨.inr trivial,_,rfl,?_⟩
  rw[hs]
  refine Rn.tup (RnL.cons ?_ (RnL.same rfl))
  rw[<-hn]
  exact Rn.fz0 gg (by simp[ints]) (RnL.same (Qae _))
end Go.AM.SO
namespace Go.AM.TK
open Go.Proofs
set_option maxHeartbeats 4000000
noncomputable section
def cf:YA.Cf:={}
noncomputable def ft:FT2:=YA.tre Tryz.prog cf 20 [72,98,154,155,156,188,200,201,232,263]
theorem ft_ok:ft.OK Tryz.prog:=YA.QhC _ _ (YA.QgZ (by kernel_rfl))
end
end Go.AM.TK
namespace Go.AM.SO
open Go.Proofs Go.AM.SD
noncomputable section
def keyT (t:List Nat):List UInt8:=t.flatMap fun x=>[UInt8.ofNat (48+x),32]
def keyB (k:Nat) (t:List Nat):Bool:=callR ansB noOrc TK.ft.get (exR ansB noOrc TK.ft.get 1000) (.c .pure) k [sliN t] .e 64 (fun u _ _=>eqAV (.str (keyT t)) u)
theorem QhT {k:Nat} {t:List Nat} (h:keyB k t=true):PSpec Tryz.prog k [sliN t] (.str (keyT t)):=
 QbE (t:=TK.ft) TK.ft_ok Qc4 (d:=1000) (eqAV _) (fun u h=>(Qc2 _ _ h).symm) h
def allK (k n:Nat):List Nat->Bool:=@Nat.rec (fun _=>List Nat->Bool) (fun t=>keyB k t) (fun _ ih t=>ifB (ih (t++[0])) (ifB (ih (t++[1])) (ih (t++[2])) false) false) n
theorem Qez {k:Nat}:∀{t u:List Nat},allK k t.length u=true->(∀x∈t,x<3)->keyB k (u++t)=true
 |[],u,h,_=>by rw[List.append_nil];exact h
 | x :: t, u, h, h3 => by
  have e:allK k (x::t).length u=ifB (allK k t.length (u++[0])) (ifB (allK k t.length (u++[1])) (allK k t.length (u++[2])) false) false:=rfl
  rw[e]at h
  simp only[Qaw]at h
  have hx:=h3 x (by simp)
  have h4:allK k t.length (u++[x])=true:=by
   grind
  have:=Qez h4 fun y hy=>h3 y (by simp[hy])
  simp_all
theorem QqG:allK 98 1 []=true:=by kernel_rfl
theorem QqH:allK 98 2 []=true:=by kernel_rfl
theorem QqI:allK 98 3 []=true:=by kernel_rfl
theorem key98 {t:List Nat} (h0:0<t.length) (hl:t.length<=3) (h3:∀x∈t,x<3):PSpec Tryz.prog 98 [sliN t] (.str (keyT t)):=by
 refine QhT (Qez (u:=[]) ?_ h3)
 grind [QqG,QqH,QqI]
theorem Qk4:∀{s t:List Nat},s.length=t.length->(∀x∈s,x<10)->(∀x∈t,x<10)->keyT s=keyT t->s=t
 |[],[],_,_,_,_=>rfl
 | x :: s, y :: t, hl, hs, ht, h => by
  have e1:keyT (x::s)=UInt8.ofNat (48+x)::32::keyT s:=rfl
  have e2:keyT (y::t)=UInt8.ofNat (48+y)::32::keyT t:=rfl
  rw[e1,e2]at h
  simp only[List.cons.injEq,true_and]at h
  have hx:=hs x (by simp)
  have hy:=ht y (by simp)
  have h1:x=y:=by
   have:=congrArg UInt8.toNat h.1
   grind [UInt8.toNat_ofNat']
  subst h1
  rw[Qk4 (by simpa using hl) (fun z hz=>hs z (by simp[hz])) (fun z hz=>ht z (by simp[hz])) h.2]
end
end Go.AM.SO
namespace Go.AM.SO
open Go.Proofs Go.AM.SD Go.AM.SE
abbrev ixT (T:List (List Nat)) (n:List Nat):Nat:=T.findIdx (· ==n)
theorem Qf2 {A B:List (List Nat)} {n:List Nat} (h:A<+:B) (hn:n∈A):ixT A n=ixT B n:=by
 obtain⟨C,rfl⟩:=h
 grind
theorem Qip {A:List (List Nat)} {n:List Nat} (hn:n∉A):ixT A n=A.length:=by
 grind
theorem QqJ {A:List (List Nat)} {n:List Nat} (hn:n∉A):ixT A n=ixT (A++[n]) n:=by
 grind
theorem Qiq {A:List (List Nat)} {n:List Nat} (hn:n∈A):A[ixT A n]?=some n:=by
 grind
theorem QhU {A:List (List Nat)} {n:List Nat} (hn:n∈A):ixT A n<A.length:=List.findIdx_lt_length_of_exists ⟨n,hn,by simp⟩
theorem QoS {A:List (List Nat)} {n:List Nat} {i:Nat} (hd:A.Nodup) (h:A[i]?=some n):ixT A n=i:=by
 grind [Qiq,List.getElem?_inj]
def rowE (l:List Aut) (ev:List Nat) (T:List (List Nat)) (j:Nat) (t:List Nat):List Ed:=ev.filterMap fun e=>(stepT l t e).map fun n=>(j,e,ixT T n)
theorem Qnm {l:List Aut} {ev:List Nat} {A B:List (List Nat)} {j:Nat} {t:List Nat} (h:A<+:B) (hc:∀e∈ev,∀n,stepT l t e=some n->n∈A):rowE l ev A j t=rowE l ev B j t:=by
 unfold rowE
 refine filterMap_congr' fun e he=>?_
 cases hs:stepT l t e with
 |none=>rfl
 |some n=>simp only[Option.map_some,Qf2 h (hc e he n hs)]
where
 filterMap_congr' {α β:Type} {f g:α->Option β}:∀{l:List α},(∀x∈l,f x=g x)->l.filterMap f=l.filterMap g
  |[],_=>rfl
  |x::l,h=>by
   rw[List.filterMap_cons,List.filterMap_cons,h x (by simp),filterMap_congr' (l:=l) fun y hy=>h y (by simp[hy])]
theorem Qjl {l:List Aut} {i:Nat} {t:List Nat}:∀{ev:List Nat} {s:List (List Nat)×List Ed},
  (pRow l ev i t s).2=s.2++rowE l ev (pRow l ev i t s).1 i t/\∀e∈ev,∀n,stepT l t e=some n->n∈(pRow l ev i t s).1
 |[],s=>by simp_all [pRow,rowE]
 | e :: ev, s => by
  have ih:=Qjl (l:=l) (i:=i) (t:=t) (ev:=ev) (s:=pEv l i t s e)
  have hp:=Qcw (l:=l) (i:=i) (t:=t) (ev:=ev) (s:=pEv l i t s e)
  have h1:pRow l (e::ev) i t s=pRow l ev i t (pEv l i t s e):=rfl
  rw[h1]
  obtain⟨i1,i2⟩:=ih
  cases hs:stepT l t e with
  |none=>
   have h2:pEv l i t s e=s:=by grind [pEv]
   rw[h2]at i1 i2 hp⊢
   refine⟨?_,fun e' he' n hn=>?_⟩
   ·simp_all [rowE]
   ·grind
  | some n =>
   have h2:pEv l i t s e=(if n∈s.1 then s.1 else s.1++[n],s.2++[(i,e,ixT s.1 n)]):=by grind [pEv]
   rw[h2]at i1 i2 hp⊢
   have hmem:n∈(if n∈s.1 then s.1 else s.1++[n]):=by grind
   have hix:ixT s.1 n=ixT (if n∈s.1 then s.1 else s.1++[n]) n:=by
    grind
   have hix2:=Qf2 hp hmem
   refine⟨?_,fun e' he' n' hn=>?_⟩
   ·generalize pRow l ev i t (if n ∈ s.1 then s.1 else s.1 ++ [n], s.2 ++ [(i, e, ixT s.1 n)]) = R at *
    simp_all [rowE]
   ·grind
structure PE (l:List Aut) (ev:List Nat) (i:Nat) (s:List (List Nat)×List Ed):Prop where
 ed:s.2=(List.range i).flatMap fun j=>rowE l ev s.1 j (s.1.getD j [])
 cl:∀j t,j<i->s.1[j]?=some t->∀e∈ev,∀n,stepT l t e=some n->n∈s.1
 le:i<=s.1.length
theorem Qg6 {A B:List (List Nat)} (h:A<+:B) {j:Nat} (hj:j<A.length):B.getD j []=A.getD j []:=by
 obtain⟨C,rfl⟩:=h
 grind
theorem Qf3 {A B:List (List Nat)} (h:A<+:B) {j:Nat} (hj:j<A.length):B[j]?=A[j]?:=by
 obtain⟨C,rfl⟩:=h
 grind
theorem flatMap_congr' {α β:Type} {f g:α->List β}:∀{l:List α},(∀x∈l,f x=g x)->l.flatMap f=l.flatMap g
 |[],_=>rfl
 |x::l,h=>by
  rw[List.flatMap_cons,List.flatMap_cons,h x (by simp),flatMap_congr' (l:=l) fun y hy=>h y (by simp[hy])]
theorem PE.row {l:List Aut} {ev:List Nat} {i:Nat} {s:List (List Nat)×List Ed} {t:List Nat} (h:PE l ev i s) (ht:s.1[i]?=some t):PE l ev (i+1) (pRow l ev i t s):=by
  have hp:=Qcw (l:=l) (i:=i) (t:=t) (ev:=ev) (s:=s)
  obtain⟨h1,h2⟩:=Qjl (l:=l) (i:=i) (t:=t) (ev:=ev) (s:=s)
  have hi:i<s.1.length:=by
    grind
  refine⟨?_,fun j u hj hu e he n hn=>?_,Nat.le_trans hi hp.length_le⟩
  · rw [h1, List.range_succ, List.flatMap_append, List.flatMap_cons, List.flatMap_nil, List.append_nil]
    have e1:(pRow l ev i t s).1.getD i []=t:=by rw[Qg6 hp hi,List.getD_eq_getElem?_getD,ht];rfl
    rw[e1]
    congr 1
    rw[h.ed]
    refine flatMap_congr' fun j hj=>?_
    have hj':=List.mem_range.1 hj
    obtain⟨u,hu⟩:=Qag (l:=s.1) (i:=j) (by omega)
    rw[Qg6 hp (by omega)]
    refine Qnm hp fun e he n hn=>?_
    rw[List.getD_eq_getElem?_getD,hu]at hn
    exact h.cl j u hj' hu e he n hn
  · rcases Nat.lt_succ_iff_lt_or_eq.1 hj with hj | rfl
    · rw [Qf3 hp (by omega)] at hu
      exact hp.subset (h.cl j u hj hu e he n hn)
    grind [Qf3]
theorem QmG {l:List Aut} {ev:List Nat} (hw:∀a∈l,∀e∈a.es,e.1<a.n/\e.2.2<a.n):∀{k i:Nat} {s:List (List Nat)×List Ed},PI l s->box l<k+i->PE l ev i s->PE l ev (pQ l ev k i s).1.length (pQ l ev k i s)
 |0,i,s,h,hk,he=>by
  have h1:=QcR h.nd h.inT
  have h2:=he.le
  omega
 | k + 1, i, s, h, hk, he => by
  unfold pQ
  cases hs:s.1[i]? with
  | none =>
   have h2:=he.le
   have:i=s.1.length:=by
    grind
   rwa [this]at he
  |some t=>exact QmG hw (QdD hw (h.inT t (List.mem_of_getElem? hs)) h) (by omega) (he.row hs)
theorem QcK {l:List Aut} (h0:∀a∈l,0<a.n) (hw:∀a∈l,∀e∈a.es,e.1<a.n/\e.2.2<a.n):PE l (evA l) (sync0 l).1.length (sync0 l):=
 QmG hw (Qe2 h0) (by omega) ⟨rfl,fun j t hj=>absurd hj (Nat.not_lt_zero _),Nat.zero_le _⟩
theorem sync_pre {l:List Aut}:[List.replicate l.length 0]<+:(sync0 l).1:=QoD (s:=([List.replicate l.length 0],[]))
end Go.AM.SO
namespace Go.AM.SO
open Go.Proofs Go.AM.SD Go.AM.SE
def keyC (t:List Nat):AV:= .str (keyT t)
def ixV (T:List (List Nat)) (t:List Nat):AV:= .int .i64 ((ixT T t:Nat):Int)
abbrev tuV (T:List (List Nat)):AV:= .fsl (T.map sliN) T.length 1
theorem Qci (T:List (List Nat)):noRef (tuV T)=true:=by rw[tuV,noRef];exact Qar Qab _
theorem InT.lt {l:List Aut} (h:∀a∈l,WfI a) {t:List Nat} (ht:InT l t) {x:Nat} (hx:x∈t):x<3:=by
 obtain⟨i,hi,hil⟩:=Qd1 hx
 obtain⟨a,ha⟩:=Qag (l:=l) (i:=i) (by rw[<-ht.1];exact hil)
 have h1:=ht.2 i a ha
 rw[List.getD_eq_getElem?_getD,hi]at h1
 have h2:=(h a (List.mem_of_getElem? ha)).n3
 simp only[Option.getD_some]at h1
 omega
theorem QeA {l:List Aut} (h:∀a∈l,WfI a) {x:List Nat} {T:List (List Nat)} (hx:InT l x) (hT:∀t∈T,InT l t):KeyG false [.s] keyC x T:=by
 have key:∀y,InT l y->keyEq false [.s] (keyC x) (keyC y)=some (decide (x=y)):=by
  intro y hy
  have e:keyEq false [.s] (keyC x) (keyC y)=some (decide (keyT x=keyT y)):=QfD
  rw[e]
  congr 1
  refine decide_eq_decide.2 ⟨fun hh=>Qk4 (by rw[hx.1,hy.1]) (fun z hz=>?_) (fun z hz=>?_) hh,fun hh=>by rw[hh]⟩
  ·have:=hx.lt h hz;omega
  ·have:=hy.lt h hz;omega
 refine⟨?_,fun y hy=>key y (hT y hy)⟩
 unfold keyOK
 rw[key x hx]
theorem QmH {T:List (List Nat)} {n:List Nat} (hn:n∉T):mapG keyC (updG (ixV T) n (.int .i64 ((T.length:Nat):Int))) (T++[n])=mapG keyC (ixV (T++[n])) (T++[n]):=by
 refine QhK fun x hx=>?_
 unfold updG
 split
 ·rename_i e; subst e
  unfold ixV
  rw[<-QqJ hn,Qip hn]
 ·rename_i e
  unfold ixV
  rw[Qf2 (List.prefix_append T [n]) (by
   rcases List.mem_append.1 hx with hx|hx
   ·exact hx
   ·simp at hx;exact absurd hx e)]
def marks (l:List Aut) (T:List (List Nat)) (i:Nat):List Nat:=(List.range i).filter fun j=>mkdT l (T.getD j [])
theorem Qnn {l:List Aut} {T:List (List Nat)} {i:Nat} {t:List Nat} (ht:T[i]?=some t):marks l T (i+1)=if mkdT l t=true then marks l T i++[i]else marks l T i:=by
 have e:T.getD i []=t:=by rw[List.getD_eq_getElem?_getD,ht];rfl
 unfold marks
 rw[List.range_succ,List.filter_append]
 by_cases hm:mkdT l t=true
 ·rw[if_pos hm,List.filter_cons_of_pos (by rw[e];exact hm),List.filter_nil]
 ·rw[if_neg hm,List.filter_cons_of_neg (by rw[e];exact hm),List.filter_nil,List.append_nil]
theorem Qjm {l:List Aut} {A B:List (List Nat)} (h:A<+:B) {i:Nat} (hi:i<=A.length):marks l B i=marks l A i:=by
 unfold marks
 refine List.filter_congr fun j hj=>?_
 rw[Qg6 h (by have:=List.mem_range.1 hj;omega)]
theorem Qjn {l:List Aut} {T:List (List Nat)} {i:Nat}:(marks l T i).length<=i:=by
 have:=List.length_filter_le (fun j=>mkdT l (T.getD j [])) (List.range i)
 rwa [List.length_range]at this
theorem QqK {l:List Aut} {i e:Nat} {t:List Nat} {s:List (List Nat)×List Ed}:(pEv l i t s e).2.length<=s.2.length+1:=by
 unfold pEv
 cases stepT l t e with
 |none=>exact Nat.le_succ _
 |some n=>simp
theorem Qd5 {l:List Aut} {i:Nat} {t:List Nat}:∀{ev:List Nat} {s:List (List Nat)×List Ed},(pRow l ev i t s).2.length<=s.2.length+ev.length
 |[],s=>Nat.le_refl _
 |e::ev,s=>by
  have h1:=Qd5 (l:=l) (i:=i) (t:=t) (ev:=ev) (s:=pEv l i t s e)
  have h2:=@QqK l i e t s
  show(pRow l ev i t (pEv l i t s e)).2.length<=_
  rw[List.length_cons];omega
theorem Qjo {l:List Aut} {ev:List Nat} {i j e:Nat} {t:List Nat} {s:List (List Nat)×List Ed} (h:ev[j]?=some e):pRow l (ev.take (j+1)) i t s=pEv l i t (pRow l (ev.take j) i t s) e:=by
 unfold pRow
 rw[take_succ' h,List.foldl_append];rfl
theorem Qd6 {T:List (List Nat)} {i:Nat} {t:List Nat} (h:T[i]?=some t):(T.map sliN)[i]?=some (sliN t):=by rw[List.getElem?_map,h];rfl
theorem QqL {l:List Aut} {ev:List Nat} {k i:Nat} {s:List (List Nat)×List Ed} (h:s.1[i]?=none):pQ l ev k i s=s:=by
 cases k with
 |zero=>rfl
 |succ k=>unfold pQ;rw[h]
theorem sync28 (l : List Aut) (h : ∀ a ∈ l, WfI a) (h0 : 0 < l.length) (hl : l.length <= 5) (hkey : ∀ t, InT l t -> PSpec Tryz.prog 98 [sliN t] (.str (keyT t))) :
    PSpec Tryz.prog 28 [auts l] (.tup [aV (syncA l),tuV (sync0 l).1,.int .i64 0]):=by
  have hno:=QaL l
  have hnm:=QcU l
  have hnr:noRef (.tup [aV (syncA l),tuV (sync0 l).1,.int .i64 0])=true:=by
    rw[noRef,noRefs,noRefs,Qci,noRef,noRefs,noRefs,noRefs,noRefs,Qab,Qab,Qak];rfl
  refine PSpec.of_rn 64 TP.ok28 rfl (by rw[noRefs,hno];rfl) hnr ?_
  have hw:∀a∈l,∀e∈a.es,e.1<a.n/\e.2.2<a.n:=fun a ha=>(h a ha).wf.esn
  have hpos:∀a∈l,0<a.n:=fun a ha=>(h a ha).pos
  have hbox:box l<=243:=Nat.le_trans (QkY (fun a ha=>(h a ha).n3) (by omega)) (Nat.pow_le_pow_right (n:=3) (by omega) hl)
  have hc:=check95 l h (by omega)
  have ho:=open96 l h (by omega)
  have hi:=initial97 l h h0 (by omega)
  have hst0:=Qe2 (l:=l) hpos
  have hin0:InT l (List.replicate l.length 0):=hst0.inT _ (by simp)
  have hk0:=hkey _ hin0
  have hev5:=Qcp h
  have hml:(l.map emV).length=l.length:=List.length_map ..
  simp(disch:=first|omega|exact PairsOK.mk rfl|(simp only[lenW]<;>omega)) only[TP.s28,Qaa,Qac,Qad,wW,wV,simprocAttr]
  refine cp hc ?_
  simp(disch:=first|omega|exact PairsOK.mk rfl|(simp only[lenW]<;>omega)) only[Qaa,Qac,Qad,wW,wV,simprocAttr]
  refine cp ho ?_
  simp(disch:=first|omega|exact PairsOK.mk rfl|(simp only[lenW]<;>omega)) only[Qaa,Qac,Qad,wW,wV,simprocAttr]
  refine cp hi ?_
  simp(disch:=first|omega|exact PairsOK.mk rfl|(simp only[lenW]<;>omega)) only[Qaa,Qac,Qad,wW,wV,simprocAttr]
  refine cp hk0 ?_
  simp(disch:=first|omega|exact PairsOK.mk rfl|(simp only[lenW]<;>omega)) only[Qaa,Qac,Qad,wW,wV,simprocAttr]
  refine Qce (c:=keyC) (f:=fun _=> .nilsl) (x:=List.replicate l.length 0) (l:=[]) (g:=0) gg (QeA h hin0 fun t ht=>by cases ht) (by simp) (by omega) ?_
  have hm0:mapG keyC (updG (fun _=> .nilsl) (List.replicate l.length 0) (.int .i64 0)) ([]++[List.replicate l.length 0])=mapG keyC (ixV [List.replicate l.length 0]) [List.replicate l.length 0]:=by
    refine QhK fun x hx=>?_
    have hx:x=List.replicate l.length 0:=by simpa using hx
    subst hx
    unfold updG ixV
    rw[if_pos rfl]
    simp[ixT]
  rw[hm0]
  simp(disch:=first|omega|exact PairsOK.mk rfl|(simp only[lenW]<;>omega)) only[Qaa,Qac,Qad,wW,wV,simprocAttr]
  refine Qaj 320 (fun q:Nat×(List (List Nat)×List Ed)=>[(2,.ptr 51 0 0),(6,.ptr 52 0 0),(3,.sl 60 0 0 q.2.1.length 1),(9,.map 53 0),(10,.int .i64 (q.1))]) (fun q=>[(51,.cells 0 [sliN (evA l),.int .i64 0,.sl 70 0 0 (marks l q.2.1 q.1).length 1,.sl 71 0 0 q.2.2.length 3]),(52,.cells 0 [auts l,sliN (evA l),.fsl (l.map emV) l.length 1]),(53,.map 0 (mapG keyC (ixV q.2.1) q.2.1)),(60,.cells 0 (q.2.1.map sliN)),(70,.cells 0 (ints (nz (marks l q.2.1 q.1)))),(71,.cells 0 (q.2.2.flatMap edC))]) (fun q=>q.1<=q.2.1.length/\PI l q.2/\q.2.2.length<=q.1*5/\pQ l (evA l) (box l+1-q.1) q.1 q.2=sync0 l) (fun q=>box l+1-q.1) (0,([List.replicate l.length 0],[])) 0 900
    (fun _:Unit=>[(2,.ptr 51 0 0),(3,tuV (sync0 l).1)]) (fun _=>[(51,.cells 0 [sliN (evA l),.int .i64 0,sliN (marks l (sync0 l).1 (sync0 l).1.length),egsN (sync0 l).2])]) (fun _=>True) ?_ ⟨Nat.zero_le _,hst0,Nat.zero_le _,rfl⟩ ?_ ?_
  · refine ⟨[(51, .blk 64 0), (52, .blk 74 0), (53, .blk 92 0), (60, .blk 90 0), (70, .nil), (71, .nil)], rfl, au0, ?_, au19⟩
    exact RB.cells rfl rfl gg (RnL.cons (Rn.same (Qab _)) (RnL.cons (Rn.same rfl) (RnL.cons (Rn.x4 rfl rfl) (RnL.cons (Rn.x4 rfl rfl) RnL.nil)))) (RB.cells rfl rfl gg (RnL.same hnm) (RB.map rfl rfl gg (RnM.mapG fun _ _=>⟨rfl,rfl⟩) (RB.cells rfl rfl gg (RnL.eq (by simp) (Qar Qab _)) (RB.newnil rfl rfl (RB.newnil rfl rfl RB.nil)))))
  · rintro ⟨i, s⟩ ⟨hi, hp, hel, hq⟩
    dsimp only at hi hp hel hq⊢
    have hsb:=QcR hp.nd hp.inT
    have hsml:(s.1.map sliN).length=s.1.length:=List.length_map ..
    by_cases hlt:i<s.1.length
    · obtain ⟨t, ht⟩ := Qag hlt
      have hti:=hp.inT t (List.mem_of_getElem? ht)
      have hmc:=marked99 l t h (by omega) hti.1
      have hms:=Qnn (l:=l) ht
      have hml5:=@Qjn l s.1 i
      have hpw:=Qcw (l:=l) (i:=i) (t:=t) (ev:=evA l) (s:=s)
      have hpo:=QdD (i:=i) (ev:=evA l) hw hti hp
      have hpn:=Qd5 (l:=l) (i:=i) (t:=t) (ev:=evA l) (s:=s)
      have hq':pQ l (evA l) (box l+1-(i+1)) (i+1) (pRow l (evA l) i t s)=sync0 l:=by
        rw[<-hq,show box l+1-i=(box l+1-(i+1))+1 by omega]
        simp only[pQ,ht]
      cases hmb:mkdT l t
      · rw [hmb] at hmc hms
        rw[if_neg (by simp)]at hms
        simp(disch:=first|omega|exact PairsOK.mk rfl|(simp only[lenW]<;>omega)) only[hlt,Qd6 ht,Qaa,Qac,Qad,wW,wV,simprocAttr]
        refine cp hmc ?_
        simp(disch:=first|omega|exact PairsOK.mk rfl|(simp only[lenW]<;>omega)) only[Qaa,Qac,Qad,wW,wV,simprocAttr]
        have hmk:marks l s.1 (i+1)=marks l s.1 i:=hms
        refine Qaj 420 (fun j:Nat=>[(2,.ptr 51 0 0),(6,.ptr 52 0 0),(3,.sl 60 0 0 (pRow l ((evA l).take j) i t s).1.length 1),(9,.map 53 0),(10,.int .i64 (i)),(61,sliN (evA l)),(62,.int .i64 (evA l).length),(63,.int .i64 j)]) (fun j=>[(51,.cells 0 [sliN (evA l),.int .i64 0,.sl 70 0 0 (marks l s.1 (i+1)).length 1,.sl 71 0 0 (pRow l ((evA l).take j) i t s).2.length 3]),(52,.cells 0 [auts l,sliN (evA l),.fsl (l.map emV) l.length 1]),(53,.map 0 (mapG keyC (ixV (pRow l ((evA l).take j) i t s).1) (pRow l ((evA l).take j) i t s).1)),(60,.cells 0 ((pRow l ((evA l).take j) i t s).1.map sliN)),(70,.cells 0 (ints (nz (marks l s.1 (i+1))))),(71,.cells 0 ((pRow l ((evA l).take j) i t s).2.flatMap edC))]) (fun j=>j<=(evA l).length) (fun j=>(evA l).length-j) 0 2 700 (fun _:Unit=>[(2,.ptr 51 0 0),(6,.ptr 52 0 0),(3,.sl 60 0 0 (pRow l (evA l) i t s).1.length 1),(9,.map 53 0),(10,.int .i64 (i))]) (fun _=>[(51,.cells 0 [sliN (evA l),.int .i64 0,.sl 70 0 0 (marks l s.1 (i+1)).length 1,.sl 71 0 0 (pRow l (evA l) i t s).2.length 3]),(52,.cells 0 [auts l,sliN (evA l),.fsl (l.map emV) l.length 1]),(53,.map 0 (mapG keyC (ixV (pRow l (evA l) i t s).1) (pRow l (evA l) i t s).1)),(60,.cells 0 ((pRow l (evA l) i t s).1.map sliN)),(70,.cells 0 (ints (nz (marks l s.1 (i+1))))),(71,.cells 0 ((pRow l (evA l) i t s).2.flatMap edC))]) (fun _=>True) ?_ (Nat.zero_le _) ?_ ?_
        · show Rec _ _ [(51, .cells 0 [sliN (evA l), .int .i64 0, .sl 70 0 0 (marks l s.1 (i + 1)).length 1, .sl 71 0 0 s.2.length 3]), (52, .cells 0 [auts l, sliN (evA l), .fsl (l.map emV) l.length 1]), (53, .map 0 (mapG keyC (ixV s.1) s.1)), (60, .cells 0 (s.1.map sliN)), (70, .cells 0 (ints (nz (marks l s.1 (i + 1))))), (71, .cells 0 (s.2.flatMap edC))] _ _
          rw[hmk]
          refine⟨[(51,.blk 51 0),(52,.blk 52 0),(53,.blk 53 0),(60,.blk 60 0),(70,.blk 70 0),(71,.blk 71 0)],rfl,au0,?_,au19⟩
          exact RB.cells rfl rfl gg (RnL.cons (Rn.same (Qab _)) (RnL.cons (Rn.same rfl) (RnL.cons (Rn.x1 rfl rfl) (RnL.cons (Rn.x1 rfl rfl) RnL.nil)))) (RB.cells rfl rfl gg (RnL.same hnm) (RB.map rfl rfl gg (RnM.mapG fun _ _=>⟨rfl,rfl⟩) (RB.cells rfl rfl gg (RnL.same (Qar Qab _)) (RB.cells rfl rfl gg (RnL.same (Qae _)) (RB.cells rfl rfl gg (RnL.same (Qaf _)) RB.nil)))))
        · rintro j hj
          by_cases hjl:j<(evA l).length
          · obtain ⟨e, he⟩ := Qag hjl
            have hpi:=QdD (i:=i) (ev:=(evA l).take j) hw hti hp
            have hpp:=Qcw (l:=l) (i:=i) (t:=t) (ev:=(evA l).take j) (s:=s)
            have hpl:=Qd5 (l:=l) (i:=i) (t:=t) (ev:=(evA l).take j) (s:=s)
            have hps:=Qjo (l:=l) (i:=i) (t:=t) (s:=s) he
            rw[List.length_take]at hpl
            generalize pRow l ((evA l).take j) i t s=u at*
            have hui:i<u.1.length:=Nat.lt_of_lt_of_le hlt hpp.length_le
            have hut:u.1[i]?=some t:=by rw[Qf3 hpp hlt];exact ht
            have hub:=QcR hpi.nd hpi.inT
            have huml:(u.1.map sliN).length=u.1.length:=List.length_map ..
            have huel:(u.2.flatMap edC).length=u.2.length*3:=Qbi (k:=3) (fun _=>rfl) u.2
            have hst:=step100 l t e h h0 (by omega) hti.1
            cases hs:stepT l t e with
            | none =>
              rw[hs]at hst
              have hpe:pEv l i t u e=u:=by unfold pEv;rw[hs]
              rw[hpe]at hps
              simp(disch:=first|omega|exact PairsOK.mk rfl|(simp only[lenW]<;>omega)) only[hjl,hui,Qaz he,Qd6 hut,Qaa,Qac,Qad,wW,wV,simprocAttr]
              refine cp hst ?_
              simp(disch:=first|omega|exact PairsOK.mk rfl|(simp only[lenW]<;>omega)) only[stV,Qaa,Qac,Qad,wW,wV,simprocAttr]
              refine⟨j+1,by omega,by omega,?_⟩
              rw[hps]
              refine⟨[(51,.blk 51 0),(52,.blk 52 0),(53,.blk 53 0),(60,.blk 60 0),(70,.blk 70 0),(71,.blk 71 0)],rfl,au0,?_,au19⟩
              exact RB.cells rfl rfl gg (RnL.cons (Rn.same (Qab _)) (RnL.cons (Rn.same rfl) (RnL.cons (Rn.x1 rfl rfl) (RnL.cons (Rn.x1 rfl rfl) RnL.nil)))) (RB.cells rfl rfl gg (RnL.same hnm) (RB.map rfl rfl gg (RnM.mapG fun _ _=>⟨rfl,rfl⟩) (RB.cells rfl rfl gg (RnL.same (Qar Qab _)) (RB.cells rfl rfl gg (RnL.same (Qae _)) (RB.cells rfl rfl gg (RnL.same (Qaf _)) RB.nil)))))
            | some n =>
              rw[hs]at hst
              have hni:=Qe1 hw hti hs
              have hkn:=hkey n hni
              have hkg:=QeA h hni hpi.inT
              simp(disch:=first|omega|exact PairsOK.mk rfl|(simp only[lenW]<;>omega)) only[hjl,hui,Qaz he,Qd6 hut,Qaa,Qac,Qad,wW,wV,simprocAttr]
              refine cp hst ?_
              simp(disch:=first|omega|exact PairsOK.mk rfl|(simp only[lenW]<;>omega)) only[stV,Qaa,Qac,Qad,wW,wV,simprocAttr]
              refine cp hkn ?_
              simp(disch:=first|omega|exact PairsOK.mk rfl|(simp only[lenW]<;>omega)) only[Qaa,Qac,Qad,wW,wV,simprocAttr]
              by_cases hm:n∈u.1
              · have hpe : pEv l i t u e = (u.1, u.2 ++ [(i, e, ixT u.1 n)]) := by unfold pEv; rw [hs]; simp only [if_pos hm]
                rw[hpe]at hps
                refine QgC (c:=keyC) (f:=ixV u.1) (x:=n) (l:=u.1) (g:=0) gg hkg hm ?_
                simp(disch:=first|omega|exact PairsOK.mk rfl|(simp only[lenW]<;>omega)) only[ixV,huel,Qaa,Qac,Qad,wW,wV,simprocAttr]
                refine⟨j+1,by omega,by omega,?_⟩
                rw[hps,List.length_append,List.flatMap_append]
                refine⟨[(51,.blk 51 0),(52,.blk 52 0),(53,.blk 53 0),(60,.blk 60 0),(70,.blk 70 0),(71,.blk 71 1)],rfl,au0,?_,au19⟩
                exact RB.cells rfl rfl gg (RnL.cons (Rn.same (Qab _)) (RnL.cons (Rn.same rfl) (RnL.cons (Rn.x1 rfl rfl) (RnL.cons (Rn.x1 rfl rfl) RnL.nil)))) (RB.cells rfl rfl gg (RnL.same hnm) (RB.map rfl rfl gg (RnM.mapG fun _ _=>⟨rfl,rfl⟩) (RB.cells rfl rfl gg (RnL.same (Qar Qab _)) (RB.cells rfl rfl gg (RnL.same (Qae _)) (RB.cells rfl rfl gg (RnL.same (SU.Qas (Qaf _) rfl)) RB.nil)))))
              · have hpe : pEv l i t u e = (u.1 ++ [n], u.2 ++ [(i, e, u.1.length)]) := by unfold pEv; rw [hs]; simp only [if_neg hm]; rw [show u.1.findIdx (· == n) = u.1.length from Qip hm]
                rw[hpe]at hps
                have hlim:¬((u.1.length:Nat):Int)=4096:=by omega
                have hmn:=QmH hm
                refine QfG (c:=keyC) (f:=ixV u.1) (x:=n) (l:=u.1) (g:=0) gg hkg hm ?_
                simp(disch:=first|omega|exact PairsOK.mk rfl|(simp only[lenW]<;>omega)) only[hlim,Qaa,Qac,Qad,wW,wV,simprocAttr]
                refine cp hkn ?_
                simp(disch:=first|omega|exact PairsOK.mk rfl|(simp only[lenW]<;>omega)) only[Qaa,Qac,Qad,wW,wV,simprocAttr]
                refine Qce (c:=keyC) (f:=ixV u.1) (x:=n) (l:=u.1) (g:=0) gg hkg hm (by omega) ?_
                rw[hmn]
                simp(disch:=first|omega|exact PairsOK.mk rfl|(simp only[lenW]<;>omega)) only[huml,huel,Qab,Qaa,Qac,Qad,wW,wV,simprocAttr]
                refine⟨j+1,by omega,by omega,?_⟩
                rw[hps,List.length_append,List.length_append,List.flatMap_append,List.map_append]
                refine⟨[(51,.blk 51 0),(52,.blk 52 0),(53,.blk 53 0),(60,.blk 60 1),(70,.blk 70 0),(71,.blk 71 1)],rfl,au0,?_,au19⟩
                exact RB.cells rfl rfl gg (RnL.cons (Rn.same (Qab _)) (RnL.cons (Rn.same rfl) (RnL.cons (Rn.x1 rfl rfl) (RnL.cons (Rn.x1 rfl rfl) RnL.nil)))) (RB.cells rfl rfl gg (RnL.same hnm) (RB.map rfl rfl gg (RnM.mapG fun _ _=>⟨rfl,rfl⟩) (RB.cells rfl rfl gg (RnL.same (SU.Qas (Qar Qab _) (Qar Qab [n]))) (RB.cells rfl rfl gg (RnL.same (Qae _)) (RB.cells rfl rfl gg (RnL.same (SU.Qas (Qaf _) rfl)) RB.nil)))))
          · have e2 : j = (evA l).length := by omega
            subst e2
            simp(disch:=first|omega|exact PairsOK.mk rfl|(simp only[lenW]<;>omega)) only[hjl,List.take_length,Qaa,Qac,Qad,wW,wV,simprocAttr]
            refine⟨(),?_⟩
            refine⟨[(51,.blk 51 0),(52,.blk 52 0),(53,.blk 53 0),(60,.blk 60 0),(70,.blk 70 0),(71,.blk 71 0)],rfl,au0,?_,au19⟩
            exact RB.cells rfl rfl gg (RnL.cons (Rn.same (Qab _)) (RnL.cons (Rn.same rfl) (RnL.cons (Rn.x1 rfl rfl) (RnL.cons (Rn.x1 rfl rfl) RnL.nil)))) (RB.cells rfl rfl gg (RnL.same hnm) (RB.map rfl rfl gg (RnM.mapG fun _ _=>⟨rfl,rfl⟩) (RB.cells rfl rfl gg (RnL.same (Qar Qab _)) (RB.cells rfl rfl gg (RnL.same (Qae _)) (RB.cells rfl rfl gg (RnL.same (Qaf _)) RB.nil)))))
        rintro _ _
        simp(disch:=first|omega|exact PairsOK.mk rfl|(simp only[lenW]<;>omega)) only[Qaa,Qac,Qad,wW,wV,simprocAttr]
        refine⟨(i+1,pRow l (evA l) i t s),by dsimp only;omega,⟨Nat.le_trans hlt hpw.length_le,hpo,by dsimp only;omega,hq'⟩,?_⟩
        dsimp only
        rw[Qjm hpw hlt]
        refine⟨[(51,.blk 51 0),(52,.blk 52 0),(53,.blk 53 0),(60,.blk 60 0),(70,.blk 70 0),(71,.blk 71 0)],rfl,au0,?_,au19⟩
        exact RB.cells rfl rfl gg (RnL.cons (Rn.same (Qab _)) (RnL.cons (Rn.same rfl) (RnL.cons (Rn.x1 rfl rfl) (RnL.cons (Rn.x1 rfl rfl) RnL.nil)))) (RB.cells rfl rfl gg (RnL.same hnm) (RB.map rfl rfl gg (RnM.mapG fun _ _=>⟨rfl,rfl⟩) (RB.cells rfl rfl gg (RnL.same (Qar Qab _)) (RB.cells rfl rfl gg (RnL.same (Qae _)) (RB.cells rfl rfl gg (RnL.same (Qaf _)) RB.nil)))))
      · rw [hmb] at hmc hms
        rw[if_pos rfl]at hms
        simp(disch:=first|omega|exact PairsOK.mk rfl|(simp only[lenW]<;>omega)) only[hlt,Qd6 ht,Qaa,Qac,Qad,wW,wV,simprocAttr]
        refine cp hmc ?_
        simp(disch:=first|omega|exact PairsOK.mk rfl|(simp only[lenW]<;>omega)) only[Qaa,Qac,Qad,wW,wV,simprocAttr]
        have hmk:marks l s.1 (i+1)=marks l s.1 i++[i]:=hms
        refine Qaj 420 (fun j:Nat=>[(2,.ptr 51 0 0),(6,.ptr 52 0 0),(3,.sl 60 0 0 (pRow l ((evA l).take j) i t s).1.length 1),(9,.map 53 0),(10,.int .i64 (i)),(61,sliN (evA l)),(62,.int .i64 (evA l).length),(63,.int .i64 j)]) (fun j=>[(51,.cells 0 [sliN (evA l),.int .i64 0,.sl 70 0 0 (marks l s.1 (i+1)).length 1,.sl 71 0 0 (pRow l ((evA l).take j) i t s).2.length 3]),(52,.cells 0 [auts l,sliN (evA l),.fsl (l.map emV) l.length 1]),(53,.map 0 (mapG keyC (ixV (pRow l ((evA l).take j) i t s).1) (pRow l ((evA l).take j) i t s).1)),(60,.cells 0 ((pRow l ((evA l).take j) i t s).1.map sliN)),(70,.cells 0 (ints (nz (marks l s.1 (i+1))))),(71,.cells 0 ((pRow l ((evA l).take j) i t s).2.flatMap edC))]) (fun j=>j<=(evA l).length) (fun j=>(evA l).length-j) 0 2 700 (fun _:Unit=>[(2,.ptr 51 0 0),(6,.ptr 52 0 0),(3,.sl 60 0 0 (pRow l (evA l) i t s).1.length 1),(9,.map 53 0),(10,.int .i64 (i))]) (fun _=>[(51,.cells 0 [sliN (evA l),.int .i64 0,.sl 70 0 0 (marks l s.1 (i+1)).length 1,.sl 71 0 0 (pRow l (evA l) i t s).2.length 3]),(52,.cells 0 [auts l,sliN (evA l),.fsl (l.map emV) l.length 1]),(53,.map 0 (mapG keyC (ixV (pRow l (evA l) i t s).1) (pRow l (evA l) i t s).1)),(60,.cells 0 ((pRow l (evA l) i t s).1.map sliN)),(70,.cells 0 (ints (nz (marks l s.1 (i+1))))),(71,.cells 0 ((pRow l (evA l) i t s).2.flatMap edC))]) (fun _=>True) ?_ (Nat.zero_le _) ?_ ?_
        · show Rec _ _ [(51, .cells 0 [sliN (evA l), .int .i64 0, .sl 70 0 0 (marks l s.1 (i + 1)).length 1, .sl 71 0 0 s.2.length 3]), (52, .cells 0 [auts l, sliN (evA l), .fsl (l.map emV) l.length 1]), (53, .map 0 (mapG keyC (ixV s.1) s.1)), (60, .cells 0 (s.1.map sliN)), (70, .cells 0 (ints (nz (marks l s.1 (i + 1))))), (71, .cells 0 (s.2.flatMap edC))] _ _
          rw[hmk,List.length_append,QaI,QaB]
          refine⟨[(51,.blk 51 0),(52,.blk 52 0),(53,.blk 53 0),(60,.blk 60 0),(70,.blk 70 1),(71,.blk 71 0)],rfl,au0,?_,au19⟩
          exact RB.cells rfl rfl gg (RnL.cons (Rn.same (Qab _)) (RnL.cons (Rn.same rfl) (RnL.cons (Rn.x1 rfl rfl) (RnL.cons (Rn.x1 rfl rfl) RnL.nil)))) (RB.cells rfl rfl gg (RnL.same hnm) (RB.map rfl rfl gg (RnM.mapG fun _ _=>⟨rfl,rfl⟩) (RB.cells rfl rfl gg (RnL.same (Qar Qab _)) (RB.cells rfl rfl gg (RnL.same (SU.Qas (Qae _) rfl)) (RB.cells rfl rfl gg (RnL.same (Qaf _)) RB.nil)))))
        · rintro j hj
          by_cases hjl:j<(evA l).length
          · obtain ⟨e, he⟩ := Qag hjl
            have hpi:=QdD (i:=i) (ev:=(evA l).take j) hw hti hp
            have hpp:=Qcw (l:=l) (i:=i) (t:=t) (ev:=(evA l).take j) (s:=s)
            have hpl:=Qd5 (l:=l) (i:=i) (t:=t) (ev:=(evA l).take j) (s:=s)
            have hps:=Qjo (l:=l) (i:=i) (t:=t) (s:=s) he
            rw[List.length_take]at hpl
            generalize pRow l ((evA l).take j) i t s=u at*
            have hui:i<u.1.length:=Nat.lt_of_lt_of_le hlt hpp.length_le
            have hut:u.1[i]?=some t:=by rw[Qf3 hpp hlt];exact ht
            have hub:=QcR hpi.nd hpi.inT
            have huml:(u.1.map sliN).length=u.1.length:=List.length_map ..
            have huel:(u.2.flatMap edC).length=u.2.length*3:=Qbi (k:=3) (fun _=>rfl) u.2
            have hst:=step100 l t e h h0 (by omega) hti.1
            cases hs:stepT l t e with
            | none =>
              rw[hs]at hst
              have hpe:pEv l i t u e=u:=by unfold pEv;rw[hs]
              rw[hpe]at hps
              simp(disch:=first|omega|exact PairsOK.mk rfl|(simp only[lenW]<;>omega)) only[hjl,hui,Qaz he,Qd6 hut,Qaa,Qac,Qad,wW,wV,simprocAttr]
              refine cp hst ?_
              simp(disch:=first|omega|exact PairsOK.mk rfl|(simp only[lenW]<;>omega)) only[stV,Qaa,Qac,Qad,wW,wV,simprocAttr]
              refine⟨j+1,by omega,by omega,?_⟩
              rw[hps]
              refine⟨[(51,.blk 51 0),(52,.blk 52 0),(53,.blk 53 0),(60,.blk 60 0),(70,.blk 70 0),(71,.blk 71 0)],rfl,au0,?_,au19⟩
              exact RB.cells rfl rfl gg (RnL.cons (Rn.same (Qab _)) (RnL.cons (Rn.same rfl) (RnL.cons (Rn.x1 rfl rfl) (RnL.cons (Rn.x1 rfl rfl) RnL.nil)))) (RB.cells rfl rfl gg (RnL.same hnm) (RB.map rfl rfl gg (RnM.mapG fun _ _=>⟨rfl,rfl⟩) (RB.cells rfl rfl gg (RnL.same (Qar Qab _)) (RB.cells rfl rfl gg (RnL.same (Qae _)) (RB.cells rfl rfl gg (RnL.same (Qaf _)) RB.nil)))))
            | some n =>
              rw[hs]at hst
              have hni:=Qe1 hw hti hs
              have hkn:=hkey n hni
              have hkg:=QeA h hni hpi.inT
              simp(disch:=first|omega|exact PairsOK.mk rfl|(simp only[lenW]<;>omega)) only[hjl,hui,Qaz he,Qd6 hut,Qaa,Qac,Qad,wW,wV,simprocAttr]
              refine cp hst ?_
              simp(disch:=first|omega|exact PairsOK.mk rfl|(simp only[lenW]<;>omega)) only[stV,Qaa,Qac,Qad,wW,wV,simprocAttr]
              refine cp hkn ?_
              simp(disch:=first|omega|exact PairsOK.mk rfl|(simp only[lenW]<;>omega)) only[Qaa,Qac,Qad,wW,wV,simprocAttr]
              by_cases hm:n∈u.1
              · have hpe : pEv l i t u e = (u.1, u.2 ++ [(i, e, ixT u.1 n)]) := by unfold pEv; rw [hs]; simp only [if_pos hm]
                rw[hpe]at hps
                refine QgC (c:=keyC) (f:=ixV u.1) (x:=n) (l:=u.1) (g:=0) gg hkg hm ?_
                simp(disch:=first|omega|exact PairsOK.mk rfl|(simp only[lenW]<;>omega)) only[ixV,huel,Qaa,Qac,Qad,wW,wV,simprocAttr]
                refine⟨j+1,by omega,by omega,?_⟩
                rw[hps,List.length_append,List.flatMap_append]
                refine⟨[(51,.blk 51 0),(52,.blk 52 0),(53,.blk 53 0),(60,.blk 60 0),(70,.blk 70 0),(71,.blk 71 1)],rfl,au0,?_,au19⟩
                exact RB.cells rfl rfl gg (RnL.cons (Rn.same (Qab _)) (RnL.cons (Rn.same rfl) (RnL.cons (Rn.x1 rfl rfl) (RnL.cons (Rn.x1 rfl rfl) RnL.nil)))) (RB.cells rfl rfl gg (RnL.same hnm) (RB.map rfl rfl gg (RnM.mapG fun _ _=>⟨rfl,rfl⟩) (RB.cells rfl rfl gg (RnL.same (Qar Qab _)) (RB.cells rfl rfl gg (RnL.same (Qae _)) (RB.cells rfl rfl gg (RnL.same (SU.Qas (Qaf _) rfl)) RB.nil)))))
              · have hpe : pEv l i t u e = (u.1 ++ [n], u.2 ++ [(i, e, u.1.length)]) := by unfold pEv; rw [hs]; simp only [if_neg hm]; rw [show u.1.findIdx (· == n) = u.1.length from Qip hm]
                rw[hpe]at hps
                have hlim:¬((u.1.length:Nat):Int)=4096:=by omega
                have hmn:=QmH hm
                refine QfG (c:=keyC) (f:=ixV u.1) (x:=n) (l:=u.1) (g:=0) gg hkg hm ?_
                simp(disch:=first|omega|exact PairsOK.mk rfl|(simp only[lenW]<;>omega)) only[hlim,Qaa,Qac,Qad,wW,wV,simprocAttr]
                refine cp hkn ?_
                simp(disch:=first|omega|exact PairsOK.mk rfl|(simp only[lenW]<;>omega)) only[Qaa,Qac,Qad,wW,wV,simprocAttr]
                refine Qce (c:=keyC) (f:=ixV u.1) (x:=n) (l:=u.1) (g:=0) gg hkg hm (by omega) ?_
                rw[hmn]
                simp(disch:=first|omega|exact PairsOK.mk rfl|(simp only[lenW]<;>omega)) only[huml,huel,Qab,Qaa,Qac,Qad,wW,wV,simprocAttr]
                refine⟨j+1,by omega,by omega,?_⟩
                rw[hps,List.length_append,List.length_append,List.flatMap_append,List.map_append]
                refine⟨[(51,.blk 51 0),(52,.blk 52 0),(53,.blk 53 0),(60,.blk 60 1),(70,.blk 70 0),(71,.blk 71 1)],rfl,au0,?_,au19⟩
                exact RB.cells rfl rfl gg (RnL.cons (Rn.same (Qab _)) (RnL.cons (Rn.same rfl) (RnL.cons (Rn.x1 rfl rfl) (RnL.cons (Rn.x1 rfl rfl) RnL.nil)))) (RB.cells rfl rfl gg (RnL.same hnm) (RB.map rfl rfl gg (RnM.mapG fun _ _=>⟨rfl,rfl⟩) (RB.cells rfl rfl gg (RnL.same (SU.Qas (Qar Qab _) (Qar Qab [n]))) (RB.cells rfl rfl gg (RnL.same (Qae _)) (RB.cells rfl rfl gg (RnL.same (SU.Qas (Qaf _) rfl)) RB.nil)))))
          · have e2 : j = (evA l).length := by omega
            subst e2
            simp(disch:=first|omega|exact PairsOK.mk rfl|(simp only[lenW]<;>omega)) only[hjl,List.take_length,Qaa,Qac,Qad,wW,wV,simprocAttr]
            refine⟨(),?_⟩
            refine⟨[(51,.blk 51 0),(52,.blk 52 0),(53,.blk 53 0),(60,.blk 60 0),(70,.blk 70 0),(71,.blk 71 0)],rfl,au0,?_,au19⟩
            exact RB.cells rfl rfl gg (RnL.cons (Rn.same (Qab _)) (RnL.cons (Rn.same rfl) (RnL.cons (Rn.x1 rfl rfl) (RnL.cons (Rn.x1 rfl rfl) RnL.nil)))) (RB.cells rfl rfl gg (RnL.same hnm) (RB.map rfl rfl gg (RnM.mapG fun _ _=>⟨rfl,rfl⟩) (RB.cells rfl rfl gg (RnL.same (Qar Qab _)) (RB.cells rfl rfl gg (RnL.same (Qae _)) (RB.cells rfl rfl gg (RnL.same (Qaf _)) RB.nil)))))
        rintro _ _
        simp(disch:=first|omega|exact PairsOK.mk rfl|(simp only[lenW]<;>omega)) only[Qaa,Qac,Qad,wW,wV,simprocAttr]
        refine⟨(i+1,pRow l (evA l) i t s),by dsimp only;omega,⟨Nat.le_trans hlt hpw.length_le,hpo,by dsimp only;omega,hq'⟩,?_⟩
        dsimp only
        rw[Qjm hpw hlt]
        refine⟨[(51,.blk 51 0),(52,.blk 52 0),(53,.blk 53 0),(60,.blk 60 0),(70,.blk 70 0),(71,.blk 71 0)],rfl,au0,?_,au19⟩
        exact RB.cells rfl rfl gg (RnL.cons (Rn.same (Qab _)) (RnL.cons (Rn.same rfl) (RnL.cons (Rn.x1 rfl rfl) (RnL.cons (Rn.x1 rfl rfl) RnL.nil)))) (RB.cells rfl rfl gg (RnL.same hnm) (RB.map rfl rfl gg (RnM.mapG fun _ _=>⟨rfl,rfl⟩) (RB.cells rfl rfl gg (RnL.same (Qar Qab _)) (RB.cells rfl rfl gg (RnL.same (Qae _)) (RB.cells rfl rfl gg (RnL.same (Qaf _)) RB.nil)))))
    · have hfin : s = sync0 l := by
        rw[<-hq,QqL (List.getElem?_eq_none (by omega))]
      have e2:i=s.1.length:=by omega
      subst e2
      rw[<-hfin]
      simp(disch:=first|omega|exact PairsOK.mk rfl|(simp only[lenW]<;>omega)) only[hlt,Qaa,Qac,Qad,wW,wV,simprocAttr]
      refine⟨(),[(51,.blk 51 0)],rfl,RO.zero,?_,?_⟩
      · exact RB.cells rfl rfl gg (RnL.cons (Rn.same (Qab _)) (RnL.cons (Rn.same rfl) (RnL.cons (Rn.fzm rfl rfl rfl rfl (by simp[ints]) (RnL.same (Qae _))) (RnL.cons (Rn.fzm rfl rfl rfl rfl (Qbi (k:=3) (fun _=>rfl) _) (RnL.same (Qaf _))) RnL.nil)))) RB.nil
      · exact RT.cons (Rn.x2 rfl rfl) (RT.cons (Rn.fz (b:=60) (g:=0) gg rfl rfl (by simp) (RnL.same (Qar Qab _))) RT.nil)
  rintro _ _
  simp(disch:=first|omega|exact PairsOK.mk rfl|(simp only[lenW]<;>omega)) only[Qaa,Qac,Qad,wW,wV,simprocAttr]
  refine⟨.inr trivial,_,rfl,?_⟩
  exact Rn.same hnr
end Go.AM.SO
namespace Go.AM.SO
open Go.Proofs Go.AM.SD Go.AM.SE
abbrev auL (l:List (Nat×Aut)):List Aut:=l.map (·.2)
theorem Qk5 {x:Nat×Aut}:List.flatMap auC (List.map (fun x:Nat×Aut=>x.2) [x])=[sliN x.2.al,.int .i64 (x.2.n:Int),sliN x.2.ms,egsN x.2.es]:=rfl
theorem QaS {l:List (Nat×Aut)}:(auL l).length=l.length:=List.length_map ..
theorem _root_.Go.AM.au21 {p:Prop} (h:p:=by repeat (first|exact RT.nil|(refine RT.cons ?_ ?_; · (first|exact Rn.any|exact Rn.x1 rfl rfl|exact Rn.x2 rfl rfl|exact Rn.x3 rfl rfl|exact Rn.x4 rfl rfl|exact Rn.x5 rfl|exact Rn.x6 rfl|exact Rn.x7 rfl|(refine Rn.slot ?_ ?_;(first|rfl|(rw[Int.natCast_add];rfl));(first|rfl|(simp only[noRef,noRefs,Qai,Bool.and_self,Bool.and_true,Bool.true_and,Qae,Qau,Qab,Qak,QaH,Qaf,SU.Qbe];done)))|(refine Rn.fn ?_ ?_<;>(repeat' (first|exact RnL.nil|refine RnL.cons ?_ ?_|exact Rn.same rfl|exact Rn.x6 rfl|exact Rn.x2 rfl rfl|exact Rn.x5 rfl|exact Rn.x1 rfl rfl))))))):p:=h
theorem automata29 {ch:UInt8} (l:List (Nat×Aut)) (hl:l.length<=1000):PSpec Tryz.prog 29 [its ch l] (auts (auL l)):=by
  refine PSpec.of_rn 64 TP.ok29 rfl (by rw[noRefs,SU.Qaq];rfl) (QaL _) ?_
  have hni:=@SU.Qaq ch l
  simp(disch:=first|omega|exact PairsOK.mk rfl|(simp only[lenW]<;>omega)) only[TP.s29,Qaa,Qac,Qad,wW,wV,simprocAttr]
  refine Qaj 100 (fun i:Nat=>[(3,.sl 60 0 0 i 4),(6,its ch l),(7,.int .i64 l.length),(8,.int .i64 i)]) (fun i=>[(60,.cells 0 ((auL (l.take i)).flatMap auC))]) (fun i=>i<=l.length) (fun i=>l.length-i) 0 0 160 (fun _:Unit=>[(3,auts (auL l))]) (fun _=>[]) (fun _=>True) ?_ (Nat.zero_le _) ?_ ?_
  · refine ⟨[(60, .nil)], rfl, au0, ?_, au21⟩
    exact RB.newnil rfl rfl RB.nil
  · rintro i hi
    by_cases hlt:i<l.length
    · obtain ⟨x, hx⟩ := Qag hlt
      have hdr:=SU.QcJ (ch:=ch) hx
      have hdl:5<=((l.flatMap (itC ch)).drop (i*5)).length:=by rw[hdr];simp
      have htl:(auL (l.take i)).length=i:=by rw[QaS,List.length_take];omega
      have htm:((auL (l.take i)).flatMap auC).length=i*4:=by rw[Qcs,htl]
      simp(disch:=first|omega|exact PairsOK.mk rfl|(simp only[lenW]<;>omega)) only[hlt,hdr,hdl,htm,Qab,Qak,Qaa,Qac,Qad,wW,wV,simprocAttr]
      refine⟨i+1,by omega,by omega,?_⟩
      rw[take_succ' hx]
      show Rec _ _ [(60,.cells 0 ((List.map (fun x:Nat×Aut=>x.2) (l.take i++[x])).flatMap auC))] _ _
      rw[List.map_append,List.flatMap_append,Qk5]
      refine⟨[(60,.blk 60 1)],rfl,au0,?_,au21⟩
      exact RB.cells rfl rfl gg (RnL.same (SU.Qas (QaH _) (QaH [x.2]))) RB.nil
    · have e : i = l.length := by omega
      subst e
      simp(disch:=first|omega|exact PairsOK.mk rfl|(simp only[lenW]<;>omega)) only[hlt,List.take_length,Qaa,Qac,Qad,wW,wV,simprocAttr]
      exact⟨(),[],rfl,RO.zero,RB.nil,RT.cons (Rn.fzm (b:=60) (g:=0) gg rfl rfl QaS (by rw[Qcs,QaS]) (RnL.same (QaH _))) RT.nil⟩
  rintro _ _
  simp(disch:=first|omega|exact PairsOK.mk rfl|(simp only[lenW]<;>omega)) only[Qaa,Qac,Qad,wW,wV,simprocAttr]
  exact⟨.inr trivial,_,rfl,Rn.same (QaL _)⟩
theorem automata69 {ch:UInt8} (l:List (Nat×Aut)) (hl:l.length<=1000):PSpec Tryz.prog 69 [its ch l] (auts (auL l)):=by
  refine PSpec.of_rn 64 TP.ok69 rfl (by rw[noRefs,SU.Qaq];rfl) (QaL _) ?_
  have hni:=@SU.Qaq ch l
  simp(disch:=first|omega|exact PairsOK.mk rfl|(simp only[lenW]<;>omega)) only[TP.s69,Qaa,Qac,Qad,wW,wV,simprocAttr]
  refine Qaj 100 (fun i:Nat=>[(3,.sl 60 0 0 i 4),(6,its ch l),(7,.int .i64 l.length),(8,.int .i64 i)]) (fun i=>[(60,.cells 0 ((auL (l.take i)).flatMap auC))]) (fun i=>i<=l.length) (fun i=>l.length-i) 0 0 160 (fun _:Unit=>[(3,auts (auL l))]) (fun _=>[]) (fun _=>True) ?_ (Nat.zero_le _) ?_ ?_
  · refine ⟨[(60, .nil)], rfl, au0, ?_, au21⟩
    exact RB.newnil rfl rfl RB.nil
  · rintro i hi
    by_cases hlt:i<l.length
    · obtain ⟨x, hx⟩ := Qag hlt
      have hdr:=SU.QcJ (ch:=ch) hx
      have hdl:5<=((l.flatMap (itC ch)).drop (i*5)).length:=by rw[hdr];simp
      have htl:(auL (l.take i)).length=i:=by rw[QaS,List.length_take];omega
      have htm:((auL (l.take i)).flatMap auC).length=i*4:=by rw[Qcs,htl]
      simp(disch:=first|omega|exact PairsOK.mk rfl|(simp only[lenW]<;>omega)) only[hlt,hdr,hdl,htm,Qab,Qak,Qaa,Qac,Qad,wW,wV,simprocAttr]
      refine⟨i+1,by omega,by omega,?_⟩
      rw[take_succ' hx]
      show Rec _ _ [(60,.cells 0 ((List.map (fun x:Nat×Aut=>x.2) (l.take i++[x])).flatMap auC))] _ _
      rw[List.map_append,List.flatMap_append,Qk5]
      refine⟨[(60,.blk 60 1)],rfl,au0,?_,au21⟩
      exact RB.cells rfl rfl gg (RnL.same (SU.Qas (QaH _) (QaH [x.2]))) RB.nil
    · have e : i = l.length := by omega
      subst e
      simp(disch:=first|omega|exact PairsOK.mk rfl|(simp only[lenW]<;>omega)) only[hlt,List.take_length,Qaa,Qac,Qad,wW,wV,simprocAttr]
      exact⟨(),[],rfl,RO.zero,RB.nil,RT.cons (Rn.fzm (b:=60) (g:=0) gg rfl rfl QaS (by rw[Qcs,QaS]) (RnL.same (QaH _))) RT.nil⟩
  rintro _ _
  simp(disch:=first|omega|exact PairsOK.mk rfl|(simp only[lenW]<;>omega)) only[Qaa,Qac,Qad,wW,wV,simprocAttr]
  exact⟨.inr trivial,_,rfl,Rn.same (QaL _)⟩
theorem QoT (l:List Aut):noRef (.tup [aV (syncA l),tuV (sync0 l).1,.int .i64 0])=true:=by
 rw[noRef,noRefs,noRefs,Qci,noRef,noRefs,noRefs,noRefs,noRefs,Qab,Qab,Qak];rfl
theorem QaN {c:Cel} (h:WfCel c):∀a∈auL c.cs,WfI a:=fun a ha=>by
 obtain⟨x,hx,rfl⟩:=List.mem_map.1 ha
 exact h.ca x hx
theorem QpT {c:Cel} (h:WfCel c) (t:List Nat) (ht:InT (auL c.cs) t):PSpec Tryz.prog 98 [sliN t] (.str (keyT t)):=by
 have h0:=h.c0
 have h3:=h.c3
 have hl:=ht.1
 rw[QaS]at hl
 exact key98 (by omega) (by omega) fun x hx=>ht.lt (QaN h) hx
theorem QqM (c:Cel) (h:WfCel c):PSpec Tryz.prog 28 [auts (auL c.cs)] (.tup [aV (syncA (auL c.cs)),tuV (sync0 (auL c.cs)).1,.int .i64 0]):=by
 have h0:=h.c0
 have h3:=h.c3
 exact sync28 (auL c.cs) (QaN h) (by rw[QaS];omega) (by rw[QaS];omega) (QpT h)
theorem plant17 (c:Cel) (h:WfCel c):PSpec Tryz.prog 17 [celV c] (.tup [aV (syncA (auL c.cs)),tuV (sync0 (auL c.cs)).1,.int .i64 0]):=by
 have hnr:=Qbf c
 refine PSpec.of_rn 64 TP.ok17 rfl (by rw[noRefs,SU.Qa8];rfl) (QoT _) ?_
 have h3:=h.c3
 have hc:=check21 c h
 have ha:=automata69 (ch:=99) c.cs (by omega)
 have hs:=QqM c h
 simp(disch:=first|omega|exact PairsOK.mk rfl|(simp only[lenW]<;>omega)) only[TP.s17,Qaa,Qac,Qad,wW,wV,simprocAttr]
 refine cp hc ?_
 simp(disch:=first|omega|exact PairsOK.mk rfl|(simp only[lenW]<;>omega)) only[Qaa,Qac,Qad,wW,wV,simprocAttr]
 refine cp ha ?_
 simp(disch:=first|omega|exact PairsOK.mk rfl|(simp only[lenW]<;>omega)) only[Qaa,Qac,Qad,wW,wV,simprocAttr]
 refine cp hs ?_
 simp(disch:=first|omega|exact PairsOK.mk rfl|(simp only[lenW]<;>omega)) only[Qaa,Qac,Qad,wW,wV,simprocAttr]
 exact⟨.inr trivial,_,rfl,Rn.same (QoT _)⟩
theorem Qir {T:List (List Nat)} {i:Nat} {t:List Nat} (h:T[i]?=some t):((T.map sliN).drop i).head?=some (sliN t):=by
 rw[List.head?_drop,Qd6 h]
end Go.AM.SO
namespace Go.AM.SO
open Go.Proofs Go.AM.SD Go.AM.SE
theorem index195 {K : Nat} {cap : List AV} (q : (Nat × Nat) -> Bool) (l : List (Nat × Nat)) (hl : l.length <= 1000000) (hc : noRefs cap = true) (hk : ∀ x ∈ l, PSpec Tryz.prog K (.agg [.int .i64 (x.1 : Int), .int .i64 (x.2 : Int)] :: cap) (.bool (q x))) : PSpec Tryz.prog 195 [los l, .fn K [] cap] (.int .i64 (idxQ q l)) := by
  refine PSpec.Qal 64 TQ.ok195 rfl (by rw[noRefs,noRefs,Qa1 hc,(SU.QbT _)];rfl) rfl ?_
  have hfn:=Qa1 (K:=K) hc
  have hln:=SU.QfM l
  simp(disch:=first|omega|exact PairsOK.mk rfl|(simp only[lenW]<;>omega)) only[TQ.s195,Qaa,Qac,Qad,wW,wV,simprocAttr]
  refine QaK 100 (fun i:Nat=>[(0,los l),(1,.fn K [] cap),(7,.int .i64 l.length),(8,.int .i64 i)]) (fun _=>[]) (fun i=>i<=l.length/\∀(j:Nat) y,j<i->l[j]?=some y->q y=false) (fun i=>l.length-i) 0 ?_ ⟨Nat.zero_le _,fun j y hj=>absurd hj (Nat.not_lt_zero _)⟩ ?_
  · exact⟨[],rfl,RO.zero,RB.nil,RT.cons (Rn.same (SU.QbT _)) (RT.cons (Rn.same hfn) (RT.cons (Rn.same rfl) (RT.cons (Rn.same rfl) RT.nil)))⟩
  rintro i ⟨hi,hb⟩
  by_cases hlt:i<l.length
  · obtain ⟨x, hx⟩ := Qag hlt
    have hn:=hk x (List.mem_of_getElem? hx)
    have hdr:=Qim hx
    have hdl:2<=(List.drop (i*2) (l.flatMap loC)).length:=by rw[List.length_drop,hln];omega
    cases hq:q x
    · rw [hq] at hn
      simp(disch:=first|omega|exact PairsOK.mk rfl|(simp only[lenW]<;>omega)) only[hlt,hdr,hdl,List.head?_cons,Qaa,Qac,Qad,wW,wV,simprocAttr]
      refine⟨_,by simpa using hn,?_⟩
      simp(disch:=first|omega|exact PairsOK.mk rfl|(simp only[lenW]<;>omega)) only[Qaa,Qac,Qad,wW,wV,simprocAttr]
      refine⟨i+1,by omega,⟨by omega,fun j y hj hy=>?_⟩,?_⟩
      · by_cases e : j = i
        · subst e;rw[hx]at hy;cases hy;exact hq
        · exact hb j y (by omega) hy
      · exact⟨[],rfl,RO.zero,RB.nil,RT.cons (Rn.same (SU.QbT _)) (RT.cons (Rn.same hfn) (RT.cons (Rn.same rfl) (RT.cons (Rn.same rfl) RT.nil)))⟩
    · rw [hq] at hn
      simp(disch:=first|omega|exact PairsOK.mk rfl|(simp only[lenW]<;>omega)) only[hlt,hdr,hdl,List.head?_cons,Qaa,Qac,Qad,wW,wV,simprocAttr]
      refine⟨_,by simpa using hn,?_⟩
      simp(disch:=first|omega|exact PairsOK.mk rfl|(simp only[lenW]<;>omega)) only[Qaa,Qac,Qad,wW,wV,simprocAttr]
      refine⟨.inr trivial,_,rfl,?_⟩
      rw[Qco hx hq hb];rfl
  · simp (disch := first | omega | exact PairsOK.mk rfl | (simp only [lenW] <;> omega)) only [hlt, Qaa, Qac, Qad, wW, wV, simprocAttr]
    refine⟨.inr trivial,_,rfl,?_⟩
    rw[QbV fun x hx=>by
      obtain⟨j,hj,hjl⟩:=List.getElem_of_mem hx
      exact hb j x (by omega) (by rw[List.getElem?_eq_getElem hj,hjl])];rfl
theorem index48 {K : Nat} {cap : List AV} (q : Ed -> Bool) (l : List Ed) (hl : l.length <= 1000000) (hc : noRefs cap = true) (hk : ∀ x ∈ l, PSpec Tryz.prog K (.agg [.int .i64 (x.1 : Int), .int .i64 (x.2.1 : Int), .int .i64 (x.2.2 : Int)] :: cap) (.bool (q x))) : PSpec Tryz.prog 48 [egsN l, .fn K [] cap] (.int .i64 (idxQ q l)) := by
  refine PSpec.Qal 64 TQ.ok48 rfl (by rw[noRefs,noRefs,Qa1 hc,(Qak _)];rfl) rfl ?_
  have hfn:=Qa1 (K:=K) hc
  have hln:=(Qbi (k:=3) (fun _=>rfl) l:(l.flatMap edC).length=l.length*3)
  simp(disch:=first|omega|exact PairsOK.mk rfl|(simp only[lenW]<;>omega)) only[TQ.s48,Qaa,Qac,Qad,wW,wV,simprocAttr]
  refine QaK 100 (fun i:Nat=>[(0,egsN l),(1,.fn K [] cap),(7,.int .i64 l.length),(8,.int .i64 i)]) (fun _=>[]) (fun i=>i<=l.length/\∀(j:Nat) y,j<i->l[j]?=some y->q y=false) (fun i=>l.length-i) 0 ?_ ⟨Nat.zero_le _,fun j y hj=>absurd hj (Nat.not_lt_zero _)⟩ ?_
  · exact⟨[],rfl,RO.zero,RB.nil,RT.cons (Rn.same (Qak _)) (RT.cons (Rn.same hfn) (RT.cons (Rn.same rfl) (RT.cons (Rn.same rfl) RT.nil)))⟩
  rintro i ⟨hi,hb⟩
  by_cases hlt:i<l.length
  · obtain ⟨x, hx⟩ := Qag hlt
    have hn:=hk x (List.mem_of_getElem? hx)
    have hdr:=QaP hx
    have hdl:3<=(List.drop (i*3) (l.flatMap edC)).length:=by rw[List.length_drop,hln];omega
    cases hq:q x
    · rw [hq] at hn
      simp(disch:=first|omega|exact PairsOK.mk rfl|(simp only[lenW]<;>omega)) only[hlt,hdr,hdl,List.head?_cons,Qaa,Qac,Qad,wW,wV,simprocAttr]
      refine⟨_,by simpa using hn,?_⟩
      simp(disch:=first|omega|exact PairsOK.mk rfl|(simp only[lenW]<;>omega)) only[Qaa,Qac,Qad,wW,wV,simprocAttr]
      refine⟨i+1,by omega,⟨by omega,fun j y hj hy=>?_⟩,?_⟩
      · by_cases e : j = i
        · subst e;rw[hx]at hy;cases hy;exact hq
        · exact hb j y (by omega) hy
      · exact⟨[],rfl,RO.zero,RB.nil,RT.cons (Rn.same (Qak _)) (RT.cons (Rn.same hfn) (RT.cons (Rn.same rfl) (RT.cons (Rn.same rfl) RT.nil)))⟩
    · rw [hq] at hn
      simp(disch:=first|omega|exact PairsOK.mk rfl|(simp only[lenW]<;>omega)) only[hlt,hdr,hdl,List.head?_cons,Qaa,Qac,Qad,wW,wV,simprocAttr]
      refine⟨_,by simpa using hn,?_⟩
      simp(disch:=first|omega|exact PairsOK.mk rfl|(simp only[lenW]<;>omega)) only[Qaa,Qac,Qad,wW,wV,simprocAttr]
      refine⟨.inr trivial,_,rfl,?_⟩
      rw[Qco hx hq hb];rfl
  · simp (disch := first | omega | exact PairsOK.mk rfl | (simp only [lenW] <;> omega)) only [hlt, Qaa, Qac, Qad, wW, wV, simprocAttr]
    refine⟨.inr trivial,_,rfl,?_⟩
    rw[QbV fun x hx=>by
      obtain⟨j,hj,hjl⟩:=List.getElem_of_mem hx
      exact hb j x (by omega) (by rw[List.getElem?_eq_getElem hj,hjl])];rfl
theorem contains115 {K:Nat} {cap:List AV} (q:Nat×Nat->Bool) (l:List (Nat×Nat)) (hl:l.length<=1000000) (hc:noRefs cap=true) (hk:∀x∈l,PSpec Tryz.prog K (.agg [.int .i64 (x.1:Int),.int .i64 (x.2:Int)]::cap) (.bool (q x))):PSpec Tryz.prog 115 [los l,.fn K [] cap] (.bool (l.any q)):=by
 refine PSpec.Qal 64 TQ.ok115 rfl (by rw[noRefs,noRefs,Qa1 hc,SU.QbT];rfl) rfl ?_
 have h:=index195 q l hl hc hk
 have hfn:=Qa1 (K:=K) hc
 have hge:=@QfY _ q l
 generalize idxQ q l=a at*
 simp(disch:=first|omega|exact PairsOK.mk rfl|(simp only[lenW]<;>omega)) only[TQ.s115,Qaa,Qac,Qad,wW,wV,simprocAttr]
 refine cp h ?_
 simp(disch:=first|omega|exact PairsOK.mk rfl|(simp only[lenW]<;>omega)) only[hge,Qaa,Qac,Qad,wW,wV,simprocAttr]
 exact⟨.inr trivial,_,rfl,rfl⟩
theorem other234 (t:List Nat) (c s y:Nat) (hy:t[c]?=some y):PSpec Tryz.prog 234 [.agg [.int .i64 (c:Int),.int .i64 (s:Int)],.fptr [sliN t]] (.bool (!decide (y=s))):=by
 refine PSpec.Qal 64 TQ.ok234 rfl (by simp only[noRefs,noRef,Qae];rfl) rfl ?_
 have hc:c<t.length:=(List.getElem?_eq_some_iff.1 hy).1
 have hd:decide ((y:Int)=(s:Int))=decide (y=s):=decide_eq_decide.2 (by omega)
 simp(disch:=first|omega|exact PairsOK.mk rfl|(simp only[lenW]<;>omega)) only[TQ.s234,Qaz hy,hc,hd,Qaa,Qac,Qad,wW,wV,simprocAttr]
 exact⟨.inr trivial,_,rfl,rfl⟩
def exQ (t:List Nat) (x:Nat×List (Nat×Nat)):Bool:= !x.2.any fun l=> !decide (t.getD l.1 0=l.2)
theorem excl233 (t:List Nat) (x:Nat×List (Nat×Nat)) (hl:x.2.length<=1000) (ht:∀l∈x.2,l.1<t.length):PSpec Tryz.prog 233 [sliN t,.fptr (exC x)] (.bool (exQ t x)):=by
  have hnx:noRefs (exC x)=true:=by simp only[exC,noRefs,noRef,SU.Qa0];rfl
  refine PSpec.Qal 64 TQ.ok233 rfl (by rw[noRefs,noRefs,Qab,noRef,hnx];rfl) rfl ?_
  have hC:=contains115 (K:=234) (cap:=[.fptr [sliN t]]) (fun l=> !decide (t.getD l.1 0=l.2)) x.2 (by omega) (by simp only[noRefs,noRef,Qae];rfl) fun l hm=>by
    obtain⟨y,hy⟩:=Qag (ht l hm)
    have:=other234 t l.1 l.2 y hy
    rwa [show t.getD l.1 0=y by rw[List.getD_eq_getElem?_getD,hy];rfl]
  show wS _ _ _ _ _ (argT 0 [sliN t,.fptr [.str [101,UInt8.ofNat (48+x.1)],los x.2]]) _ _
  unfold exQ
  generalize x.2.any (fun l=> !decide (t.getD l.1 0=l.2))=b at*
  simp(disch:=first|omega|exact PairsOK.mk rfl|(simp only[lenW]<;>omega)) only[TQ.s233,Qaa,Qac,Qad,wW,wV,simprocAttr]
  refine SU.chc (HSpec.lend (FrzL.cons (FrzTo.same _) (FrzL.cons (FrzTo.fn FrzL.nil (FrzL.cons (FrzTo.ptr (g:=0) (cs:=[sliN t]) gg (FrzL.same _)) FrzL.nil)) FrzL.nil)) hC rfl) ?_
  simp(disch:=first|omega|exact PairsOK.mk rfl|(simp only[lenW]<;>omega)) only[Qaa,Qac,Qad,wW,wV,simprocAttr]
  exact⟨.inr trivial,_,rfl,rfl⟩
def koV (t:List Nat) (l:List (Nat×Int)):Int:=(l.map fun x=>x.2*(t.getD x.1 0:Int)).foldl (· + ·) 0
theorem Qg7 {t:List Nat} {l:List (Nat×Int)} {i:Nat} {x:Nat×Int} (h:l[i]?=some x):koV t (l.take (i+1))=koV t (l.take i)+x.2*(t.getD x.1 0:Int):=by
 unfold koV
 rw[take_succ' h,List.map_append,List.foldl_append];rfl
theorem QfN {a b:Int} (h: -4<a/\a<4) (hb:0<=b/\b<3): -12<=a*b/\a*b<=12:=by
 obtain rfl|rfl|rfl:b=0\/b=1\/b=2:=by omega
 ·omega
 ·omega
 ·omega
theorem QfO {t : List Nat} (ht : ∀ x ∈ t, x < 3) {l : List (Nat × Int)} (hl : ∀ x ∈ l, -4 < x.2 /\ x.2 < 4) : ∀ i, i <= l.length -> -12 * (i : Int) <= koV t (l.take i) /\ koV t (l.take i) <= 12 * (i : Int)
  |0,_=>by simp[koV]
  | i + 1, hi => by
    obtain⟨x,hx⟩:=Qag (l:=l) (i:=i) (by omega)
    rw[Qg7 hx]
    have h1:=QfO ht hl i (by omega)
    have hb:(0:Int)<=(t.getD x.1 0:Int)/\(t.getD x.1 0:Int)<3:=by
      refine⟨by omega,?_⟩
      rcases Nat.lt_or_ge x.1 t.length with h|h
      · have := ht (t.getD x.1 0) (by rw [List.getD_eq_getElem?_getD, List.getElem?_eq_getElem h]; exact List.getElem_mem h)
        omega
      · rw[List.getD_eq_getElem?_getD,List.getElem?_eq_none h];decide
    have h2:=QfN (hl x (List.mem_of_getElem? hx)) hb
    omega
theorem _root_.Go.AM.au22 {p:Prop} (h:p:=by repeat' (first|exact RB.nil|(refine RnL.same ?_;first|rfl|(simp only[noRef,noRefs,Qai,Bool.and_self,Bool.and_true,Bool.true_and,Qae,Qau,Qab,SU.Qa0,SU.QaG,SU.Qbe,SU.QaY,SU.QbU];done))|exact RnM.keyM rfl|exact RnL.nil|exact(True.intro:RnM _ _ _ [] [])|refine RnL.cons ?_ ?_|(refine Rn.same ?_;first|rfl|(simp only[noRef,noRefs,Qai,Bool.and_self,Bool.and_true,Bool.true_and,Qae,Qau,Qab,SU.Qa0,SU.QaG,SU.Qbe,SU.QaY,SU.QbU];done))|exact Rn.x1 rfl rfl|exact Rn.x2 rfl rfl|exact Rn.x3 rfl rfl|exact Rn.x4 rfl rfl|exact Rn.x5 rfl|exact Rn.x6 rfl|exact Rn.x7 rfl|refine RB.newnil rfl rfl ?_|refine RB.cells rfl rfl rfl ?_ ?_|refine RB.map rfl rfl rfl ?_ ?_|refine RB.cellsB rfl rfl ?_ ?_|refine RB.mapB rfl rfl ?_ ?_)):p:=h
theorem value236 (t:List Nat) (k:List (Nat×Int)×Int) (hk:k.1.length<=1000) (ht:∀x∈t,x<3) (hc:∀x∈k.1,x.1<t.length/\ -4<x.2/\x.2<4):PSpec Tryz.prog 236 [.agg (coC k),sliN t] (.int .i64 (koV t k.1)):=by
  have hnk:noRefs (coC k)=true:=by simp only[coC,noRefs,noRef,SU.QaG];rfl
  refine PSpec.Qal 64 TQ.ok236 rfl (by rw[noRefs,noRefs,Qab,noRef,hnk];rfl) rfl ?_
  have hln:=SU.Qcr k.1
  have hsm:=QfO ht fun x hx=>(hc x hx).2
  show wS _ _ _ _ _ (argT 0 [.agg [.str [107],tes k.1,.int .i64 k.2],sliN t]) _ _
  simp(disch:=first|omega|exact PairsOK.mk rfl|(simp only[lenW]<;>omega)) only[TQ.s236,Qaa,Qac,Qad,wW,wV,simprocAttr]
  refine Qaj 100 (fun i:Nat=>[(1,sliN t),(5,.int .i64 (koV t (k.1.take i))),(9,tes k.1),(10,.int .i64 k.1.length),(11,.int .i64 i)]) (fun _=>[]) (fun i=>i<=k.1.length) (fun i=>k.1.length-i) 0 0 160 (fun _:Unit=>[(5,.int .i64 (koV t k.1))]) (fun _=>[]) (fun _=>True) ?_ (Nat.zero_le _) ?_ ?_
  · exact⟨[],rfl,RO.zero,RB.nil,RT.cons (Rn.same (Qab _)) (RT.cons (Rn.same rfl) (RT.cons (Rn.same (SU.Qcf _)) au16))⟩
  · rintro i hi
    by_cases hlt:i<k.1.length
    · obtain ⟨x, hx⟩ := Qag hlt
      obtain⟨h1,h2⟩:=hc x (List.mem_of_getElem? hx)
      obtain⟨y,hy⟩:=Qag h1
      have hyt:=ht y (List.mem_of_getElem? hy)
      have hyd:t.getD x.1 0=y:=by rw[List.getD_eq_getElem?_getD,hy];rfl
      have hdr:=SU.QcH hx
      have hdl:2<=((k.1.flatMap teC).drop (i*2)).length:=by rw[hdr];simp
      have hsu:=Qg7 (t:=t) hx
      rw[hyd]at hsu
      have hp:=QfN h2 (b:=(y:Int)) ⟨by omega,by omega⟩
      have hs1:=hsm i hi
      have hw1:wr .i64 (x.2*(y:Int))=x.2*(y:Int):=QdW (by omega) (by omega)
      have hw2:wr .i64 (koV t (k.1.take i)+x.2*(y:Int))=koV t (k.1.take i)+x.2*(y:Int):=QdW (by omega) (by omega)
      simp(disch:=first|omega|exact PairsOK.mk rfl|(simp only[lenW]<;>omega)) only[hlt,hdr,hdl,h1,Qaz hy,hw1,hw2,Qaa,Qac,Qad,wW,wV,simprocAttr]
      refine⟨i+1,by omega,by omega,?_⟩
      rw[hsu]
      exact⟨[],rfl,RO.zero,RB.nil,RT.cons (Rn.same (Qab _)) (RT.cons (Rn.same rfl) (RT.cons (Rn.same (SU.Qcf _)) au16))⟩
    · have e : i = k.1.length := by omega
      subst e
      simp(disch:=first|omega|exact PairsOK.mk rfl|(simp only[lenW]<;>omega)) only[hlt,List.take_length,Qaa,Qac,Qad,wW,wV,simprocAttr]
      exact⟨(),⟨[],rfl,au0,au22,au16⟩⟩
  rintro _ _
  simp(disch:=first|omega|exact PairsOK.mk rfl|(simp only[lenW]<;>omega)) only[Qaa,Qac,Qad,wW,wV,simprocAttr]
  exact⟨.inr trivial,_,rfl,rfl⟩
def koQ (t:List Nat) (k:List (Nat×Int)×Int):Bool:=decide (k.2<koV t k.1)
theorem excd235 (t:List Nat) (k:List (Nat×Int)×Int) (hk:k.1.length<=1000) (ht:∀x∈t,x<3) (hc:∀x∈k.1,x.1<t.length/\ -4<x.2/\x.2<4):PSpec Tryz.prog 235 [sliN t,.fptr (coC k)] (.bool (koQ t k)):=by
 have hnk:noRefs (coC k)=true:=by simp only[coC,noRefs,noRef,SU.QaG];rfl
 refine PSpec.Qal 64 TQ.ok235 rfl (by rw[noRefs,noRefs,Qab,noRef,hnk];rfl) rfl ?_
 have hv:=value236 t k hk ht hc
 show wS _ _ _ _ _ (argT 0 [sliN t,.fptr [.str [107],tes k.1,.int .i64 k.2]]) _ _
 unfold koQ
 simp(disch:=first|omega|exact PairsOK.mk rfl|(simp only[lenW]<;>omega)) only[TQ.s235,Qaa,Qac,Qad,wW,wV,simprocAttr]
 refine cp hv ?_
 simp(disch:=first|omega|exact PairsOK.mk rfl|(simp only[lenW]<;>omega)) only[Qaa,Qac,Qad,wW,wV,simprocAttr]
 exact⟨.inr trivial,_,rfl,rfl⟩
def cdF:(Nat×List (Nat×Nat))⊕(List (Nat×Int)×Int)->AV
 | .inl x=> .fn 233 [] [.fptr (exC x)]
 | .inr k=> .fn 235 [] [.fptr (coC k)]
def cdQ (t:List Nat):(Nat×List (Nat×Nat))⊕(List (Nat×Int)×Int)->Bool
 | .inl x=>exQ t x
 | .inr k=>koQ t k
def cdA (xs:List (Nat×List (Nat×Nat))) (ks:List (List (Nat×Int)×Int)):List ((Nat×List (Nat×Nat))⊕(List (Nat×Int)×Int)):=xs.map .inl++ks.map .inr
abbrev cdL (l:List ((Nat×List (Nat×Nat))⊕(List (Nat×Int)×Int))):AV:= .fsl (l.map cdF) l.length 1
theorem Qbs (x:(Nat×List (Nat×Nat))⊕(List (Nat×Int)×Int)):noRef (cdF x)=true:=by
 cases x with
 |inl x=>simp only[cdF,exC,noRef,noRefs,SU.Qa0];rfl
 |inr k=>simp only[cdF,coC,noRef,noRefs,SU.QaG];rfl
theorem QcL (l:List ((Nat×List (Nat×Nat))⊕(List (Nat×Int)×Int))):noRef (cdL l)=true:=by rw[cdL,noRef];exact Qar Qbs _
theorem QqN {l:List ((Nat×List (Nat×Nat))⊕(List (Nat×Int)×Int))} {i:Nat} {x:(Nat×List (Nat×Nat))⊕(List (Nat×Int)×Int)} (h:l[i]?=some x):((l.map cdF).drop i).head?=some (cdF x):=by
 rw[List.head?_drop,List.getElem?_map,h];rfl
theorem index203 {K : Nat} {cap : List AV} (q : ((Nat × List (Nat × Nat)) ⊕ (List (Nat × Int) × Int)) -> Bool) (l : List ((Nat × List (Nat × Nat)) ⊕ (List (Nat × Int) × Int))) (hl : l.length <= 1000000) (hc : noRefs cap = true) (hk : ∀ x ∈ l, PSpec Tryz.prog K (cdF x :: cap) (.bool (q x))) : PSpec Tryz.prog 203 [cdL l, .fn K [] cap] (.int .i64 (idxQ q l)) := by
  refine PSpec.Qal 64 TQ.ok203 rfl (by rw[noRefs,noRefs,Qa1 hc,(QcL _)];rfl) rfl ?_
  have hfn:=Qa1 (K:=K) hc
  have hln:=(show(l.map cdF).length=l.length*1 by simp)
  simp(disch:=first|omega|exact PairsOK.mk rfl|(simp only[lenW]<;>omega)) only[TQ.s203,Qaa,Qac,Qad,wW,wV,simprocAttr]
  refine QaK 100 (fun i:Nat=>[(0,cdL l),(1,.fn K [] cap),(7,.int .i64 l.length),(8,.int .i64 i)]) (fun _=>[]) (fun i=>i<=l.length/\∀(j:Nat) y,j<i->l[j]?=some y->q y=false) (fun i=>l.length-i) 0 ?_ ⟨Nat.zero_le _,fun j y hj=>absurd hj (Nat.not_lt_zero _)⟩ ?_
  · exact⟨[],rfl,RO.zero,RB.nil,RT.cons (Rn.same (QcL _)) (RT.cons (Rn.same hfn) (RT.cons (Rn.same rfl) (RT.cons (Rn.same rfl) RT.nil)))⟩
  rintro i ⟨hi,hb⟩
  by_cases hlt:i<l.length
  · obtain ⟨x, hx⟩ := Qag hlt
    have hn:=hk x (List.mem_of_getElem? hx)
    have hdr:=QqN hx
    have hdl:1<=(List.drop (i*1) (l.map cdF)).length:=by rw[List.length_drop,hln];omega
    cases hq:q x
    · rw [hq] at hn
      simp(disch:=first|omega|exact PairsOK.mk rfl|(simp only[lenW]<;>omega)) only[hlt,hdr,hdl,List.head?_cons,Qaa,Qac,Qad,wW,wV,simprocAttr]
      refine⟨_,by simpa using hn,?_⟩
      simp(disch:=first|omega|exact PairsOK.mk rfl|(simp only[lenW]<;>omega)) only[Qaa,Qac,Qad,wW,wV,simprocAttr]
      refine⟨i+1,by omega,⟨by omega,fun j y hj hy=>?_⟩,?_⟩
      · by_cases e : j = i
        · subst e;rw[hx]at hy;cases hy;exact hq
        · exact hb j y (by omega) hy
      · exact⟨[],rfl,RO.zero,RB.nil,RT.cons (Rn.same (QcL _)) (RT.cons (Rn.same hfn) (RT.cons (Rn.same rfl) (RT.cons (Rn.same rfl) RT.nil)))⟩
    · rw [hq] at hn
      simp(disch:=first|omega|exact PairsOK.mk rfl|(simp only[lenW]<;>omega)) only[hlt,hdr,hdl,List.head?_cons,Qaa,Qac,Qad,wW,wV,simprocAttr]
      refine⟨_,by simpa using hn,?_⟩
      simp(disch:=first|omega|exact PairsOK.mk rfl|(simp only[lenW]<;>omega)) only[Qaa,Qac,Qad,wW,wV,simprocAttr]
      refine⟨.inr trivial,_,rfl,?_⟩
      rw[Qco hx hq hb];rfl
  · simp (disch := first | omega | exact PairsOK.mk rfl | (simp only [lenW] <;> omega)) only [hlt, Qaa, Qac, Qad, wW, wV, simprocAttr]
    refine⟨.inr trivial,_,rfl,?_⟩
    rw[QbV fun x hx=>by
      obtain⟨j,hj,hjl⟩:=List.getElem_of_mem hx
      exact hb j x (by omega) (by rw[List.getElem?_eq_getElem hj,hjl])];rfl
end Go.AM.SO
namespace Go.AM.SO
open Go.Proofs Go.AM.SD Go.AM.SE
structure TOk (S:List Nat) (t:List Nat) (xs:List (Nat×List (Nat×Nat))) (ks:List (List (Nat×Int)×Int)):Prop where
 ln:t.length=S.length
 l3:t.length<=1000
 t3:∀x∈t,x<3
 lt:∀(i:Nat) x n,t[i]?=some x->S[i]?=some n->x<n
 xl:∀x∈xs,x.2.length<=1000/\∀l∈x.2,l.1<t.length
 kl:∀k∈ks,k.1.length<=1000/\∀x∈k.1,x.1<t.length/\ -4<x.2/\x.2<4
 xn:xs.length<=1000
 kn:ks.length<=1000
variable {S t:List Nat} {xs:List (Nat×List (Nat×Nat))} {ks:List (List (Nat×Int)×Int)}
theorem call204 (h:TOk S t xs ks) {x:(Nat×List (Nat×Nat))⊕(List (Nat×Int)×Int)} (hx:x∈cdA xs ks):PSpec Tryz.prog 204 [cdF x,.fptr [sliN t]] (.bool (cdQ t x)):=by
 refine PSpec.Qal 64 TQ.ok204 rfl (by rw[noRefs,Qbs,noRefs];simp only[noRefs,noRef,Qae];rfl) rfl ?_
 unfold cdA at hx
 rcases List.mem_append.1 hx with hx|hx
 ·obtain ⟨y, hy, rfl⟩ := List.mem_map.1 hx
  have hc:=excl233 t y (h.xl y hy).1 (h.xl y hy).2
  simp(disch:=first|omega|exact PairsOK.mk rfl|(simp only[lenW]<;>omega)) only[TQ.s204,cdF,Qaa,Qac,Qad,wW,wV,simprocAttr]
  refine⟨_,by simpa using hc,?_⟩
  simp(disch:=first|omega|exact PairsOK.mk rfl|(simp only[lenW]<;>omega)) only[Qaa,Qac,Qad,wW,wV,simprocAttr]
  exact⟨.inr trivial,_,rfl,rfl⟩
 ·obtain ⟨y, hy, rfl⟩ := List.mem_map.1 hx
  have hc:=excd235 t y (h.kl y hy).1 h.t3 (h.kl y hy).2
  simp(disch:=first|omega|exact PairsOK.mk rfl|(simp only[lenW]<;>omega)) only[TQ.s204,cdF,Qaa,Qac,Qad,wW,wV,simprocAttr]
  refine⟨_,by simpa using hc,?_⟩
  simp(disch:=first|omega|exact PairsOK.mk rfl|(simp only[lenW]<;>omega)) only[Qaa,Qac,Qad,wW,wV,simprocAttr]
  exact⟨.inr trivial,_,rfl,rfl⟩
theorem QdE:(cdA xs ks).length=xs.length+ks.length:=by simp[cdA]
theorem violated158 (h:TOk S t xs ks):PSpec Tryz.prog 158 [cdL (cdA xs ks),sliN t] (.int .i64 (idxQ (cdQ t) (cdA xs ks))):=by
 have hnl:=QcL (cdA xs ks)
 refine PSpec.Qal 64 TQ.ok158 rfl (by rw[noRefs,hnl,noRefs,Qab];rfl) rfl ?_
 have hI:=index203 (K:=204) (cap:=[.fptr [sliN t]]) (cdQ t) (cdA xs ks) (by rw[QdE];have:=h.xn;have:=h.kn;omega) (by simp only[noRefs,noRef,Qae];rfl) fun x hx=>call204 h hx
 generalize cdA xs ks=l at*
 simp(disch:=first|omega|exact PairsOK.mk rfl|(simp only[lenW]<;>omega)) only[TQ.s158,Qaa,Qac,Qad,wW,wV,simprocAttr]
 refine SU.chc (HSpec.lend (FrzL.cons (FrzTo.same _) (FrzL.cons (FrzTo.fn FrzL.nil (FrzL.cons (FrzTo.ptr (g:=0) (cs:=[sliN t]) gg (FrzL.same _)) FrzL.nil)) FrzL.nil)) hI rfl) ?_
 simp(disch:=first|omega|exact PairsOK.mk rfl|(simp only[lenW]<;>omega)) only[Qaa,Qac,Qad,wW,wV,simprocAttr]
 exact⟨.inr trivial,_,rfl,rfl⟩
theorem mk205 (x:Nat×List (Nat×Nat)):PSpec Tryz.prog 205 [.agg (exC x)] (cdF (.inl x)):=by
 have hnx:noRefs (exC x)=true:=by simp only[exC,noRefs,noRef,SU.Qa0];rfl
 refine PSpec.of_rn 64 TQ.ok205 rfl (by rw[noRefs,noRef,hnx];rfl) (Qbs _) ?_
 show wS _ _ _ _ _ (argT 0 [.agg [.str [101,UInt8.ofNat (48+x.1)],los x.2]]) _ _
 simp(disch:=first|omega|exact PairsOK.mk rfl|(simp only[lenW]<;>omega)) only[TQ.s205,Qaa,Qac,Qad,wW,wV,simprocAttr]
 refine⟨.inr trivial,_,rfl,?_⟩
 exact Rn.fn RnL.nil (RnL.cons (Rn.frzp (b:=64) (g:=0) rfl (Nat.zero_le _) (fun b' g' _ e=>by simp[π0]at e) (by simp) (RnL.same hnx)) RnL.nil)
theorem mk206 (k:List (Nat×Int)×Int):PSpec Tryz.prog 206 [.agg (coC k)] (cdF (.inr k)):=by
 have hnx:noRefs (coC k)=true:=by simp only[coC,noRefs,noRef,SU.QaG];rfl
 refine PSpec.of_rn 64 TQ.ok206 rfl (by rw[noRefs,noRef,hnx];rfl) (Qbs _) ?_
 show wS _ _ _ _ _ (argT 0 [.agg [.str [107],tes k.1,.int .i64 k.2]]) _ _
 simp(disch:=first|omega|exact PairsOK.mk rfl|(simp only[lenW]<;>omega)) only[TQ.s206,Qaa,Qac,Qad,wW,wV,simprocAttr]
 refine⟨.inr trivial,_,rfl,?_⟩
 exact Rn.fn RnL.nil (RnL.cons (Rn.frzp (b:=64) (g:=0) rfl (Nat.zero_le _) (fun b' g' _ e=>by simp[π0]at e) (by simp) (RnL.same hnx)) RnL.nil)
theorem Qjp (x:(Nat×List (Nat×Nat))⊕(List (Nat×Int)×Int)):(cdF x).cells=[cdF x]:=by cases x<;>rfl
theorem QmI (x:(Nat×List (Nat×Nat))⊕(List (Nat×Int)×Int)):(cdF x).one=true:=by cases x<;>rfl
theorem QmJ (x:(Nat×List (Nat×Nat))⊕(List (Nat×Int)×Int)):(cdF x).boxable=true:=by cases x<;>rfl
theorem conds159 (hx:xs.length<=1000) (hk:ks.length<=1000):PSpec Tryz.prog 159 [cdV S xs ks] (cdL (cdA xs ks)):=by
  have hncd:=@QbI S xs ks
  refine PSpec.of_rn 64 TQ.ok159 rfl (by rw[noRefs,noRef,hncd];rfl) (QcL _) ?_
  have hxi:=SU.Qdp xs
  have hki:=Qex ks
  show wS _ _ _ _ _ (argT 0 [.agg [sliN S,exs xs,cos ks]]) _ _
  simp(disch:=first|omega|exact PairsOK.mk rfl|(simp only[lenW]<;>omega)) only[TQ.s159,Qaa,Qac,Qad,wW,wV,simprocAttr]
  refine Qaj 100 (fun i:Nat=>[(1,.ptr 51 0 0),(3,.sl 60 0 0 i 1),(9,exs xs),(10,.int .i64 xs.length),(11,.int .i64 i)]) (fun i=>[(51,.cells 0 [sliN S,exs xs,cos ks]),(60,.cells 0 ((cdA (xs.take i) []).map cdF))]) (fun i=>i<=xs.length) (fun i=>xs.length-i) 0 0 160 (fun _:Unit=>[(1,.ptr 51 0 0),(3,.sl 60 0 0 xs.length 1)]) (fun _=>[(51,.cells 0 [sliN S,exs xs,cos ks]),(60,.cells 0 ((cdA xs []).map cdF))]) (fun _=>True) ⟨[(51,.blk 64 0),(60,.nil)],rfl,au0,?_,au16⟩ (Nat.zero_le _) ?_ ?_
  · exact RB.cells rfl rfl gg (RnL.same hncd) (RB.newnil rfl rfl RB.nil)
  · rintro i hi
    by_cases hlt:i<xs.length
    · obtain ⟨x, hx⟩ := Qag hlt
      have hdr:=QfW hx
      have hdl:2<=((xs.flatMap exC).drop (i*2)).length:=by rw[hdr];simp
      have htl:((cdA (xs.take i) []).map cdF).length=i:=by rw[List.length_map,QdE,List.length_take];simp;omega
      have hm:=mk205 x
      have hc:=Qjp (.inl x)
      have ho:=QmI (.inl x)
      have hb:=QmJ (.inl x)
      have hsu:(cdA (xs.take (i+1)) []).map cdF=(cdA (xs.take i) []).map cdF++[cdF (.inl x)]:=by rw[take_succ' hx];simp[cdA]
      have hno:=Qbs (.inl x)
      generalize cdF (.inl x)=F at*
      simp(disch:=first|omega|exact PairsOK.mk rfl|(simp only[lenW]<;>omega)) only[hlt,hdr,hdl,Qaa,Qac,Qad,wW,wV,simprocAttr]
      refine cp hm ?_
      simp(disch:=first|omega|exact PairsOK.mk rfl|(simp only[lenW]<;>omega)) only[hc,ho,hb,htl,hno,Qaa,Qac,Qad,wW,wV,simprocAttr]
      refine⟨i+1,by omega,by omega,?_⟩
      rw[hsu]
      refine⟨[(51,.blk 51 0),(60,.blk 60 1)],rfl,au0,?_,au16⟩
      exact RB.cells rfl rfl gg (RnL.same hncd) (RB.cells rfl rfl gg (RnL.same (SU.Qas (Qar Qbs _) (by rw[noRefs,hno];rfl))) RB.nil)
    · have e : i = xs.length := by omega
      subst e
      simp(disch:=first|omega|exact PairsOK.mk rfl|(simp only[lenW]<;>omega)) only[hlt,List.take_length,Qaa,Qac,Qad,wW,wV,simprocAttr]
      refine⟨(),?_⟩
      refine⟨[(51,.blk 51 0),(60,.blk 60 0)],rfl,au0,?_,au16⟩
      exact RB.cells rfl rfl gg (RnL.same hncd) (RB.cells rfl rfl gg (RnL.same (Qar Qbs _)) RB.nil)
  rintro _ _
  simp(disch:=first|omega|exact PairsOK.mk rfl|(simp only[lenW]<;>omega)) only[Qaa,Qac,Qad,wW,wV,simprocAttr]
  refine Qaj 200 (fun i:Nat=>[(3,.sl 60 0 0 (xs.length+i) 1),(22,cos ks),(23,.int .i64 ks.length),(24,.int .i64 i)]) (fun i=>[(60,.cells 0 ((cdA xs (ks.take i)).map cdF))]) (fun i=>i<=ks.length) (fun i=>ks.length-i) 0 2 260 (fun _:Unit=>[(3,cdL (cdA xs ks))]) (fun _=>[]) (fun _=>True) ⟨[(60,.blk 60 0)],rfl,au0,?_,au16⟩ (Nat.zero_le _) ?_ ?_
  · exact RB.cells rfl rfl gg (RnL.same (Qar Qbs _)) RB.nil
  · rintro i hi
    by_cases hlt:i<ks.length
    · obtain ⟨k, hk⟩ := Qag hlt
      have hdr:=QfX hk
      have hdl:3<=((ks.flatMap coC).drop (i*3)).length:=by rw[hdr];simp
      have htl:((cdA xs (ks.take i)).map cdF).length=xs.length+i:=by rw[List.length_map,QdE,List.length_take];omega
      have hm:=mk206 k
      have hc:=Qjp (.inr k)
      have ho:=QmI (.inr k)
      have hb:=QmJ (.inr k)
      have hsu:(cdA xs (ks.take (i+1))).map cdF=(cdA xs (ks.take i)).map cdF++[cdF (.inr k)]:=by rw[take_succ' hk];simp[cdA]
      have hno:=Qbs (.inr k)
      generalize cdF (.inr k)=F at*
      simp(disch:=first|omega|exact PairsOK.mk rfl|(simp only[lenW]<;>omega)) only[hlt,hdr,hdl,Qaa,Qac,Qad,wW,wV,simprocAttr]
      refine cp hm ?_
      simp(disch:=first|omega|exact PairsOK.mk rfl|(simp only[lenW]<;>omega)) only[hc,ho,hb,htl,hno,Qaa,Qac,Qad,wW,wV,simprocAttr]
      refine⟨i+1,by omega,by omega,?_⟩
      rw[hsu]
      refine⟨[(60,.blk 60 1)],rfl,au0,?_,au16⟩
      exact RB.cells rfl rfl gg (RnL.same (SU.Qas (Qar Qbs _) (by rw[noRefs,hno];rfl))) RB.nil
    · have e : i = ks.length := by omega
      subst e
      simp(disch:=first|omega|exact PairsOK.mk rfl|(simp only[lenW]<;>omega)) only[hlt,List.take_length,Qaa,Qac,Qad,wW,wV,simprocAttr]
      exact⟨(),[],rfl,RO.zero,RB.nil,RT.cons (Rn.fzm (b:=60) (g:=0) gg rfl rfl QdE (by rw[List.length_map,QdE];simp) (RnL.same (Qar Qbs _))) RT.nil⟩
  rintro _ _
  simp(disch:=first|omega|exact PairsOK.mk rfl|(simp only[lenW]<;>omega)) only[Qaa,Qac,Qad,wW,wV,simprocAttr]
  exact⟨.inr trivial,_,rfl,Rn.same (QcL _)⟩
end Go.AM.SO
namespace Go.AM.SO
open Go.Proofs Go.AM.SD Go.AM.SE
variable {S t:List Nat} {xs:List (Nat×List (Nat×Nat))} {ks:List (List (Nat×Int)×Int)}
theorem checkT202 (h:TOk S t xs ks):PSpec Tryz.prog 202 [cdV S xs ks,sliN t] (.int .i64 0):=by
  have hncd:=@QbI S xs ks
  refine PSpec.Qal 64 TQ.ok202 rfl (by rw[noRefs,noRef,hncd,noRefs,Qab];rfl) rfl ?_
  have hl3:=h.l3
  have hE1:(t.length=S.length)=True:=eq_true h.ln
  have hE2:((t.length:Int)=(S.length:Int))=True:=eq_true (by rw[h.ln])
  show wS _ _ _ _ _ (argT 0 [.agg [sliN S,exs xs,cos ks],sliN t]) _ _
  simp(disch:=first|omega|exact PairsOK.mk rfl|(simp only[lenW]<;>omega)) only[TQ.s202,hE1,hE2,Qaa,Qac,Qad,wW,wV,simprocAttr]
  refine Qaj 100 (fun i:Nat=>[(2,.ptr 51 0 0),(13,sliN t),(14,.int .i64 t.length),(15,.int .i64 i)]) (fun _=>[(51,.cells 0 [sliN S,exs xs,cos ks])]) (fun i=>i<=t.length) (fun i=>t.length-i) 0 0 160 (fun _:Unit=>[]) (fun _=>[]) (fun _=>True) ?_ (Nat.zero_le _) ?_ ?_
  · refine ⟨[(51, .blk 64 0)], rfl, au0, ?_, au16⟩
    exact RB.cells rfl rfl gg (RnL.same hncd) RB.nil
  · rintro i hi
    by_cases hlt:i<t.length
    · obtain ⟨x, hx⟩ := Qag hlt
      obtain⟨n,hn⟩:=Qag (l:=S) (i:=i) (by rw[<-h.ln];exact hlt)
      have hlS:i<S.length:=by rw[<-h.ln];exact hlt
      have hxn:=h.lt i x n hx hn
      have g1:¬(x:Int)<0:=by omega
      have g2:¬(n:Int)<=(x:Int):=by omega
      simp(disch:=first|omega|exact PairsOK.mk rfl|(simp only[lenW]<;>omega)) only[hlt,hlS,Qaz hx,Qaz hn,g1,g2,Qaa,Qac,Qad,wW,wV,simprocAttr]
      refine⟨i+1,by omega,by omega,?_⟩
      refine⟨[(51,.blk 51 0)],rfl,au0,?_,au16⟩
      exact RB.cells rfl rfl gg (RnL.same hncd) RB.nil
    · simp (disch := first | omega | exact PairsOK.mk rfl | (simp only [lenW] <;> omega)) only [hlt, Qaa, Qac, Qad, wW, wV, simprocAttr]
      exact⟨(),⟨[],rfl,au0,au22,au16⟩⟩
  rintro _ _
  simp(disch:=first|omega|exact PairsOK.mk rfl|(simp only[lenW]<;>omega)) only[Qaa,Qac,Qad,wW,wV,simprocAttr]
  exact⟨.inr trivial,_,rfl,rfl⟩
theorem Qk6 {c:Cel} (h:WfCel c) {t:List Nat} (ht:InT (auL c.cs) t):TOk (szs c) t c.xs c.ks:=by
  have hl:t.length=c.cs.length:=by rw[ht.1,QaS]
  have h3:=h.c3
  have hx:=h.x2
  have hk:=h.k1
  refine⟨by rw[hl,h.slen],by omega,fun x hx=>ht.lt (QaN h) hx,fun i x n hi hn=>?_,fun x hx=>⟨by have:=h.xlen hx;omega,fun l hl2=>?_⟩,fun k hk=>⟨by have:=h.klen hk;omega,fun x hx=>?_⟩,by omega,by omega⟩
  · have hil : i < c.cs.length := by rw [<- hl]; exact (List.getElem?_eq_some_iff.1 hi).1
    obtain⟨y,hy⟩:=Qag hil
    have h1:=ht.2 i y.2 (by rw[List.getElem?_map,hy];rfl)
    rw[List.getD_eq_getElem?_getD,hi]at h1
    unfold szs at hn
    rw[List.getElem?_map,hy]at hn
    simp only[Option.map_some,Option.some.injEq]at hn
    subst hn
    simpa using h1
  · obtain ⟨y, hy, _⟩ := (h.xl x hx).2.2 l hl2
    rw[hl]
    exact(List.getElem?_eq_some_iff.1 hy).1
  · obtain ⟨h1, _, h4, h5⟩ := (h.kl k hk).2.2.1 x hx
    exact⟨by rw[hl];exact h1,h4,h5⟩
theorem checkT157 (c:Cel) (h:WfCel c) {t:List Nat} (ht:InT (auL c.cs) t):PSpec Tryz.prog 157 [cdV (szs c) c.xs c.ks,sliN t] (.int .i64 0):=by
 have hncd:=@QbI (szs c) c.xs c.ks
 refine PSpec.Qal 64 TQ.ok157 rfl (by rw[noRefs,noRef,hncd,noRefs,Qab];rfl) rfl ?_
 have h1:=conds32 c h
 have h2:=checkT202 (Qk6 h ht)
 show wS _ _ _ _ _ (argT 0 [.agg [sliN (szs c),exs c.xs,cos c.ks],sliN t]) _ _
 simp(disch:=first|omega|exact PairsOK.mk rfl|(simp only[lenW]<;>omega)) only[TQ.s157,Qaa,Qac,Qad,wW,wV,simprocAttr]
 refine cp h1 ?_
 simp(disch:=first|omega|exact PairsOK.mk rfl|(simp only[lenW]<;>omega)) only[Qaa,Qac,Qad,wW,wV,simprocAttr]
 refine cp h2 ?_
 simp(disch:=first|omega|exact PairsOK.mk rfl|(simp only[lenW]<;>omega)) only[Qaa,Qac,Qad,wW,wV,simprocAttr]
 exact⟨.inr trivial,_,rfl,rfl⟩
theorem Qdb {α:Type} {q:α->Bool} {A:List α}: -1<=idxQ q A/\(0<=idxQ q A->idxQ q A<A.length):=by
 unfold idxQ
 by_cases ha:A.any q=true
 ·rw [if_pos ha]
  have:A.findIdx q<A.length:=List.findIdx_lt_length_of_exists (by simpa using ha)
  exact⟨by omega,fun _=>by omega⟩
 ·rw [if_neg ha]
  exact⟨by omega,fun h=>by omega⟩
def vioV (t:List Nat) (xs:List (Nat×List (Nat×Nat))) (ks:List (List (Nat×Int)×Int)):Int×Int×Bool:=
 if idxQ (cdQ t) (cdA xs ks)<0 then(0,0,false)else if idxQ (cdQ t) (cdA xs ks)<xs.length then(1,idxQ (cdQ t) (cdA xs ks),true)else(2,idxQ (cdQ t) (cdA xs ks)-xs.length,true)
theorem violated73 (c:Cel) (h:WfCel c) {t:List Nat} (ht:InT (auL c.cs) t):PSpec Tryz.prog 73 [cdV (szs c) c.xs c.ks,sliN t] (.tup [.int .i64 (vioV t c.xs c.ks).1,.int .i64 (vioV t c.xs c.ks).2.1,.bool (vioV t c.xs c.ks).2.2,.int .i64 0]):=by
  have hncd:=@QbI (szs c) c.xs c.ks
  refine PSpec.Qal 64 TQ.ok73 rfl (by rw[noRefs,noRef,hncd,noRefs,Qab];rfl) rfl ?_
  have h1:=checkT157 c h ht
  have ho:=Qk6 h ht
  have h2:=conds159 (S:=szs c) ho.xn ho.kn
  have h3:=violated158 ho
  have hle:=@Qdb _ (cdQ t) (cdA c.xs c.ks)
  have hx2:=h.x2
  have hk1:=h.k1
  rw[QdE]at hle
  unfold vioV
  generalize idxQ (cdQ t) (cdA c.xs c.ks)=a at*
  show wS _ _ _ _ _ (argT 0 [.agg [sliN (szs c),exs c.xs,cos c.ks],sliN t]) _ _
  simp(disch:=first|omega|exact PairsOK.mk rfl|(simp only[lenW]<;>omega)) only[TQ.s73,Qaa,Qac,Qad,wW,wV,simprocAttr]
  refine cp h1 ?_
  simp(disch:=first|omega|exact PairsOK.mk rfl|(simp only[lenW]<;>omega)) only[Qaa,Qac,Qad,wW,wV,simprocAttr]
  refine cp h2 ?_
  simp(disch:=first|omega|exact PairsOK.mk rfl|(simp only[lenW]<;>omega)) only[Qaa,Qac,Qad,wW,wV,simprocAttr]
  refine cp h3 ?_
  by_cases ha:a<0
  · simp (disch := first | omega | exact PairsOK.mk rfl | (simp only [lenW] <;> omega)) only [ha, Qaa, Qac, Qad, wW, wV, simprocAttr]
    exact⟨.inr trivial,_,rfl,rfl⟩
  · by_cases hb : a < c.xs.length
    · simp (disch := first | omega | exact PairsOK.mk rfl | (simp only [lenW] <;> omega)) only [ha, hb, Qaa, Qac, Qad, wW, wV, simprocAttr]
      exact⟨.inr trivial,_,rfl,rfl⟩
    · have hw : wr .i64 (a - (c.xs.length : Int)) = a - (c.xs.length : Int) := QdW (by omega) (by omega)
      simp(disch:=first|omega|exact PairsOK.mk rfl|(simp only[lenW]<;>omega)) only[ha,hb,hw,Qaa,Qac,Qad,wW,wV,simprocAttr]
      exact⟨.inr trivial,_,rfl,rfl⟩
end Go.AM.SO
namespace Go.AM.TR
open Go.Proofs
set_option maxHeartbeats 4000000
noncomputable section
def cf:YA.Cf:={most:= .pure,always:=[28,69].map fun k=>(k,.heap)}
def s70:SFn:=by
 refine(?f:YA.Yt Tryz.prog cf 70 [[0,2,3],[8,9,10],[5],[12,13,14,15,11,16,17,18,19,20,21,22],[23],[1,4,5,24,25],[2,3,24,27,28,29,30,31,32,33,34,35,36,26,37,38,39,40,41,42,43],[44],[1,4,5,45,46],[2,3,1,5,45,47,48,49,50,51,52,53,54,55],[56,57,58],[],[62,63,64,65],[6,7,66,67,68,69,70,71,72],[73],[4,59,60,61,74]] [(9,[(4,6)])]) ?s ?h
 case h=>exact YA.rr
 exact fun s _=>s
def s160:SFn:=by
 refine(?f:YA.Yt Tryz.prog cf 160 [[2,11,12,13,14,15,16,10,17,18,6],[5],[],[22,23,24],[25,26,27,28],[8,9,29,30,31],[37,38]]) ?s ?h
 case h=>exact YA.rr
 exact fun s _=>s
theorem ok70:okFn Tryz.prog 70 s70=true:=by kernel_rfl
theorem ok160:okFn Tryz.prog 160 s160=true:=by kernel_rfl
end
end Go.AM.TR
namespace Go.AM
variable {P:Program}
theorem HRel.give {ok : Okc} {c : Ctx ok} {h : Heap} {w : World} (H : HRel c h w) {b g len sz : Nat} {ds : List AV} (hb : h.get b = some (.cells g ds)) (hr : noRefs ds = true) (hl : ds.length = len * sz) (hlim : Nat.blt b 1099511627775 = true) :
    ∃c2,Evo c w c2 w/\HRel c2 (h.set b (.dead g)) w/\(∀v,VRel c w (.sl b g 0 len sz) v->VRel c2 w (.fsl ds len sz) v)/\∀x v,noRef x=true->VRel c w x v->VRel c2 w x v:=by
  have hlim':b<1099511627775:=by simp_all
  have hlive:Live h b g:=⟨_,hb,rfl,fun _=>by simp⟩
  let c2:Ctx ok:={c with F:=fun k=>c.F k\/∃base,c.ρ b g=some (.loc k base),O:=fun k=>c.O k/\¬∃base,c.ρ b g=some (.loc k base)}
  have hset:∀k,(h.set b (.dead g)).get k=if k=b then some (.dead g)else h.get k:=fun k=>by
    by_cases e:k=b
    · subst e;rw[QaC hlim',if_pos rfl]
    simp_all [QaF]
  have hlv:∀k y,Live (h.set b (.dead g)) k y->k≠b/\Live h k y:=by
    rintro k y ⟨x,hk,hg,hd⟩
    rw[hset]at hk
    split at hk
    · grind
    · rename_i e;exact⟨e,x,hk,hg,hd⟩
  have E:=Evo.refl c w
  have E2:Evo c w c2 w:=⟨E.os,E.tape,E.output,E.size,E.shape,E.keep,E.rho,fun k hk=> .inl (E.frz k hk),fun k hk=>by
    rcases hk with hk|⟨base,hk⟩
    · simp_all
    · exact .inr (.inl (H.owned hlive hk)),fun k hk=>E.own k hk.1,E.base⟩
  refine⟨c2,E2,⟨fun k hk y=>?_,fun k x hk y hlt=>?_,fun k x hk=>?_,fun k y k' y' cb base base' l1 l2 p1 p2=>H.inj k y k' y' cb base base' (hlv _ _ l1).2 (hlv _ _ l2).2 p1 p2,fun k hF hO=>?_,fun k hF=>?_,fun k hO=>H.inO k hO.1⟩,fun v V=>?_,fun x v hn hv=>VRel.noRef (c:=c) (c':=c2) (fun _ h=> .inl h) _ _ hn hv⟩
  · rw [hset] at hk
    split at hk
    · cases hk
    · exact H.fresh k hk y
  · rw [hset] at hk
    split at hk
    · rename_i e; subst e; cases hk
      exact H.later k _ hb y hlt
    · exact H.later k x hk y hlt
  · rw [hset] at hk
    split at hk
    · cases hk;trivial
    · rename_i e
      refine BRel.mono (c:=c) (c':=c2) (w:=w) (w':=w) ⟨fun _ _ _ h=>h,fun _ h=> .inl h,fun _ _ _ h=>h,fun _ C _ fr h=>⟨C,fr,h,rfl⟩⟩ (fun cb base hd hp=>?_) (H.blk k x hk)
      have hlk:Live h k x.gen:=⟨x,hk,rfl,hd⟩
      exact⟨⟨H.owned hlk hp,fun⟨base',hp'⟩=>e (H.inj _ _ _ _ _ _ _ hlk hlive hp hp')⟩,rfl⟩
  · rcases hF with hF | hF
    · exact H.disj k hF hO.1
    grind
  · rcases hF with hF | ⟨base, hF⟩
    · exact H.inF k hF
    · exact H.inO k (H.owned hlive hF)
  · simp only [VRel] at V
    rcases V with⟨hp,rfl,_,rfl⟩|⟨cb,base,o,cap,C,e,fr,hp,rfl,hlc,hC,hcap⟩
    · simp_all [VRel]
    · obtain ⟨C', e', fr', hO, hC', hfr, hbs, hpre⟩ := H.here hb hp
      rw[hC]at hC';cases hC'
      have hF:c2.F cb:= .inr ⟨base,hp⟩
      by_cases h0:cap=0
      · have hl0 : len = 0 := by omega
        subst hl0
        have:ds=[]:=List.eq_nil_of_length_eq_zero (by rw[hl];simp)
        subst this
        simp only[VRel]
        simp_all
      · obtain ⟨rfl, hbd⟩ := hcap.resolve_left h0
        have hp2:=VPre.noRef2 (c:=c) (c':=c2) (fun _ h=> .inl h) hr hpre
        simp only[VRel]
        grind
theorem HSpec.give1 {f b g len sz:Nat} {ds:List AV} {h:Heap} {v:AV} (S:PSpec P f [.fsl ds len sz] v) (hb:h.get b=some (.cells g ds)) (hr:noRefs ds=true) (hl:ds.length=len*sz) (hlim:Nat.blt b 1099511627775=true):
  HSpec P f [.sl b g 0 len sz] h v (h.set b (.dead g)):=by
 have hS:=S
 obtain⟨_,_,h',hc,_⟩:=S
 refine⟨hc,fun c w cargs H ha=>?_⟩
 obtain⟨c2,E2,H2,V2,_⟩:=H.give hb hr hl hlim
 have ha2:VRels c2 w [.fsl ds len sz] cargs.toList:=by
  grind [VRels]
 refine((hS.pure H2 ha2).2).mono ?_
 rintro e w' ⟨cv,c',rfl,E,H',V⟩
 exact⟨cv,c',rfl,E2.trans E,H',V⟩
end Go.AM
namespace Go.AM
variable {P:Program}
def tight (i:Nat) (f:FP):Prop:=f.all=false/\∀b,b∈f.R\/b∈f.W->b∈[i]
def wpRS (P:Program) (z:Nat):Nat->List SOper->Tmps->Heap->(Tmps->Heap->Nat->Prop)->Prop
 |n,[],T,h,K=>K T h n
 |n,s::r,T,h,K=>∃v h1 f,StepV P n s T h v h1 f/\(n=z->tight n f)/\wpRS P z (n+1) r (putD T s.dst v) h1 K
theorem Qjq {z:Nat}:∀{r:List SOper} {n:Nat} {T:Tmps} {h:Heap} {K:Tmps->Heap->Nat->Prop},z<n->wpR P n r T h K->wpRS P z n r T h K
 |[],n,T,h,K,_,hk=>hk
 |s::r,n,T,h,K,hz,⟨v,h1,f,hs,hr⟩=>⟨v,h1,f,hs,fun e=>by omega,Qjq (by omega) hr⟩
theorem QqO {s:SOper} {K:Tmps->Heap->Nat->Prop}:∀(k:Nat) (r:List SOper) (n:Nat) (T:Tmps) (h:Heap),r[k]?=some s->
  wpR P n (r.take k) T h (fun T1 h1 n1=>∃v h2 f,StepV P n1 s T1 h1 v h2 f/\tight n1 f/\wpR P (n1+1) (r.drop (k+1)) (putD T1 s.dst v) h2 K)->wpRS P (n+k) n r T h K:=by
 intro k
 induction k with
 | zero =>
  intro r n T h e hw
  cases r with
  |nil=>cases e
  |cons t r=>
   rw[List.getElem?_cons_zero,Option.some.injEq]at e
   subst e
   rw[List.take_zero]at hw
   simp only[wpR]at hw
   obtain⟨v,h2,f,h3,h4,h5⟩:=hw
   rw[List.drop_succ_cons,List.drop_zero]at h5
   exact⟨v,h2,f,h3,fun _=>h4,Qjq (by omega) h5⟩
 | succ k ih =>
  intro r n T h e hw
  cases r with
  |nil=>cases e
  |cons t r=>
   rw[List.take_succ_cons]at hw
   simp only[wpR]at hw
   obtain⟨v,h1,f,h3,h4⟩:=hw
   refine⟨v,h1,f,h3,fun e=>by omega,?_⟩
   rw[show n+(k+1)=n+1+k by omega]
   exact ih r (n+1) _ _ (by simpa using e) h4
theorem Qk7 {z:Nat}:∀{r:List SOper} {n:Nat} {T:Tmps} {h:Heap} {K:Tmps->Heap->Nat->Prop},wpRS P z n r T h K->∃T' h' n',K T' h' n'/\∀d,(∀s∈r,s.dst≠some d)->lk T' d=lk T d
 |[],n,T,h,K,hk=>⟨T,h,n,hk,fun _ _=>rfl⟩
 |s::r,n,T,h,K,⟨v,h1,f,hs,_,hr⟩=>by
  obtain⟨T',h',n',hk,he⟩:=Qk7 hr
  refine⟨T',h',n',hk,fun d hd=>?_⟩
  simp_all [Qbu]
def touch3 (z i:Nat) (ax:Opd->Option (List Nat)) (s:SOp):Option (List Nat):=bif Nat.beq i z then some [i]else touch2 i ax s
def touchesN (z:Nat) (C:Claims) (n:Nat) (T:Tmps):List SOper->Abs->List (Option (List Nat))
 |[],_=>[]
 |s::r,A=>touch3 z n (absO T A) s.op::touchesN z C (n+1) T r (match s.dst with|some d=>(d,absH C d (s.op.absV n (absO T A)))::A|none=>A)
theorem Qk8 {T0:Tmps} {C:Claims} {z:Nat}:∀{r:List SOper} {n:Nat} {A:Abs} {T:Tmps} {h:Heap} {K:Tmps->Heap->Nat->Prop} (hA:AbsOK T0 A T) (K':List FP->Tmps->Heap->Nat->Prop)
  (hC:∀T h n,K T h n->∀d bs,clm C d=some bs->Pts (lk T d) bs) (hssa:ssa C r=true),
  (∀fs T h n',fs.length=r.length->(∀(j:Nat) ts,(touchesN z C n T0 r A).getD j none=some ts->(fs.getD j ⟨false,[],[]⟩).all=false/\∀b,b∈(fs.getD j ⟨false,[],[]⟩).R\/b∈(fs.getD j ⟨false,[],[]⟩).W->b∈ts)->K T h n'->K' fs T h n')->
  wpRS P z n r T h K->wpRF P n r T h K'
 |[],n,A,T,h,K,hA,K',hC,hssa,hK,hw=>hK [] T h n rfl (fun j ts hj=>by simp_all) hw
 | s :: r, n, A, T, h, K, hA, K', hC, hssa, hK, hw => by
  obtain⟨v,h1,f,hs,hz,hr⟩:=hw
  simp only[ssa,Bool.and_eq_true]at hssa
  obtain⟨hs1,hs2⟩:=hssa
  refine⟨v,h1,f,hs,?_⟩
  have hA2:AbsOK T0 (match s.dst with|some d=>(d,absH C d (s.op.absV n (absO T0 A)))::A|none=>A) (putD T s.dst v):=by
   cases e:s.dst with
   |none=>exact hA
   | some d =>
    refine AbsOK.up hA fun bs hb=>?_
    unfold absH at hb
    split at hb
    ·rename_i bs' hc
     cases hb
     obtain⟨T',h',n',hk,he⟩:=Qk7 hr
     have h3:=hC T' h' n' hk d _ hc
     rw[he d ?_,Qbu,if_pos e]at h3
     ·exact h3
     ·intro s' hs'
      rw[e]at hs1
      simp only[hc,Option.isNone_some,Bool.false_or,List.all_eq_true]at hs1
      have:=hs1 s' hs'
      intro e2
      simp_all
    ·exact QeQ hA.opd hb hs
  refine Qk8 hA2 (fun fs T h n=>K' (f::fs) T h n) hC hs2 (fun fs T h n' hl hf hk=>?_) hr
  refine hK (f::fs) T h n' (by simp[hl]) (fun j ts hj=>?_) hk
  cases j with
  | zero =>
   simp only[touchesN,List.getD_cons_zero]at hj⊢
   unfold touch3 at hj
   cases e:Nat.beq n z with
   |true=>
    rw[e]at hj
    simp only[cond_true,Option.some.injEq]at hj
    subst hj
    exact hz (by simpa using e)
   |false=>
    rw[e]at hj
    exact QfC hA.opd hj hs
  |succ j=>
   simp only[touchesN,List.getD_cons_succ]at hj⊢
   exact hf j ts hj
def NewAt (P:Program) (N:NM) (x:Opd) (ag:List Opd) (d:Option Nat) (r:List SOper) (n:Nat) (T:Tmps) (h:Heap) (Q:QC):Prop:=
 ∃f ys len sz,ev T x= .fn f [] []/\NSpec P f (evs T ag) ys len sz/\noRefs ys=true/\n<lim/\h.get n=none/\wR P N r [] [] (n+1) (putD T d (.sl n 0 0 len sz)) (h.set n (.cells 0 ys)) Q
theorem Qe6 (C:Claims) (k:Nat) {x:Opd} {ag:List Opd} {d:Option Nat} {N:NM} {ops:List SOper} {p:Nat×Nat} {ps:List (Nat×Nat)} {dead:List Nat} {fs:List Fr} {n:Nat} {T:Tmps} {h:Heap} {Q:QC} {af:List Nat} (hk:ops[k]?=some ⟨d,.call .heap x ag,af,none⟩) (hssa:ssa C ops=true) (hp:pairsOK (touchesN (n+k) C n T ops []) (p::ps)=true)
  (hw:wR P N (ops.take k) [] [] n T h fun e T h n=>NewAt P N x ag d (ops.drop (k+1)) n T h fun e T h n=>Clms T C/\wX P N .normal fs n (rm T dead) h Q):wS P N (.region ops (p::ps) dead) fs n T h Q:=by
 have rm0:∀T:Tmps,rm T []=T:=by
  intro T
  induction T with
  |nil=>rfl
  |cons p T ih=>obtain⟨j,v⟩:=p;simp[rm,ih]
 refine Qk8 (C:=C) (z:=n+k) (K:=fun T h n=>Clms T C/\wX P N .normal fs n (rm T dead) h Q) AbsOK.nil _ (fun T h n hk d bs hc=>hk.1.get d bs hc) hssa (fun fs' T h n' hl hf hk=>⟨?_,hk.2⟩) ?_
 ·rw [List.all_eq_true]
  intro q hq
  have:=List.all_eq_true.1 hp q hq
  split at this
  ·rename_i a b ha hb
   obtain⟨f1,f2⟩:=hf _ _ ha
   obtain⟨g1,g2⟩:=hf _ _ hb
   have hd:∀x y,x∈a->y∈b->x≠y:=by
    grind
   have dj:∀xs ys:List Nat,(∀x∈xs,∀y∈ys,x≠y)->disj xs ys=true:=by
    intro xs ys hh
    unfold disj
    grind
   grind [FP.apart]
  ·cases this
 ·refine QqO k ops n T h hk ?_
  have hw':wpR P n (ops.take k) T h fun T h n=>NewAt P N x ag d (ops.drop (k+1)) n (rm T []) h fun e T h n=>Clms T C/\wX P N .normal fs n (rm T dead) h Q:=hw
  simp only[rm0]at hw'
  have mono:∀{r:List SOper} {n:Nat} {T:Tmps} {h:Heap} {K K':Tmps->Heap->Nat->Prop},(∀T h n,K T h n->K' T h n)->wpR P n r T h K->wpR P n r T h K':=by
   intro r
   induction r with
   |nil=>intro n T h K K' hi hw;exact hi _ _ _ hw
   |cons s r ih=>intro n T h K K' hi hw;obtain⟨v,h1,f,hs,hr⟩:=hw;exact⟨v,h1,f,hs,ih hi hr⟩
  refine mono (fun T1 h1 n1 hh=>?_) hw'
  obtain⟨f,ys,len,sz,e1,e2,e3,e4,e5,e6⟩:=hh
  refine⟨.sl n1 0 0 len sz,h1.set n1 (.cells 0 ys),⟨false,[n1],[n1]⟩,?_,⟨rfl,fun b hb=>?_⟩,?_⟩
  ·refine ⟨.call .heap f (evs T1 ag), h1, ?_, .inr (.inr (.inl ⟨evs T1 ag, [], .inl ⟨rfl, rfl⟩, .inl ⟨ys, len, sz, e2, .inr ⟨e3, rfl⟩, e4, e5, rfl, rfl, rfl⟩⟩))⟩
   simp_all [aop,aCall,HM.run]
  ·simpa using hb
  ·have e6' : wpR P (n1 + 1) (ops.drop (k + 1)) (putD T1 d (.sl n1 0 0 len sz)) (h1.set n1 (.cells 0 ys)) fun T h n => Clms (rm T []) C /\ wX P N .normal fs n (rm (rm T []) dead) h Q := e6
   simp_all
end Go.AM
namespace Go.AM.SO
open Go.Proofs Go.AM.SD Go.AM.SE
theorem u8_wf {n:Int} (h:(Lit.int .u8 n).wf=true):0<=n/\n<256:=by
 grind [Lit.wf,IntKind.min,IntKind.max,IntKind.signed,IntKind.bits]
theorem i8_wf {n:Int} (h:(Lit.int .i8 n).wf=true): -128<=n/\n<128:=by
 grind [Lit.wf,IntKind.min,IntKind.max,IntKind.signed,IntKind.bits]
def u8O:Ty->Bool
 | .int k=>k== .u8
 | .arr _ t=>u8O t
 | .st t=>u8O t
 | .unit=>true
 | .pair a b=>u8O a&&u8O b
 |_=>false
theorem Qe7 {a b:List Nat}:u8s (a++b)=u8s a++u8s b:=by simp[u8s]
theorem Qb3:∀(t:Ty),u8O t=true->∀(d:t.D),t.wf d->∃l:List Nat,l.length=t.sz/\(∀x∈l,x<256)/\t.cells d=u8s l
 | .int k,h,d,hw=>by
  have:k= .u8:=by grind [u8O]
  subst this
  have:=u8_wf hw
  refine⟨[Int.toNat d],rfl,by simp;omega,?_⟩
  show[AV.int .u8 d]=[AV.int .u8 ((Int.toNat d:Nat):Int)]
  grind
 | .bool,h,_,_=>by cases h
 | .str,h,_,_=>by cases h
 | .sl _,h,_,_=>by cases h
 | .st t,h,d,hw=>Qb3 t h d hw
 | .unit,_,_,_=>⟨[],rfl,by simp,rfl⟩
 | .pair a b,h,d,hw=>by
  simp only[u8O,Bool.and_eq_true]at h
  obtain⟨l,h1,h2,h3⟩:=Qb3 a h.1 d.1 hw.1
  obtain⟨m,g1,g2,g3⟩:=Qb3 b h.2 d.2 hw.2
  refine⟨l++m,by rw[List.length_append,h1,g1];rfl,fun x hx=>(List.mem_append.1 hx).elim (h2 x) (g2 x),?_⟩
  show a.cells d.1++b.cells d.2=_
  rw[h3,g3,Qe7]
 | .arr n t, h, d, hw => by
  obtain⟨hl,hx⟩:=hw
  have key:∀l:List t.D,(∀x∈l,t.wf x)->∃r:List Nat,r.length=l.length*t.sz/\(∀x∈r,x<256)/\l.flatMap t.cells=u8s r:=by
   intro l
   induction l with
   |nil=>intro _;exact⟨[],by simp,by simp,rfl⟩
   |cons a l ih=>
    intro hl
    obtain⟨r,g1,g2,g3⟩:=ih fun y hy=>hl y (by simp[hy])
    obtain⟨m,h1,h2,h3⟩:=Qb3 t h a (hl a (by simp))
    refine⟨m++r,by grind,fun x hx=>(List.mem_append.1 hx).elim (h2 x) (g2 x),?_⟩
    rw[List.flatMap_cons,g3,h3,Qe7]
  obtain⟨r,g1,g2,g3⟩:=key d hx
  refine⟨r,by rw[g1];show List.length d*t.sz=n*t.sz;rw[hl],g2,g3⟩
abbrev tyTo:Ty:= .arr 5 (.arr 5 (.int .u8))
abbrev tyGr:Ty:= .st (.pair (.int .u8) (.pair (.int .u8) (.pair tyTo .unit)))
abbrev tyPln:Ty:= .st (.pair (.arr 5 (.int .u8)) (.pair (.int .u8) (.pair (.arr 3 (.int .u8)) (.pair (.arr 3 tyGr) (.pair (.int .u8) (.pair (.arr 2 (.int .u8)) (.pair (.arr 2 tyGr)
 (.pair (.sl (.arr 4 (.int .u8))) (.pair (.arr 3 (.int .i8)) (.pair (.int .i8) .unit))))))))))
theorem QrU {d:tyPln.D} (h:tyPln.wf d):∃p:Pln,POk p/\p.xn<=9223372036854775807/\tyPln.val d=plnV p:=by
 obtain⟨a,b,c,g,e,f,k,x,y,z,u⟩:=d
 obtain⟨h1,h2,h3,h4,h5,h6,h7,h8,h9,h10,_⟩:=h
 dsimp only at h1 h2 h3 h4 h5 h6 h7 h8 h9 h10
 obtain⟨l1,a1,b1,c1⟩:=Qb3 (.arr 5 (.int .u8)) rfl _ h1
 obtain⟨l2,a2,b2,c2⟩:=Qb3 (.int .u8) rfl _ h2
 obtain⟨l3,a3,b3,c3⟩:=Qb3 (.arr 3 (.int .u8)) rfl _ h3
 obtain⟨l4,a4,b4,c4⟩:=Qb3 (.arr 3 tyGr) rfl _ h4
 obtain⟨l5,a5,b5,c5⟩:=Qb3 (.int .u8) rfl _ h5
 obtain⟨l6,a6,b6,c6⟩:=Qb3 (.arr 2 (.int .u8)) rfl _ h6
 obtain⟨l7,a7,b7,c7⟩:=Qb3 (.arr 2 tyGr) rfl _ h7
 obtain⟨h80,h8⟩:=h8
 obtain⟨l8,a8,b8,c8⟩:=Qb3 (.arr (List.length x) (.arr 4 (.int .u8))) rfl x ⟨rfl,h8⟩
 obtain⟨hy,hyw⟩:=h9
 obtain⟨y0,y1,y2,rfl⟩:∃y0 y1 y2,y=[y0,y1,y2]:=by
  match y,hy with
  |[y0,y1,y2],_=>exact⟨y0,y1,y2,rfl⟩
 have w0:=i8_wf (hyw y0 (by simp))
 have w1:=i8_wf (hyw y1 (by simp))
 have w2:=i8_wf (hyw y2 (by simp))
 have wz:=i8_wf h10
 refine⟨⟨l1++l2++l3++l4++l5++l6++l7,l8,List.length x,y0,y1,y2,z⟩,⟨?_,?_,a8,b8,w0,w1,w2,wz⟩,h80,?_⟩
 ·simp only[List.length_append,a1,a2,a3,a4,a5,a6,a7];rfl
 ·grind
 ·show AV.agg (tyPln.cells _) = _
  congr 1
  show(Ty.arr 5 (.int .u8)).cells a++((Ty.int .u8).cells b++((Ty.arr 3 (.int .u8)).cells c++((Ty.arr 3 tyGr).cells g++((Ty.int .u8).cells e++((Ty.arr 2 (.int .u8)).cells f++((Ty.arr 2 tyGr).cells k++
   ([.fsl ((Ty.arr (List.length x) (.arr 4 (.int .u8))).cells x) (List.length x) 4]++((Ty.arr 3 (.int .i8)).cells [y0,y1,y2]++((Ty.int .i8).cells z++[])))))))))=_
  rw[c1,c2,c3,c4,c5,c6,c7,c8]
  simp only[plnC,Qe7,List.append_assoc]
  rfl
end Go.AM.SO
namespace Go.AM.SK
open Go.Proofs
noncomputable section
def isT:AV->Bool| .bool true=>true|_=>false
theorem QrV:∀u,isT u=true->u= .bool true:=by
 intro u h
 unfold isT at h
 split at h
 ·rfl
 ·cases h
theorem known15:PSpec Tryz.prog 15 [] (.bool true):=
 QbE (t:=ft) ft_ok Qc4 (d:=100000) isT QrV (by kernel_rfl)
end
end Go.AM.SK
namespace Go.AM.SO
open Go.Proofs Go.AM.SD Go.AM.SE
theorem short25 (p:Pln) (h:POk p) (hx:p.xn<=9223372036854775807):PSpec Tryz.prog 25 [plnV p] (.bool (decide (p.xn<=4))):=by
 refine PSpec.Qal 64 ok25 rfl (by simp only[noRefs,noRef,SU.Qdv];rfl) rfl ?_
 have hlen:=SU.Qij h
 have hone:=SU.Qik h
 have a147:(plnC p)[147]?=some (.fsl (u8s p.X) p.xn 4):=SU.Qew h (k:=0)
 show wS _ _ _ _ _ (argT 0 [.agg (plnC p)]) _ _
 generalize plnC p=C at*
 have e:decide ((p.xn:Int)<=4)=decide (p.xn<=4):=decide_eq_decide.2 (by omega)
 simp(disch:=first|omega|(simp only[lenW]<;>omega)) only[s25,hlen,hone,a147,e,wW,wV,simprocAttr]
 exact⟨.inr trivial,_,rfl,rfl⟩
end Go.AM.SO
namespace Go.AM.SO
open Go.Proofs Go.AM.SD Go.AM.SE
theorem Qk9 {l:List Aut} {ev:List Nat}:∀{k i:Nat} {s:List (List Nat)×List Ed},(pQ l ev k i s).2.length<=s.2.length+k*ev.length
 |0,_,s=>by simp[pQ]
 | k + 1, i, s => by
  unfold pQ
  cases s.1[i]? with
  |none=>dsimp only;omega
  |some t=>
   have h1:=Qk9 (l:=l) (ev:=ev) (k:=k) (i:=i+1) (s:=pRow l ev i t s)
   have h2:=Qd5 (l:=l) (i:=i) (t:=t) (ev:=ev) (s:=s)
   have h3:(k+1)*ev.length=k*ev.length+ev.length:=Nat.succ_mul ..
   dsimp only
   omega
theorem QfH (x:Aut):autB x x=true:=by simp[autB]
theorem Qg8 {l:List Aut} (h:∀a∈l,WfI a) (hl:l.length<=5):AOk (syncA l)/\(sync0 l).1.length<=243/\∀t∈(sync0 l).1,t.length<=5:=by
 have hw:∀a∈l,∀e∈a.es,e.1<a.n/\e.2.2<a.n:=fun a ha=>(h a ha).wf.esn
 have hpos:∀a∈l,0<a.n:=fun a ha=>(h a ha).pos
 have hbox:box l<=243:=Nat.le_trans (QkY (fun a ha=>(h a ha).n3) (by omega)) (Nat.pow_le_pow_right (n:=3) (by omega) hl)
 have hs:=QpH hpos hw
 have h5:=Qcp h
 have he:(sync0 l).2.length<=244*5:=by
  refine Nat.le_trans Qk9 ?_
  have:=Nat.mul_le_mul (show box l+1<=244 by omega) h5
  simpa using this
 refine⟨⟨by show(evA l).length<=_;omega,?_,by show(sync0 l).2.length<=_;omega⟩,by omega,fun t ht=>?_⟩
 ·have := @Qjn l (sync0 l).1 (sync0 l).1.length
  show(marks l (sync0 l).1 (sync0 l).1.length).length<=_
  omega
 ·have := ((Qev hpos hw).inT t ht).1
  omega
end Go.AM.SO
namespace Go.AM.SO
open Go.Proofs Go.AM.SD Go.AM.SE
theorem QqP:allK 72 1 []=true:=by kernel_rfl
theorem QqQ:allK 72 2 []=true:=by kernel_rfl
theorem QqR:allK 72 3 []=true:=by kernel_rfl
theorem key72 {c:Cel} (h:WfCel c) {t:List Nat} (ht:InT (auL c.cs) t):PSpec Tryz.prog 72 [sliN t] (.str (keyT t)):=by
 have h0:=h.c0
 have h3:=h.c3
 have hl:=ht.1
 rw[QaS]at hl
 refine QhT (Qez (u:=[]) ?_ fun x hx=>ht.lt (QaN h) hx)
 grind [QqP,QqQ,QqR]
def allA (c:Cel):List Aut:=auL c.cs++auL c.rs
theorem Qa9 {c:Cel} (h:WfCel c):∀a∈allA c,WfI a:=fun a ha=>by
 unfold allA at ha
 rcases List.mem_append.1 ha with ha|ha
 ·exact QaN h a ha
 ·obtain ⟨x, hx, rfl⟩ := List.mem_map.1 ha
  exact h.ra x hx
theorem Qba {c:Cel}:(allA c).length=c.cs.length+c.rs.length:=by simp[allA]
theorem QpU:allK 98 3 [0]=true:=by kernel_rfl
theorem QpV:allK 98 3 [1]=true:=by kernel_rfl
theorem QpW:allK 98 3 [2]=true:=by kernel_rfl
theorem QoU:allK 98 3 [0,0]=true:=by kernel_rfl
theorem QoV:allK 98 3 [0,1]=true:=by kernel_rfl
theorem QoW:allK 98 3 [0,2]=true:=by kernel_rfl
theorem QoX:allK 98 3 [1,0]=true:=by kernel_rfl
theorem QoY:allK 98 3 [1,1]=true:=by kernel_rfl
theorem QoZ:allK 98 3 [1,2]=true:=by kernel_rfl
theorem Qo0:allK 98 3 [2,0]=true:=by kernel_rfl
theorem Qo1:allK 98 3 [2,1]=true:=by kernel_rfl
theorem Qo2:allK 98 3 [2,2]=true:=by kernel_rfl
theorem key98w4 {a:Nat} (h:a<3):allK 98 3 [a]=true:=by
 obtain rfl|rfl|rfl:a=0\/a=1\/a=2:=by omega
 ·exact QpU
 ·exact QpV
 ·exact QpW
theorem key98w5 {a b:Nat} (h:a<3) (hb:b<3):allK 98 3 [a,b]=true:=by
  obtain rfl|rfl|rfl:a=0\/a=1\/a=2:=by omega
  · obtain rfl | rfl | rfl : b = 0 \/ b = 1 \/ b = 2 := by omega
    · exact QoU
    · exact QoV
    · exact QoW
  · obtain rfl | rfl | rfl : b = 0 \/ b = 1 \/ b = 2 := by omega
    · exact QoX
    · exact QoY
    · exact QoZ
  · obtain rfl | rfl | rfl : b = 0 \/ b = 1 \/ b = 2 := by omega
    · exact Qo0
    · exact Qo1
    · exact Qo2
theorem QqS {c:Cel} (h:WfCel c) (t:List Nat) (ht:InT (allA c) t):PSpec Tryz.prog 98 [sliN t] (.str (keyT t)):=by
 have h0:=h.c0
 have h3:=h.c3
 have h2:=h.r2
 have hl:=ht.1
 have hx:∀x∈t,x<3:=fun x hx=>ht.lt (Qa9 h) hx
 rw[Qba]at hl
 by_cases h4:t.length<=3
 ·grind [key98]
 ·match t, hl, hx, h4 with
  |[_,_,_],_,_,h4=>exact absurd (by simp) h4
  |[a,b,d,e],hl,hx,_=>exact QhT (Qez (t:=[b,d,e]) (u:=[a]) (key98w4 (hx a (by simp))) fun x h=>hx x (by simp_all))
  |[a,b,d,e,f],hl,hx,_=>exact QhT (Qez (t:=[d,e,f]) (u:=[a,b]) (key98w5 (hx a (by simp)) (hx b (by simp))) fun x h=>hx x (by simp_all))
  |[],_,_,h4=>exact absurd (by simp) h4
  |[_],_,_,h4=>exact absurd (by simp) h4
  |[_,_],_,_,h4=>exact absurd (by simp) h4
  |_::_::_::_::_::_::_,hl,_,_=>simp at hl;omega
end Go.AM.SO
namespace Go.AM.SO
open Go.Proofs Go.AM.SD Go.AM.SE
theorem auto69H {ch:UInt8} (l:List (Nat×Aut)) (hl:l.length<=1000):HSpec Tryz.prog 69 [its ch l] .e (.sl 60 0 0 l.length 4) (hp [(60,.cells 0 ((auL l).flatMap auC))]):=by
  refine HSpec.QcQ 100 TP.ok69 rfl ?_
  have hni:=@SU.Qaq ch l
  simp(disch:=first|omega|exact PairsOK.mk rfl|(simp only[lenW]<;>omega)) only[TP.s69,Qaa,Qac,Qad,wW,wV,simprocAttr]
  refine Qaj 100 (fun i:Nat=>[(3,.sl 60 0 0 i 4),(6,its ch l),(7,.int .i64 l.length),(8,.int .i64 i)]) (fun i=>[(60,.cells 0 ((auL (l.take i)).flatMap auC))]) (fun i=>i<=l.length) (fun i=>l.length-i) 0 0 160 (fun _:Unit=>[(3,.sl 60 0 0 l.length 4)]) (fun _=>[(60,.cells 0 ((auL l).flatMap auC))]) (fun _=>True) ?_ (Nat.zero_le _) ?_ ?_
  · refine ⟨[(60, .nil)], rfl, au0, ?_, au21⟩
    exact RB.newnil rfl rfl RB.nil
  · rintro i hi
    by_cases hlt:i<l.length
    · obtain ⟨x, hx⟩ := Qag hlt
      have hdr:=SU.QcJ (ch:=ch) hx
      have hdl:5<=((l.flatMap (itC ch)).drop (i*5)).length:=by rw[hdr];simp
      have htl:(auL (l.take i)).length=i:=by rw[QaS,List.length_take];omega
      have htm:((auL (l.take i)).flatMap auC).length=i*4:=by rw[Qcs,htl]
      simp(disch:=first|omega|exact PairsOK.mk rfl|(simp only[lenW]<;>omega)) only[hlt,hdr,hdl,htm,Qab,Qak,Qaa,Qac,Qad,wW,wV,simprocAttr]
      refine⟨i+1,by omega,by omega,?_⟩
      rw[take_succ' hx]
      show Rec _ _ [(60,.cells 0 ((List.map (fun x:Nat×Aut=>x.2) (l.take i++[x])).flatMap auC))] _ _
      rw[List.map_append,List.flatMap_append,Qk5]
      refine⟨[(60,.blk 60 1)],rfl,au0,?_,au21⟩
      exact RB.cells rfl rfl gg (RnL.same (SU.Qas (QaH _) (QaH [x.2]))) RB.nil
    · have e : i = l.length := by omega
      subst e
      simp(disch:=first|omega|exact PairsOK.mk rfl|(simp only[lenW]<;>omega)) only[hlt,List.take_length,Qaa,Qac,Qad,wW,wV,simprocAttr]
      refine⟨(),?_⟩
      refine⟨[(60,.blk 60 0)],rfl,au0,?_,au21⟩
      exact RB.cells rfl rfl gg (RnL.same (QaH _)) RB.nil
  rintro _ _
  simp(disch:=first|omega|exact PairsOK.mk rfl|(simp only[lenW]<;>omega)) only[Qaa,Qac,Qad,wW,wV,simprocAttr]
  refine⟨.inr trivial,_,rfl,?_⟩
  refine⟨[(60,.blk 60 0)],rfl,au0,?_,au21⟩
  exact RB.cells rfl rfl gg (RnL.same (QaH _)) RB.nil
theorem Qla (c:Cel) (h:WfCel c):PSpec Tryz.prog 28 [auts (allA c)] (.tup [aV (syncA (allA c)),tuV (sync0 (allA c)).1,.int .i64 0]):=by
 have h0:=h.c0
 have h3:=h.c3
 have h2:=h.r2
 exact sync28 (allA c) (Qa9 h) (by rw[Qba];omega) (by rw[Qba];omega) (QqS h)
abbrev stG (c:Cel) (p q:Aut) (P T:List (List Nat)):List AV:=[evsV c.ev,its 99 c.cs,its 114 c.rs,exs c.xs,cos c.ks,sliN p.al,.int .i64 (p.n:Int),sliN p.ms,egsN p.es,tuV P,sliN q.al,.int .i64 (q.n:Int),sliN q.ms,egsN q.es,tuV T,sliN (szs c),exs c.xs,cos c.ks,fmapG keyC (ixV P) P]
def stC (c:Cel):List AV:=stG c (syncA (auL c.cs)) (syncA (allA c)) (sync0 (auL c.cs)).1 (sync0 (allA c)).1
abbrev stP (c:Cel) (p q:Aut) (P T:List (List Nat)):List AV:=[evsV c.ev,its 99 c.cs,its 114 c.rs,exs c.xs,cos c.ks,sliN p.al,.int .i64 (p.n:Int),sliN p.ms,egsN p.es,tuV P,sliN q.al,.int .i64 (q.n:Int),sliN q.ms,egsN q.es,tuV T,sliN (szs c),exs c.xs,cos c.ks]
theorem Qe8 (c:Cel) (p q:Aut) (P T:List (List Nat)):noRefs (stP c p q P T)=true:=by
 have h1:=SU.Qa8 c
 rw[celV,noRef]at h1
 simp only[noRefs,Bool.and_eq_true,Bool.and_true]at h1
 obtain⟨a1,a2,a3,a4,a5⟩:=h1
 simp only[noRefs,a1,a2,a3,a4,a5,Qab,Qak,Qci]
 rfl
theorem Qec (c:Cel) (p q:Aut) (P T:List (List Nat)):noRefs (stG c p q P T)=true:=by
 have h1:=SU.Qa8 c
 rw[celV,noRef]at h1
 simp only[noRefs,Bool.and_eq_true,Bool.and_true]at h1
 obtain⟨a1,a2,a3,a4,a5⟩:=h1
 simp only[noRefs,a1,a2,a3,a4,a5,Qab,Qak,Qci]
 rw[show noRef (fmapG keyC (ixV P) P)=true by rw[fmapG,noRef,Qar (fun _=>rfl),Qar (fun _=>rfl)];rfl]
 rfl
theorem open70 (c : Cel) (h : WfCel c) : PSpec Tryz.prog 70 [celV c] (.tup [.fptr (stC c), .int .i64 0]) := by
  have hnr:=Qbf c
  have hns:noRef (.tup [.fptr (stC c),.int .i64 0])=true:=by rw[noRef,noRefs,noRef,stC,Qec];rfl
  refine PSpec.of_rn 64 TR.ok70 rfl (by rw[noRefs,SU.Qa8];rfl) hns ?_
  have h3:=h.c3
  have h2:=h.r2
  have hP:=plant17 c h
  have hA:=auto69H (ch:=99) c.cs (by omega)
  have hB:=automata69 (ch:=114) c.rs (by omega)
  have hS:=Qla c h
  have hD:=conds85 c h
  have hPi:=Qev (fun a ha=>(QaN h a ha).pos) fun a ha=>(QaN h a ha).wf.esn
  have hok:=Qg8 (QaN h) (by rw[QaS];omega)
  have hnT:=Qci (sync0 (auL c.cs)).1
  have hl1:((auL c.cs).flatMap auC).length=c.cs.length*4:=by rw[Qcs,QaS]
  have hl2:((auL c.rs).flatMap auC).length=c.rs.length*4:=by rw[Qcs,QaS]
  have hrl:(auL c.rs).length=c.rs.length:=QaS
  have hone:((auL c.rs).flatMap auC).all AV.one=true:=Qcx (fun _=>rfl) _
  have hS':PSpec Tryz.prog 28 [.fsl ((auL c.cs).flatMap auC++(auL c.rs).flatMap auC) (c.cs.length+c.rs.length) 4] (.tup [aV (syncA (allA c)),tuV (sync0 (allA c)).1,.int .i64 0]):=by
    rw[<-List.flatMap_append,<-Qba];exact hS
  clear hS
  rw[stC]
  generalize syncA (auL c.cs)=p at*
  generalize syncA (allA c)=q at*
  generalize (sync0 (auL c.cs))=sP at*
  generalize (sync0 (allA c)).1=T at*
  obtain⟨P,es⟩:=sP
  dsimp only at*
  simp(disch:=first|omega|exact PairsOK.mk rfl|(simp only[lenW]<;>omega)) only[TR.s70,Qaa,Qac,Qad,wW,wV,simprocAttr]
  refine cp hP ?_
  simp(disch:=first|omega|exact PairsOK.mk rfl|(simp only[lenW]<;>omega)) only[Qaa,Qac,Qad,wW,wV,simprocAttr]
  refine Qe6 [] 4 (x:= .f 69) (ag:=[.t 30]) (d:=some 31) rfl rfl rfl ?_
  simp(disch:=first|omega|exact PairsOK.mk rfl|(simp only[lenW]<;>omega)) only[Qaa,Qac,Qad,wW,wV,simprocAttr]
  refine⟨69,(auL c.cs).flatMap auC,c.cs.length,4,rfl,⟨hA.1,by show noRefs [its 99 c.cs]=true;rw[noRefs,SU.Qaq];rfl,60,0,0,_,_,rfl,Nat.zero_le _,gg,hA⟩,QaH _,by decide,gg,?_⟩
  simp(disch:=first|omega|exact PairsOK.mk rfl|(simp only[lenW]<;>omega)) only[Qaa,Qac,Qad,wW,wV,simprocAttr]
  refine ch (PSpec.toH hB _) ?_
  simp(disch:=first|omega|exact PairsOK.mk rfl|(simp only[lenW]<;>omega)) only[hl1,hl2,hrl,hone,Qaa,Qac,Qad,wW,wV,simprocAttr]
  refine ch (HSpec.give1 (g:=1) hS' gg (SU.Qas (QaH _) (QaH _)) (by rw[List.length_append,hl1,hl2];omega) rfl) ?_
  simp(disch:=first|omega|exact PairsOK.mk rfl|(simp only[lenW]<;>omega)) only[Qaa,Qac,Qad,wW,wV,simprocAttr]
  refine⟨trivial,?_⟩
  refine cp hD ?_
  simp(disch:=first|omega|exact PairsOK.mk rfl|(simp only[lenW]<;>omega)) only[Qaa,Qac,Qad,wW,wV,simprocAttr]
  refine Qaj 200 (fun i:Nat=>[(4,.ptr 52 0 0),(59,tuV P),(60,.int .i64 P.length),(61,.int .i64 i)]) (fun i=>[(52,.cells 0 [evsV c.ev,its 99 c.cs,its 114 c.rs,exs c.xs,cos c.ks,sliN p.al,.int .i64 (p.n:Int),sliN p.ms,egsN p.es,tuV P,sliN q.al,.int .i64 (q.n:Int),sliN q.ms,egsN q.es,tuV T,sliN (szs c),exs c.xs,cos c.ks,.map 53 0]),(53,.map 0 (mapG keyC (ixV P) (P.take i)))]) (fun i=>i<=P.length) (fun i=>P.length-i) 0 0 260 (fun _:Unit=>[(4,.ptr 52 0 0)]) (fun _=>[(52,.cells 0 [evsV c.ev,its 99 c.cs,its 114 c.rs,exs c.xs,cos c.ks,sliN p.al,.int .i64 (p.n:Int),sliN p.ms,egsN p.es,tuV P,sliN q.al,.int .i64 (q.n:Int),sliN q.ms,egsN q.es,tuV T,sliN (szs c),exs c.xs,cos c.ks,fmapG keyC (ixV P) P])]) (fun _=>True) ?_ (Nat.zero_le _) ?_ ?_
  · refine ⟨[(52, .blk 69 0), (53, .blk 116 0)], rfl, RO.set rfl (RO.set rfl RO.zero), ?_, RT.cons (Rn.x2 rfl rfl) (RT.cons (Rn.same hnT) au21)⟩
    exact RB.cells rfl rfl gg (RnL.append (xs:=stP c p q P T) (ys:=stP c p q P T) (RnL.same (Qe8 c p q P T)) (RnL.one (Rn.x3 rfl rfl))) (RB.map rfl rfl gg (RnM.mapG fun _ _=>⟨rfl,rfl⟩) RB.nil)
  · rintro i hi
    by_cases hlt:i<P.length
    · obtain ⟨t, ht⟩ := Qag hlt
      have hti:=hPi.inT t (List.mem_of_getElem? ht)
      have hk:=key72 h hti
      have hnew:t∉P.take i:=fun hm=>by
        have h2:ixT (P.take i) t=i:=(Qf2 (List.take_prefix i P) hm).trans (QoS hPi.nd ht)
        have h4:=QhU hm
        rw[h2,List.length_take]at h4
        omega
      have hup:updG (ixV P) t (.int .i64 ((i:Nat):Int))=ixV P:=by
        funext x
        unfold updG
        split
        · rename_i e;subst e;unfold ixV;rw[QoS hPi.nd ht]
        · rfl
      simp(disch:=first|omega|exact PairsOK.mk rfl|(simp only[lenW]<;>omega)) only[hlt,Qir ht,Qaa,Qac,Qad,wW,wV,simprocAttr]
      refine cp hk ?_
      simp(disch:=first|omega|exact PairsOK.mk rfl|(simp only[lenW]<;>omega)) only[Qaa,Qac,Qad,wW,wV,simprocAttr]
      refine Qce (c:=keyC) (f:=ixV P) (x:=t) (l:=P.take i) (g:=0) gg (QeA (QaN h) hti fun x hx=>hPi.inT x (List.mem_of_mem_take hx)) hnew (by omega) ?_
      rw[hup]
      simp(disch:=first|omega|exact PairsOK.mk rfl|(simp only[lenW]<;>omega)) only[Qaa,Qac,Qad,wW,wV,simprocAttr]
      refine⟨i+1,by omega,by omega,?_⟩
      rw[take_succ' ht]
      refine⟨[(52,.blk 52 0),(53,.blk 53 0)],rfl,RO.zero,?_,RT.cons (Rn.x2 rfl rfl) (RT.cons (Rn.same hnT) au21)⟩
      exact RB.cells rfl rfl gg (RnL.append (xs:=stP c p q P T) (ys:=stP c p q P T) (RnL.same (Qe8 c p q P T)) (RnL.one (Rn.x3 rfl rfl))) (RB.map rfl rfl gg (RnM.mapG fun _ _=>⟨rfl,rfl⟩) RB.nil)
    · have e : i = P.length := by omega
      subst e
      simp(disch:=first|omega|exact PairsOK.mk rfl|(simp only[lenW]<;>omega)) only[hlt,List.take_length,Qaa,Qac,Qad,wW,wV,simprocAttr]
      refine⟨(),[(52,.blk 52 0)],rfl,RO.zero,?_,RT.cons (Rn.x2 rfl rfl) RT.nil⟩
      exact RB.cells rfl rfl gg (RnL.append (xs:=stP c p q P T) (ys:=stP c p q P T) (RnL.same (Qe8 c p q P T)) (RnL.one (Rn.fzM (b:=53) (g:=0) gg rfl rfl fun _ _=>⟨rfl,rfl⟩))) RB.nil
  rintro _ _
  simp(disch:=first|omega|exact PairsOK.mk rfl|(simp only[lenW]<;>omega)) only[Qaa,Qac,Qad,wW,wV,simprocAttr]
  refine⟨.inr trivial,_,rfl,?_⟩
  refine Rn.tup (RnL.cons ?_ (RnL.same rfl))
  exact Rn.frzp (b:=52) (g:=0) rfl (Nat.zero_le _) (fun b' g' _ e=>by simp[π0]at e) (by simp) (RnL.same (Qec c p q P T))
end Go.AM.SO
namespace Go.AM.SO
open Go.Proofs Go.AM.SD Go.AM.SE
structure WfB (a:Aut):Prop where
 al:a.al.Pairwise (· < ·)
 al5:∀x∈a.al,x<5
 nb:a.n<=243
 ms:a.ms.Pairwise (· < ·)
 msn:∀x∈a.ms,x<a.n
 es:a.es.Pairwise fun x y=>x.1<y.1\/(x.1=y.1/\x.2.1<y.2.1)
 esn:∀e∈a.es,e.1<a.n/\e.2.2<a.n
 ev:∀e∈a.es,e.2.1∈a.al
 el:a.es.length<=1220
theorem WfI.b {a:Aut} (h:WfI a):WfB a:=⟨h.wf.al,h.wf.al5,by have:=h.n3;omega,h.wf.ms,h.wf.msn,h.wf.es,h.wf.esn,h.wf.ev,by have:=h.el;omega⟩
theorem WfB.auOk {a:Aut} (h:WfB a):AuOk (au a):=by
 have hal:=Qbq h.al h.al5
 have hms:=Qbq h.ms h.msn
 have hel:=h.el
 have hn5:=h.nb
 refine{len:=?_,all:=?_,fr:=?_,to:=?_,ev:=?_,up:=?_,alS:=SetOk.nz (n:=32) (fun x hx=>by have:=h.al5 x hx;omega) h.al,msS:=SetOk.nz h.msn h.ms,mslen:=?_,n0:=?_,nm:=?_}
 ·show(a.es.map eg).length<=_;simp;omega
 ·show(nz a.al).length<=_;simp;omega
 ·intro e he
  obtain⟨x,hx,rfl⟩:=List.mem_map.1 he
  have:=h.esn x hx
  show(0:Int)<=x.1/\(x.1:Int)<a.n
  omega
 ·intro e he
  obtain⟨x,hx,rfl⟩:=List.mem_map.1 he
  have:=h.esn x hx
  show(0:Int)<=x.2.2/\(x.2.2:Int)<a.n
  omega
 ·intro e he
  obtain⟨x,hx,rfl⟩:=List.mem_map.1 he
  exact List.mem_map.2 ⟨x.2.1,h.ev x hx,rfl⟩
 ·show (a.es.map eg).Pairwise _
  rw[List.pairwise_map]
  refine h.es.imp fun h=>?_
  show(_:Int)<_\/(_:Int)=_/\(_:Int)<_
  simp only[eg]
  omega
 ·show(nz a.ms).length<=_;simp;omega
 ·show(0:Int)<=(a.n:Int);omega
 ·show(a.n:Int)<=4096;omega
theorem check112B (a:Aut) (h:WfB a):PSpec Tryz.prog 112 [aV a] (.int .i64 0):=by
 have:=check37 (au a) h.auOk
 rwa [Qoj]at this
theorem WfB.srt {a:Aut} (h:WfB a):a.es.Pairwise fun x y=>x.1<=y.1:=h.es.imp fun h=>by omega
theorem QeB {l:List Aut} {ev:List Nat} {T:List (List Nat)} {j:Nat} {t:List Nat} {x:Ed} (h:x∈rowE l ev T j t):x.1=j/\x.2.1∈ev/\∃n,stepT l t x.2.1=some n/\x.2.2=ixT T n:=by
 unfold rowE at h
 obtain⟨e,he,h2⟩:=List.mem_filterMap.1 h
 cases hs:stepT l t e with
 |none=>rw[hs]at h2;cases h2
 |some n=>
  rw[hs]at h2
  simp only[Option.map_some,Option.some.injEq]at h2
  subst h2
  exact⟨rfl,he,n,hs,rfl⟩
theorem QgE {l:List Aut} {T:List (List Nat)} {j:Nat} {t:List Nat}:∀{ev:List Nat},ev.Pairwise (· < ·)->(rowE l ev T j t).Pairwise fun x y=>x.1<y.1\/(x.1=y.1/\x.2.1<y.2.1)
 |[],_=>by simp[rowE]
 | e :: ev, h => by
  rw[List.pairwise_cons]at h
  have ih:=QgE (l:=l) (T:=T) (j:=j) (t:=t) h.2
  unfold rowE at ih⊢
  rw[List.filterMap_cons]
  cases hs:stepT l t e with
  |none=>exact ih
  |some n=>
   simp only[Option.map_some]
   rw[List.pairwise_cons]
   refine⟨fun y hy=>?_,ih⟩
   obtain⟨h1,h2,_⟩:=QeB (l:=l) (T:=T) (j:=j) (t:=t) (ev:=ev) (by unfold rowE;exact hy)
   exact .inr ⟨h1.symm,h.1 _ h2⟩
theorem Qek {f:Nat->List Ed} (hf:∀j,(f j).Pairwise (fun x y=>x.1<y.1\/(x.1=y.1/\x.2.1<y.2.1))/\∀x∈f j,x.1=j):∀i,((List.range i).flatMap f).Pairwise fun x y=>x.1<y.1\/(x.1=y.1/\x.2.1<y.2.1)
 |0=>by simp
 |i+1=>by
  rw[List.range_succ,List.flatMap_append,List.flatMap_cons,List.flatMap_nil,List.append_nil,List.pairwise_append]
  refine⟨Qek hf i,(hf i).1,fun x hx y hy=>?_⟩
  obtain⟨j,hj,hx⟩:=List.mem_flatMap.1 hx
  have:=List.mem_range.1 hj
  rw[(hf j).2 x hx,(hf i).2 y hy]
  exact .inl this
theorem Qcj {l:List Aut} (h:∀a∈l,WfI a) (hl:l.length<=5):WfB (syncA l):=by
  have hw:∀a∈l,∀e∈a.es,e.1<a.n/\e.2.2<a.n:=fun a ha=>(h a ha).wf.esn
  have hpos:∀a∈l,0<a.n:=fun a ha=>(h a ha).pos
  have hs:=QcK hpos hw
  obtain⟨ho,h243,_⟩:=Qg8 h hl
  have hin:∀e∈(sync0 l).2,e.2.1∈evA l/\e.1<(sync0 l).1.length/\e.2.2<(sync0 l).1.length:=fun e he=>by
    rw[hs.ed]at he
    obtain⟨j,hj,he⟩:=List.mem_flatMap.1 he
    have hj:=List.mem_range.1 hj
    obtain⟨h1,h2,n,h3,h4⟩:=QeB he
    obtain⟨t,ht⟩:=Qag hj
    rw[List.getD_eq_getElem?_getD,ht]at h3
    have hm:=hs.cl j t hj ht _ h2 n h3
    exact⟨h2,by omega,by rw[h4];exact QhU hm⟩
  refine⟨QcT h,fun x hx=>?_,h243,?_,fun x hx=>?_,?_,fun e he=>⟨(hin e he).2.1,(hin e he).2.2⟩,fun e he=>(hin e he).1,?_⟩
  · have hx' : x ∈ uUp (l.map fun a => (0, a)) := by rw [<- Qf1]; exact hx
    rw[QfZ fun y hy=>by obtain⟨a,ha,rfl⟩:=List.mem_map.1 hy;exact h a ha]at hx'
    obtain⟨y,hy,hxy⟩:=hx'
    obtain⟨a,ha,rfl⟩:=List.mem_map.1 hy
    exact(h a ha).wf.al5 x hxy
  · exact List.pairwise_lt_range.filter _
  · exact List.mem_range.1 (List.mem_filter.1 hx).1
  · show (sync0 l).2.Pairwise _
    rw[hs.ed]
    exact Qek (fun j=>⟨QgE (QcT h),fun x hx=>(QeB hx).1⟩) _
  · have hbox : box l <= 243 := Nat.le_trans (QkY (fun a ha => (h a ha).n3) (by omega)) (Nat.pow_le_pow_right (n := 3) (by omega) hl)
    have h5:=Qcp h
    refine Nat.le_trans (Qk9 (l:=l) (ev:=evA l)) ?_
    have:=Nat.mul_le_mul (show box l+1<=244 by omega) h5
    simpa using this
theorem out199 (a:Aut) (v:Nat) (h:WfB a) (hv:v<=1000):PSpec Tryz.prog 199 [aV a,.int .i64 (v:Int)] (egsN (sOut a.es (fun _=>true) v)):=by
 have hel:=h.el
 have hs:(froms a.es).Pairwise (· <= ·):=by rw[List.pairwise_map];exact h.srt
 have hb:∀e∈a.es,e.1<=1000000:=fun e he=>by have:=(h.esn e he).1;have:=h.nb;omega
 have f1:=find67 a.es v hs hb (by omega) (by omega)
 have f2:=find67b a.es (v+1) hs hb (by omega) (by omega)
 have e1:((v+1:Nat):Int)=(v:Int)+1:=by omega
 rw[e1]at f2
 have ho:=QkP h.srt v
 have l1:=lb_le (l:=froms a.es) (t:=v+1)
 rw[List.length_map]at l1
 have hm:lbN (froms a.es) v<=lbN (froms a.es) (v+1):=List.countP_mono_left fun x _ hx=>by simp at hx⊢;omega
 generalize (froms a.es).contains v=b1 at*
 generalize (froms a.es).contains (v+1)=b2 at*
 generalize lbN (froms a.es) v=p at*
 generalize lbN (froms a.es) (v+1)=q at*
 have hlen:q-p=(sOut a.es (fun _=>true) v).length:=by rw[<-ho,List.length_take,List.length_drop];omega
 have hpq:(p:Int)<=(q:Int):=by omega
 have hql:(q:Int)<=(a.es.length:Int):=by omega
 refine PSpec.of_rn 64 ok199 rfl (by(try simp only[noRefs,Qae,Qam,Qaf,noRef,noRefs,Bool.and_self,Bool.and_true])<;>rfl) (Qak _) ?_
 simp(disch:=first|omega|exact PairsOK.mk rfl|(simp only[lenW]<;>omega)) only[s199,Qaa,Qac,Qad,wW,wV,simprocAttr]
 refine cp f1 ?_
 simp(disch:=first|omega|exact PairsOK.mk rfl|(simp only[lenW]<;>omega)) only[Qaa,Qac,Qad,wW,wV,simprocAttr]
 refine cp f2 ?_
 simp(disch:=first|omega|exact PairsOK.mk rfl|(simp only[lenW]<;>omega)) only[hpq,hql,Qaa,Qac,Qad,wW,wV,simprocAttr]
 refine⟨.inr trivial,_,rfl,?_⟩
 rw[QfI,QfJ,ho,hlen]
 exact Rn.same (Qak _)
end Go.AM.SO
namespace Go.AM.SO
open Go.Proofs Go.AM.SD Go.AM.SE
theorem state207 (a:Aut) (v:Nat) (h:WfB a) (hv:v<a.n):PSpec Tryz.prog 207 [aV a,.int .i64 (v:Int)] (.int .i64 0):=by
 refine PSpec.Qal 64 TQ.ok207 rfl (by(try simp only[noRefs,Qae,Qam,Qaf,noRef,noRefs,Bool.and_self,Bool.and_true])<;>rfl) rfl ?_
 have hc:=check112B a h
 have g1:¬(v:Int)<0:=by omega
 have g2:¬(a.n:Int)<=(v:Int):=by omega
 simp(disch:=first|omega|exact PairsOK.mk rfl|(simp only[lenW]<;>omega)) only[TQ.s207,Qaa,Qac,Qad,wW,wV,simprocAttr]
 refine cp hc ?_
 simp(disch:=first|omega|exact PairsOK.mk rfl|(simp only[lenW]<;>omega)) only[g1,g2,Qaa,Qac,Qad,wW,wV,simprocAttr]
 exact⟨.inr trivial,_,rfl,rfl⟩
def evO (a:Aut) (v:Nat):List Nat:=(sOut a.es (fun _=>true) v).map (·.2.1)
theorem enabled161 (a:Aut) (v:Nat) (h:WfB a) (hv:v<a.n):PSpec Tryz.prog 161 [aV a,.int .i64 (v:Int)] (.tup [sliN (evO a v),.int .i64 0]):=by
  have hn:=h.nb
  have hno:noRef (.tup [sliN (evO a v),.int .i64 0])=true:=by rw[noRef,noRefs,Qab];rfl
  refine PSpec.of_rn 64 TQ.ok161 rfl (by(try simp only[noRefs,Qae,Qam,Qaf,noRef,noRefs,Bool.and_self,Bool.and_true])<;>rfl) hno ?_
  have hc:=state207 a v h hv
  have ho:=out199 a v h (by omega)
  have hol:(sOut a.es (fun _=>true) v).length<=1220:=Nat.le_trans (List.length_filter_le ..) h.el
  unfold evO at hno⊢
  generalize sOut a.es (fun _=>true) v=o at*
  simp(disch:=first|omega|exact PairsOK.mk rfl|(simp only[lenW]<;>omega)) only[TQ.s161,Qaa,Qac,Qad,wW,wV,simprocAttr]
  refine cp hc ?_
  simp(disch:=first|omega|exact PairsOK.mk rfl|(simp only[lenW]<;>omega)) only[Qaa,Qac,Qad,wW,wV,simprocAttr]
  refine cp ho ?_
  simp(disch:=first|omega|exact PairsOK.mk rfl|(simp only[lenW]<;>omega)) only[Qaa,Qac,Qad,wW,wV,simprocAttr]
  refine Qaj 120 (fun i:Nat=>[(7,.sl 60 0 0 i 1),(18,egsN o),(19,.int .i64 o.length),(20,.int .i64 i)]) (fun i=>[(60,.cells 0 (ints (nz ((o.take i).map (·.2.1)))))]) (fun i=>i<=o.length) (fun i=>o.length-i) 0 0 180 (fun _:Unit=>[(7,sliN (o.map (·.2.1)))]) (fun _=>[]) (fun _=>True) ?_ (Nat.zero_le _) ?_ ?_
  · refine ⟨[(60, .nil)], rfl, au0, ?_, au21⟩
    exact RB.newnil rfl rfl RB.nil
  · rintro i hi
    by_cases hlt:i<o.length
    · obtain ⟨e, he⟩ := Qag hlt
      have hdr:=QaP he
      have hdl:3<=((o.flatMap edC).drop (i*3)).length:=by rw[hdr];simp
      have htl:(ints (nz ((o.take i).map (·.2.1)))).length=i:=by simp[ints];omega
      simp(disch:=first|omega|exact PairsOK.mk rfl|(simp only[lenW]<;>omega)) only[hlt,hdr,hdl,htl,Qaa,Qac,Qad,wW,wV,simprocAttr]
      refine⟨i+1,by omega,by omega,?_⟩
      rw[take_succ' he,List.map_append,QaI,QaB]
      refine⟨[(60,.blk 60 1)],rfl,au0,?_,au21⟩
      exact RB.cells rfl rfl gg (RnL.same (SU.Qas (Qae _) rfl)) RB.nil
    · have e : i = o.length := by omega
      subst e
      simp(disch:=first|omega|exact PairsOK.mk rfl|(simp only[lenW]<;>omega)) only[hlt,List.take_length,Qaa,Qac,Qad,wW,wV,simprocAttr]
      exact⟨(),[],rfl,RO.zero,RB.nil,RT.cons (Rn.fzm (b:=60) (g:=0) gg rfl rfl (by simp) (by simp[ints]) (RnL.same (Qae _))) RT.nil⟩
  rintro _ _
  simp(disch:=first|omega|exact PairsOK.mk rfl|(simp only[lenW]<;>omega)) only[Qaa,Qac,Qad,wW,wV,simprocAttr]
  exact⟨.inr trivial,_,rfl,Rn.same hno⟩
theorem ev262 (x:Ed) (e:Nat):PSpec Tryz.prog 262 [.agg [.int .i64 (x.1:Int),.int .i64 (x.2.1:Int),.int .i64 (x.2.2:Int)],.fptr [.int .i64 (e:Int)]] (.bool (decide (x.2.1=e))):=by
 refine PSpec.Qal 64 TQ.ok262 rfl rfl rfl ?_
 have hd:decide ((x.2.1:Int)=(e:Int))=decide (x.2.1=e):=decide_eq_decide.2 (by omega)
 simp(disch:=first|omega|exact PairsOK.mk rfl|(simp only[lenW]<;>omega)) only[TQ.s262,hd,Qaa,Qac,Qad,wW,wV,simprocAttr]
 exact⟨.inr trivial,_,rfl,rfl⟩
theorem Qg9 {α:Type} {q:α->Bool}:∀l:List α,l.find? q=l[l.findIdx q]?
 |[]=>rfl
 |x::l=>by
  rw[List.find?_cons,List.findIdx_cons]
  cases q x with
  |true=>rfl
  |false=>simpa using Qg9 l
def nxI (a:Aut) (v e:Nat):Int:=match stepA a.es v e with|some t=>(t:Int)|none=> -1
theorem Qo3 (es:List Ed) (v e:Nat):stepA es v e=((sOut es (fun _=>true) v).find? fun x=>decide (x.2.1=e)).map (·.2.2):=by
 unfold stepA sOut
 rw[List.find?_filter]
 congr 2
 funext x
 by_cases h:x.2.1=e<;>by_cases h2:x.1=v<;>simp[h,h2]
theorem next226 (a:Aut) (v e:Nat) (h:WfB a) (hv:v<a.n):PSpec Tryz.prog 226 [aV a,.int .i64 (v:Int),.int .i64 (e:Int)] (.int .i64 (nxI a v e)):=by
  have hn:=h.nb
  refine PSpec.Qal 64 TQ.ok226 rfl (by(try simp only[noRefs,Qae,Qam,Qaf,noRef,noRefs,Bool.and_self,Bool.and_true])<;>rfl) rfl ?_
  have ho:=out199 a v h (by omega)
  have hol:(sOut a.es (fun _=>true) v).length<=1220:=Nat.le_trans (List.length_filter_le ..) h.el
  have hI:=index48 (K:=262) (cap:=[.fptr [.int .i64 (e:Int)]]) (fun x=>decide (x.2.1=e)) (sOut a.es (fun _=>true) v) (by omega) rfl fun x _=>ev262 x e
  unfold nxI
  rw[Qo3]
  generalize sOut a.es (fun _=>true) v=o at*
  rw[Qg9]
  have hq:=@Qdb _ (fun x:Ed=>decide (x.2.1=e)) o
  have hx:idxQ (fun x:Ed=>decide (x.2.1=e)) o= -1/\o[o.findIdx fun x=>decide (x.2.1=e)]?=none\/∃y,idxQ (fun x:Ed=>decide (x.2.1=e)) o=((o.findIdx fun x=>decide (x.2.1=e):Nat):Int)/\o[o.findIdx fun x=>decide (x.2.1=e)]?=some y:=by
    unfold idxQ
    by_cases ha:o.any (fun x=>decide (x.2.1=e))=true
    · rw [if_pos ha]
      obtain⟨y,hy⟩:=Qag (List.findIdx_lt_length_of_exists (p:=fun x:Ed=>decide (x.2.1=e)) (xs:=o) (by simpa using ha))
      exact .inr ⟨y,rfl,hy⟩
    · rw [if_neg ha]
      refine .inl ⟨rfl,List.getElem?_eq_none (Nat.le_of_not_lt fun hlt=>ha ?_)⟩
      rw[List.any_eq_true]
      exact⟨_,List.getElem_mem hlt,List.findIdx_getElem (w:=hlt)⟩
  generalize (o.findIdx fun x=>decide (x.2.1=e))=k at*
  generalize idxQ (fun x:Ed=>decide (x.2.1=e)) o=i at*
  simp(disch:=first|omega|exact PairsOK.mk rfl|(simp only[lenW]<;>omega)) only[TQ.s226,Qaa,Qac,Qad,wW,wV,simprocAttr]
  refine cp ho ?_
  simp(disch:=first|omega|exact PairsOK.mk rfl|(simp only[lenW]<;>omega)) only[Qaa,Qac,Qad,wW,wV,simprocAttr]
  refine SU.chc (HSpec.lend (FrzL.cons (FrzTo.same _) (FrzL.cons (FrzTo.fn FrzL.nil (FrzL.cons (FrzTo.ptr (g:=0) (cs:=[.int .i64 (e:Int)]) gg (FrzL.same _)) FrzL.nil)) FrzL.nil)) hI rfl) ?_
  rcases hx with⟨rfl,hk⟩|⟨y,rfl,hk⟩
  · simp (disch := first | omega | exact PairsOK.mk rfl | (simp only [lenW] <;> omega)) only [Qaa, Qac, Qad, wW, wV, simprocAttr]
    rw[hk]
    exact⟨.inr trivial,_,rfl,rfl⟩
  · have hkl : k < o.length := (List.getElem?_eq_some_iff.1 hk).1
    have g1:¬(k:Int)<0:=by omega
    have hdr:=QaP hk
    simp(disch:=first|omega|exact PairsOK.mk rfl|(simp only[lenW]<;>omega)) only[g1,hkl,hdr,Qaa,Qac,Qad,wW,wV,simprocAttr]
    rw[hk]
    exact⟨.inr trivial,_,rfl,rfl⟩
theorem step208 (a:Aut) (v e:Nat) (h:WfB a) (hv:v<a.n) (he:e∈a.al):PSpec Tryz.prog 208 [aV a,.int .i64 (v:Int),.int .i64 (e:Int)] (.tup [.int .i64 (((stepA a.es v e).getD 0:Nat):Int),.bool (stepA a.es v e).isSome,.int .i64 0]):=by
 refine PSpec.Qal 64 TQ.ok208 rfl (by(try simp only[noRefs,Qae,Qam,Qaf,noRef,noRefs,Bool.and_self,Bool.and_true])<;>rfl) rfl ?_
 have hal:=Qbq h.al h.al5
 have hc:=state207 a v h hv
 have hC:=contains62 (nz a.al) (e:Int) (by simp;omega)
 have hm:decide ((e:Int)∈nz a.al)=true:=decide_eq_true (List.mem_map.2 ⟨e,he,rfl⟩)
 rw[hm,Qb2]at hC
 have hN:=next226 a v e h hv
 unfold nxI at hN
 simp(disch:=first|omega|exact PairsOK.mk rfl|(simp only[lenW]<;>omega)) only[TQ.s208,Qaa,Qac,Qad,wW,wV,simprocAttr]
 refine cp hc ?_
 simp(disch:=first|omega|exact PairsOK.mk rfl|(simp only[lenW]<;>omega)) only[Qaa,Qac,Qad,wW,wV,simprocAttr]
 refine cp hC ?_
 simp(disch:=first|omega|exact PairsOK.mk rfl|(simp only[lenW]<;>omega)) only[Qaa,Qac,Qad,wW,wV,simprocAttr]
 refine cp hN ?_
 cases hs:stepA a.es v e with
 |none=>
  simp(disch:=first|omega|exact PairsOK.mk rfl|(simp only[lenW]<;>omega)) only[Qaa,Qac,Qad,wW,wV,simprocAttr]
  exact⟨.inr trivial,_,rfl,rfl⟩
 |some t=>
  have g:(0:Int)<=(t:Int):=by omega
  simp(disch:=first|omega|exact PairsOK.mk rfl|(simp only[lenW]<;>omega)) only[g,Qaa,Qac,Qad,wW,wV,simprocAttr]
  exact⟨.inr trivial,_,rfl,rfl⟩
end Go.AM.SO
namespace Go.AM.SO
open Go.Proofs Go.AM.SD Go.AM.SE
theorem QqT {l:List Aut} {Q:List Nat->Prop} {i e:Nat} {t:List Nat} {s:List (List Nat)×List Ed} (hs:∀n,stepT l t e=some n->Q n) (h:∀x∈s.1,Q x):∀x∈(pEv l i t s e).1,Q x:=by
 grind [pEv]
theorem Qlb {l:List Aut} {Q:List Nat->Prop} {i:Nat} {t:List Nat}:∀{ev:List Nat} {s:List (List Nat)×List Ed},(∀e∈ev,∀n,stepT l t e=some n->Q n)->(∀x∈s.1,Q x)->∀x∈(pRow l ev i t s).1,Q x
 |[],s,_,h=>h
 |e::ev,s,hs,h=>Qlb (ev:=ev) (s:=pEv l i t s e) (fun e' he'=>hs e' (by simp[he'])) (QqT (fun n=>hs e (by simp) n) h)
theorem Qo4 {l:List Aut} {ev:List Nat} {Q:List Nat->Prop} (hq:∀t,Q t->∀e∈ev,∀n,stepT l t e=some n->Q n):∀{k i:Nat} {s:List (List Nat)×List Ed},(∀x∈s.1,Q x)->∀x∈(pQ l ev k i s).1,Q x
 |0,_,_,h=>h
 |k+1,i,s,h=>by
  unfold pQ
  cases hs:s.1[i]? with
  |none=>exact h
  |some t=>exact Qo4 hq (Qlb (hq t (h t (List.mem_of_getElem? hs))) h)
theorem Qno {A B:List Aut} {t n:List Nat} {e:Nat} (hl:(A++B).length<=t.length) (h:stepT (A++B) t e=some n):stepT A (t.take A.length) e=some (n.take A.length):=by
 obtain⟨h1,h2,h3⟩:=(Qe0 hl).1 h
 rw[List.length_append]at hl
 refine(Qe0 (by grind)).2 ⟨by simp_all,fun i hi=>?_,fun i a hi ha=>?_⟩
 ·grind
 ·have h4 := h3 i a (by grind) (by grind)
  simp_all
theorem QdF {l:List Aut} (h:∀a∈l,WfI a) {e:Nat}:e∈evA l↔∃a∈l,e∈a.al:=by
 rw[Qf1,QfZ (fun y hy=>by grind)]
 constructor
 ·grind
 ·rintro⟨a,ha,hx⟩;exact⟨_,List.mem_map.2 ⟨a,ha,rfl⟩,hx⟩
theorem QmK {c:Cel} (h:WfCel c) {e:Nat} (he:e∈evA (allA c)):e∈evA (auL c.cs):=by
 have hA:=QaN h
 obtain⟨a,ha,hea⟩:=(QdF (Qa9 h)).1 he
 rcases List.mem_append.1 (show a∈auL c.cs++auL c.rs from ha)with ha|ha
 ·grind [QdF]
 ·obtain ⟨x, hx, rfl⟩ := List.mem_map.1 ha
  obtain⟨y,hy,hey⟩:=h.rsub x hx e hea
  exact(QdF hA).2 ⟨y.2,List.mem_map.2 ⟨y,hy,rfl⟩,hey⟩
theorem QeC {c:Cel} (h:WfCel c):∀t∈(sync0 (allA c)).1,InT (allA c) t/\t.take c.cs.length∈(sync0 (auL c.cs)).1:=by
 have hA:=QaN h
 have hall:=Qa9 h
 have hs:=QcK (fun a ha=>(hA a ha).pos) (fun a ha=>(hA a ha).wf.esn)
 have hok:=Qe2 (l:=allA c) (fun a ha=>(hall a ha).pos)
 show ∀t∈(pQ (allA c) (evA (allA c)) (box (allA c)+1) 0 ([List.replicate (allA c).length 0],[])).1,_
 refine Qo4 (Q:=fun t=>InT (allA c) t/\t.take c.cs.length∈(sync0 (auL c.cs)).1) ?_ ?_
 ·rintro t ⟨ht, hp⟩ e he n hn
  refine⟨Qe1 (fun a ha=>(hall a ha).wf.esn) ht hn,?_⟩
  have hst:=Qno (A:=auL c.cs) (B:=auL c.rs) (Nat.le_of_eq ht.1.symm) hn
  rw[QaS]at hst
  exact hs.cl _ _ (QhU hp) (Qiq hp) e (QmK h he) _ hst
 ·intro x hx
  have hx:x=List.replicate (allA c).length 0:=by simpa using hx
  subst hx
  refine⟨hok.inT _ (by simp),?_⟩
  have:(List.replicate (allA c).length 0).take c.cs.length=List.replicate (auL c.cs).length 0:=by
   simp_all [Qba]
  rw[this]
  exact sync_pre.subset (by simp)
theorem QhV {β:Type} {R:Nat->List β} {j:Nat}:∀{n:Nat},j<n->(List.range n).flatMap (fun x=>if x=j then R x else[])=R j
 |0,h=>absurd h (Nat.not_lt_zero _)
 | n + 1, h => by
  rw[List.range_succ,List.flatMap_append,List.flatMap_cons,List.flatMap_nil,List.append_nil]
  by_cases e:n=j
  ·subst e
   rw[if_pos rfl]
   have:∀{m:Nat},m<=n->(List.range m).flatMap (fun x=>if x=n then R x else[])=[]:=fun{m} hm=>by
    rw[List.flatMap_eq_nil_iff]
    grind
   grind
  ·rw[if_neg e,List.append_nil,QhV (by omega)]
def evS (l:List Aut) (t:List Nat):List Nat:=(evA l).filter fun e=>(stepT l t e).isSome
theorem QmL {l:List Aut} {T:List (List Nat)} {j:Nat} {t:List Nat}:∀{ev:List Nat},(rowE l ev T j t).map (·.2.1)=ev.filter fun e=>(stepT l t e).isSome
 |[]=>rfl
 |e::ev=>by
  have ih:=QmL (l:=l) (T:=T) (j:=j) (t:=t) (ev:=ev)
  unfold rowE at ih⊢
  rw[List.filterMap_cons,List.filter_cons]
  cases hs:stepT l t e with
  |none=>exact ih
  |some n=>simpa using ih
theorem Qo5 {l:List Aut} (h:∀a∈l,WfI a) {j:Nat} {t:List Nat} (hj:(sync0 l).1[j]?=some t):sOut (syncA l).es (fun _=>true) j=rowE l (evA l) (sync0 l).1 j t:=by
 have hs:=QcK (fun a ha=>(h a ha).pos) (fun a ha=>(h a ha).wf.esn)
 have hlt:j<(sync0 l).1.length:=(List.getElem?_eq_some_iff.1 hj).1
 unfold sOut
 show(sync0 l).2.filter _=_
 rw[hs.ed,List.filter_flatMap]
 have hg:(sync0 l).1.getD j []=t:=by simp_all
 rw[<-hg,<-QhV (R:=fun x=>rowE l (evA l) (sync0 l).1 x ((sync0 l).1.getD x [])) hlt]
 refine flatMap_congr' fun x hx=>?_
 by_cases e:x=j
 ·rw [if_pos e]
  refine List.filter_eq_self.2 fun y hy=>?_
  have:=(QeB hy).1
  simp[this,e]
 ·rw [if_neg e]
  refine List.filter_eq_nil_iff.2 fun y hy=>?_
  have:=(QeB hy).1
  simp[this,e]
theorem Qlc {l:List Aut} (h:∀a∈l,WfI a) {j:Nat} {t:List Nat} (hj:(sync0 l).1[j]?=some t):evO (syncA l) j=evS l t:=by
 unfold evO evS
 rw[Qo5 h hj,QmL]
theorem Qld {A B:List Aut} {t:List Nat} (h:InT (A++B) t):InT A (t.take A.length):=by
 refine⟨by rw[List.length_take,h.1,List.length_append];omega,fun i a ha=>?_⟩
 have hi:i<A.length:=(List.getElem?_eq_some_iff.1 ha).1
 have:=h.2 i a (by grind)
 simp_all
theorem Qle {A B:List Aut} {t:List Nat} (h:InT (A++B) t):InT B (t.drop A.length):=by
 refine⟨by rw[List.length_drop,h.1,List.length_append];omega,fun i a ha=>?_⟩
 have:=h.2 (A.length+i) a (by grind)
 simp_all
end Go.AM.SO
namespace Go.AM.TS
open Go.Proofs
set_option maxHeartbeats 4000000
noncomputable section
def cf:YA.Cf:={most:= .pure,always:=[48,52,75,76,115,120].map fun k=>(k,.heap),value:= .pure}
def s19:SFn:=by
 refine(?f:YA.Yt Tryz.prog cf 19 [[0,4],[1,18,19,17,20,21],[22],[5,23,24,25],[23,26,27,28,29,30],[31],[5,6,32,33],[32,34,35,36,37,38,39,40,41,42,43,44,45,46,47,48,49,50,51,52,53,54],[55,56,57],[],[61,62,63,64],[8,66,67,68,65,69,70],[72,73,74,75,76,77,71,78,79,80,81,11,12,14],[13],[82,83,84,85,86],[9,82,87,88,89,90,91,92,93],[10,15,94,95,96],[3,4,5,58,59,60,97,98,99],[2,6,7,16,100,101,102,103,104,105,106,107,108],[7,97,109],[4,5,58,59,60,110,111,112],[6,113,114,115,116,117]] [(14,[(6,19)]),(0,[(0,4)])]) ?s ?h
 case h=>exact YA.rr
 exact fun s _=>s
def s44:SFn:=by
 refine(?f:YA.Yt Tryz.prog cf 44 [[0,2,9],[20],[],[24,25,26,27],[11,28,29,30,31],[1,3,4,6,21,22,23,92,91,90,89,87,88,86,10,32,33,34,35],[9,10,32,36],[21,22,23,37],[],[41,42,43,44],[],[45],[],[49,50,51],[16,52,53,54,55,56,57,58,59,60,61],[62],[13,14,46,47,48,63,64,65],[1,3,4,6,92,91,90,89,87,88,86,38,39,40,12,66,67,68,69],[9,12,66,70],[6,38,39,40,71,72],[],[76,77,78],[79,80,81,82],[83,84,85],[1,3,4,92,91,90,89,87,88,86,73,74,75,18,19,93,94,95,96,97],[9,18,19,93,98],[1,3,4,92,91,90,89,87,88,86,73,74,75,99]]) ?s ?h
 case h=>exact YA.rr
 exact fun s _=>s
def s46:SFn:=by
 refine(?f:YA.Yt Tryz.prog cf 46 [[0,4],[1,2,8,9,10,11,12,7,13,14,6],[5,15]]) ?s ?h
 case h=>exact YA.rr
 exact fun s _=>s
def s47:SFn:=by
 refine(?f:YA.Yt Tryz.prog cf 47 [[0,1,2,6],[3,4,5,7,8,9,10]]) ?s ?h
 case h=>exact YA.rr
 exact fun s _=>s
def s116:SFn:=by
 refine(?f:YA.Yt Tryz.prog cf 116 [[0,3],[1,2,4,5,6,7,8,9,10,11]]) ?s ?h
 case h=>exact YA.rr
 exact fun s _=>s
def s117:SFn:=by
 refine(?f:YA.Yt Tryz.prog cf 117 [[4,5],[13,14,15],[16],[0,1,6,17,18],[4,5,0,6,17,19,20],[],[21],[],[25,26,27],[29,30,31,32,28,33,34,11],[12],[10,35,36,37,38,39],[10,35,40],[1,7,8,22,23,24,41]]) ?s ?h
 case h=>exact YA.rr
 exact fun s _=>s
def s118:SFn:=by
 refine(?f:YA.Yt Tryz.prog cf 118 [[0,5],[1,7,8,9,10],[11,12,13,14,15],[2,3,4,6,16],[2,3,4,6,16,17,18,19,20,21,22]]) ?s ?h
 case h=>exact YA.rr
 exact fun s _=>s
def s119:SFn:=by
 refine(?f:YA.Yt Tryz.prog cf 119 [[0,3],[1,2,4,5,6,7,8]]) ?s ?h
 case h=>exact YA.rr
 exact fun s _=>s
def s120:SFn:=by
 refine(?f:YA.Yt Tryz.prog cf 120 [[4],[0,1,5,6,7,8]]) ?s ?h
 case h=>exact YA.rr
 exact fun s _=>s
def s121:SFn:=by
 refine(?f:YA.Yt Tryz.prog cf 121 [[0,5],[1,2,3,4,6,7,8,9,10,11,12,13,14,15,16,17,18]]) ?s ?h
 case h=>exact YA.rr
 exact fun s _=>s
def s196:SFn:=by
 refine(?f:YA.Yt Tryz.prog cf 196 [[4],[8,9],[10],[0,1,5,11,12],[4,5,11,13,14,15,16],[0,1,17],[4,0,17],[],[21,22,23,24],[7,6,25,26,27,28,29,30],[1,18,19,20,37,34,36,35,33,31,32,38],[4,38,39],[1,18,19,20,37,34,36,35,33,31,32]]) ?s ?h
 case h=>exact YA.rr
 exact fun s _=>s
theorem ok19:okFn Tryz.prog 19 s19=true:=by kernel_rfl
theorem ok44:okFn Tryz.prog 44 s44=true:=by kernel_rfl
theorem ok46:okFn Tryz.prog 46 s46=true:=by kernel_rfl
theorem ok47:okFn Tryz.prog 47 s47=true:=by kernel_rfl
theorem ok116:okFn Tryz.prog 116 s116=true:=by kernel_rfl
theorem ok117:okFn Tryz.prog 117 s117=true:=by kernel_rfl
theorem ok118:okFn Tryz.prog 118 s118=true:=by kernel_rfl
theorem ok119:okFn Tryz.prog 119 s119=true:=by kernel_rfl
theorem ok120:okFn Tryz.prog 120 s120=true:=by kernel_rfl
theorem ok121:okFn Tryz.prog 121 s121=true:=by kernel_rfl
theorem ok196:okFn Tryz.prog 196 s196=true:=by kernel_rfl
end
end Go.AM.TS
namespace Go.AM.SO
open Go.Proofs Go.AM.SD Go.AM.SE
theorem _root_.Go.AM.au23 {p:Prop} (h:p:=by repeat' (first|exact RB.nil|(refine RnL.same ?_;first|rfl|(simp only[noRef,noRefs,Qai,Bool.and_self,Bool.and_true,Bool.true_and,Qae,Qau,Qab,Qak,QaH,Qaf,SU.Qbe];done))|exact RnM.keyM rfl|exact RnL.nil|exact(True.intro:RnM _ _ _ [] [])|refine RnL.cons ?_ ?_|(refine Rn.same ?_;first|rfl|(simp only[noRef,noRefs,Qai,Bool.and_self,Bool.and_true,Bool.true_and,Qae,Qau,Qab,Qak,QaH,Qaf,SU.Qbe];done))|exact Rn.x1 rfl rfl|exact Rn.x2 rfl rfl|exact Rn.x3 rfl rfl|exact Rn.x4 rfl rfl|exact Rn.x5 rfl|exact Rn.x6 rfl|exact Rn.x7 rfl|refine RB.newnil rfl rfl ?_|refine RB.cells rfl rfl rfl ?_ ?_|refine RB.map rfl rfl rfl ?_ ?_|refine RB.cellsB rfl rfl ?_ ?_|refine RB.mapB rfl rfl ?_ ?_)):p:=h
theorem tuple196 (l:List Aut) (h:∀a∈l,WfI a) (hl:l.length<=12) {t:List Nat} (ht:InT l t):PSpec Tryz.prog 196 [auts l,sliN t] (.int .i64 0):=by
  refine PSpec.Qal 64 TS.ok196 rfl (by rw[noRefs,QaL,noRefs,Qab];rfl) rfl ?_
  have hna:=QaL l
  have hal:=Qcs l
  have hc:=check95 l h hl
  have hE2:((t.length:Int)=(l.length:Int))=True:=eq_true (by rw[ht.1])
  simp(disch:=first|omega|exact PairsOK.mk rfl|(simp only[lenW]<;>omega)) only[TS.s196,Qaa,Qac,Qad,wW,wV,simprocAttr]
  refine cp hc ?_
  simp(disch:=first|omega|exact PairsOK.mk rfl|(simp only[lenW]<;>omega)) only[hE2,Qaa,Qac,Qad,wW,wV,simprocAttr]
  refine Qaj 100 (fun i:Nat=>[(1,sliN t),(18,auts l),(19,.int .i64 l.length),(20,.int .i64 i)]) (fun _=>[]) (fun i=>i<=l.length) (fun i=>l.length-i) 0 0 160 (fun _:Unit=>[]) (fun _=>[]) (fun _=>True) ?_ (Nat.zero_le _) ?_ ?_
  · exact⟨[],rfl,RO.zero,RB.nil,RT.cons (Rn.same (Qab _)) (RT.cons (Rn.same hna) au21)⟩
  · rintro i hi
    by_cases hlt:i<l.length
    · obtain ⟨a, ha⟩ := Qag hlt
      obtain⟨x,hx⟩:=Qag (l:=t) (i:=i) (by rw[ht.1];exact hlt)
      have hdr:=Qda ha
      have hdl:4<=((l.flatMap auC).drop (i*4)).length:=by rw[hdr];simp
      have hxa:=ht.2 i a ha
      rw[List.getD_eq_getElem?_getD,hx]at hxa
      have hxa:x<a.n:=hxa
      have hlt':i<t.length:=by rw[ht.1];exact hlt
      have g1:¬(x:Int)<0:=by omega
      have g2:¬(a.n:Int)<=(x:Int):=by omega
      simp(disch:=first|omega|exact PairsOK.mk rfl|(simp only[lenW]<;>omega)) only[hlt,hlt',hdr,hdl,Qaz hx,g1,g2,Qaa,Qac,Qad,wW,wV,simprocAttr]
      refine⟨i+1,by omega,by omega,?_⟩
      exact⟨[],rfl,RO.zero,RB.nil,RT.cons (Rn.same (Qab _)) (RT.cons (Rn.same hna) au21)⟩
    · simp (disch := first | omega | exact PairsOK.mk rfl | (simp only [lenW] <;> omega)) only [hlt, Qaa, Qac, Qad, wW, wV, simprocAttr]
      exact⟨(),⟨[],rfl,au0,au23,au21⟩⟩
  rintro _ _
  simp(disch:=first|omega|exact PairsOK.mk rfl|(simp only[lenW]<;>omega)) only[Qaa,Qac,Qad,wW,wV,simprocAttr]
  exact⟨.inr trivial,_,rfl,rfl⟩
theorem Qha {q:Nat->Bool} {l:List Nat} {i x:Nat} (hx:l[i]?=some x):(l.take (i+1)).filter q=(l.take i).filter q++(if q x then[x]else[]):=by
 rw[take_succ' hx,List.filter_append,List.filter_cons];cases q x<;>rfl
theorem enabled117 (l : List Aut) (h : ∀ a ∈ l, WfI a) (h0 : 0 < l.length) (hl : l.length <= 12) {t : List Nat} (ht : InT l t) : PSpec Tryz.prog 117 [auts l, sliN t] (.tup [sliN (evS l t), .int .i64 0]) := by
  have hno:noRef (.tup [sliN (evS l t),.int .i64 0])=true:=by rw[noRef,noRefs,Qab];rfl
  refine PSpec.of_rn 64 TS.ok117 rfl (by rw[noRefs,QaL,noRefs,Qab];rfl) hno ?_
  have hna:=QaL l
  have hc:=tuple196 l h hl ht
  have hop:=open96 l h hl
  have hst:=fun e=>step100 l t e h h0 hl ht.1
  have hev:=Qcp h
  have hnm:=Qch l
  unfold evS at hno⊢
  simp(disch:=first|omega|exact PairsOK.mk rfl|(simp only[lenW]<;>omega)) only[TS.s117,Qaa,Qac,Qad,wW,wV,simprocAttr]
  refine cp hc ?_
  simp(disch:=first|omega|exact PairsOK.mk rfl|(simp only[lenW]<;>omega)) only[Qaa,Qac,Qad,wW,wV,simprocAttr]
  refine cp hop ?_
  rw[macV]at*
  have hem:(AV.fsl (l.map emV) l.length 1).one=true:=rfl
  have hem2:(AV.fsl (l.map emV) l.length 1).cells=[AV.fsl (l.map emV) l.length 1]:=rfl
  have hnmm:noRefs [auts l,sliN (evA l),.fsl (l.map emV) l.length 1]=true:=QcU l
  simp(disch:=first|omega|exact PairsOK.mk rfl|(simp only[lenW]<;>omega)) only[Qaa,Qac,Qad,wW,wV,simprocAttr]
  refine Qaj 100 (fun i:Nat=>[(1,sliN t),(7,.ptr 51 0 0),(8,.sl 60 0 0 (((evA l).take i).filter fun e=>(stepT l t e).isSome).length 1),(22,sliN (evA l)),(23,.int .i64 (evA l).length),(24,.int .i64 i)]) (fun i=>[(51,.cells 0 [auts l,sliN (evA l),.fsl (l.map emV) l.length 1]),(60,.cells 0 (ints (nz (((evA l).take i).filter fun e=>(stepT l t e).isSome))))]) (fun i=>i<=(evA l).length) (fun i=>(evA l).length-i) 0 0 160 (fun _:Unit=>[(8,sliN ((evA l).filter fun e=>(stepT l t e).isSome))]) (fun _=>[]) (fun _=>True) ?_ (Nat.zero_le _) ?_ ?_
  · refine ⟨[(51, .blk 74 0), (60, .nil)], rfl, au0, ?_, au21⟩
    exact RB.cells rfl rfl gg (RnL.same hnmm) (RB.newnil rfl rfl RB.nil)
  · rintro i hi
    by_cases hlt:i<(evA l).length
    · obtain ⟨e, he⟩ := Qag hlt
      have hsu:=Qha (q:=fun e=>(stepT l t e).isSome) he
      have hfl:(((evA l).take i).filter fun e=>(stepT l t e).isSome).length<=i:=Nat.le_trans (List.length_filter_le ..) (by rw[List.length_take];omega)
      have hS:=hst e
      have hil:(ints (nz (((evA l).take i).filter fun e=>(stepT l t e).isSome))).length=(((evA l).take i).filter fun e=>(stepT l t e).isSome).length:=by simp[ints]
      simp(disch:=first|omega|exact PairsOK.mk rfl|(simp only[lenW]<;>omega)) only[hlt,Qaz he,Qaa,Qac,Qad,wW,wV,simprocAttr]
      refine cp hS ?_
      cases hs:stepT l t e with
      | none =>
        rw[hs]at hsu
        simp only[Option.isSome_none,Bool.false_eq_true,if_false,List.append_nil]at hsu
        simp(disch:=first|omega|exact PairsOK.mk rfl|(simp only[lenW]<;>omega)) only[stV,Qaa,Qac,Qad,wW,wV,simprocAttr]
        refine⟨i+1,by omega,by omega,?_⟩
        rw[hsu]
        refine⟨[(51,.blk 51 0),(60,.blk 60 0)],rfl,au0,?_,au21⟩
        exact RB.cells rfl rfl gg (RnL.same hnmm) (RB.cells rfl rfl gg (RnL.same (Qae _)) RB.nil)
      | some n =>
        rw[hs]at hsu
        simp only[Option.isSome_some,if_true]at hsu
        simp(disch:=first|omega|exact PairsOK.mk rfl|(simp only[lenW]<;>omega)) only[stV,hil,Qaa,Qac,Qad,wW,wV,simprocAttr]
        refine⟨i+1,by omega,by omega,?_⟩
        rw[hsu,List.length_append,QaI,QaB]
        refine⟨[(51,.blk 51 0),(60,.blk 60 1)],rfl,au0,?_,au21⟩
        exact RB.cells rfl rfl gg (RnL.same hnmm) (RB.cells rfl rfl gg (RnL.same (SU.Qas (Qae _) rfl)) RB.nil)
    · have e : i = (evA l).length := by omega
      subst e
      simp(disch:=first|omega|exact PairsOK.mk rfl|(simp only[lenW]<;>omega)) only[hlt,List.take_length,Qaa,Qac,Qad,wW,wV,simprocAttr]
      exact⟨(),[],rfl,RO.zero,RB.nil,RT.cons (Rn.fzm (b:=60) (g:=0) gg rfl rfl rfl (by simp[ints]) (RnL.same (Qae _))) RT.nil⟩
  rintro _ _
  simp(disch:=first|omega|exact PairsOK.mk rfl|(simp only[lenW]<;>omega)) only[Qaa,Qac,Qad,wW,wV,simprocAttr]
  exact⟨.inr trivial,_,rfl,Rn.same hno⟩
theorem possible46 (c:Cel) (h:WfCel c) {t:List Nat} (ht:InT (auL c.cs) t):PSpec Tryz.prog 46 [celV c,sliN t] (sliN (evS (auL c.cs) t)):=by
 have hnr:=Qbf c
 refine PSpec.of_rn 64 TS.ok46 rfl (by rw[noRefs,SU.Qa8,noRefs,Qab];rfl) (Qab _) ?_
 have h0:=h.c0
 have h3:=h.c3
 have hA:=automata29 (ch:=99) c.cs (by omega)
 have hE:=enabled117 (auL c.cs) (QaN h) (by rw[QaS];exact h0) (by rw[QaS];omega) ht
 simp(disch:=first|omega|exact PairsOK.mk rfl|(simp only[lenW]<;>omega)) only[TS.s46,Qaa,Qac,Qad,wW,wV,simprocAttr]
 refine cp hA ?_
 simp(disch:=first|omega|exact PairsOK.mk rfl|(simp only[lenW]<;>omega)) only[Qaa,Qac,Qad,wW,wV,simprocAttr]
 refine cp hE ?_
 simp(disch:=first|omega|exact PairsOK.mk rfl|(simp only[lenW]<;>omega)) only[Qaa,Qac,Qad,wW,wV,simprocAttr]
 exact⟨.inr trivial,_,rfl,Rn.same (Qab _)⟩
end Go.AM.SO
namespace Go.AM.SO
open Go.Proofs Go.AM.SD Go.AM.SE
theorem Qdr (c:Cel):noRef (.fptr (stC c))=true:=by rw[noRef,stC];exact Qec _ _ _ _ _
theorem QbG {t:List Nat} {n:Nat}:(ints (nz t)).take n=ints (nz (t.take n)):=by simp[ints,nz,List.map_take]
theorem Qby {t:List Nat} {n:Nat}:(ints (nz t)).drop n=ints (nz (t.drop n)):=by simp[ints,nz,List.map_drop]
theorem QlN {cs:List AV} {len sz:Nat} {k k2:IntKind} {b m:Int} (h:0<b):aSliceC (some sz) (.fsl cs len sz) none (some (.int k b)) (some (.int k2 m))=
  if b<=m/\m<=len then some (.fsl (cs.take (b.toNat*sz)) b.toNat sz)else none:=by
 have e:¬((0:Int)=0/\b=0/\m=0):=by omega
 have e2:(0:Int)<=b:=by omega
 simp only[aSliceC,if_true,aSlice,bnd,Int.le_refl,true_and,e2,Int.toNat_zero,Nat.zero_mul,List.drop_zero,Nat.sub_zero]
 rw[if_neg (by omega)]
theorem split71 (c:Cel) (t:List Nat) (h0:0<c.cs.length) (h:c.cs.length<=t.length):PSpec Tryz.prog 71 [.fptr (stC c),sliN t] (.tup [sliN (t.take c.cs.length),sliN (t.drop c.cs.length)]):=by
 have hno:noRef (.tup [sliN (t.take c.cs.length),sliN (t.drop c.cs.length)])=true:=by rw[noRef,noRefs,noRefs,Qab,Qab];rfl
 refine PSpec.of_rn 64 TQ.ok71 rfl (by rw[noRefs,Qdr,noRefs,Qab];rfl) hno ?_
 have hs:=Qdr c
 rw[stC]at hs⊢
 generalize syncA (auL c.cs)=p at*
 generalize syncA (allA c)=q at*
 generalize (sync0 (auL c.cs)).1=P at*
 generalize (sync0 (allA c)).1=T at*
 have hle:(c.cs.length:Int)<=(t.length:Int):=by omega
 have hl0:(0:Int)<(c.cs.length:Int):=by omega
 have htd:(t.drop c.cs.length).take (t.length-c.cs.length)=t.drop c.cs.length:=List.take_of_length_le (by rw[List.length_drop];exact Nat.le_refl _)
 have hml:min c.cs.length t.length=c.cs.length:=Nat.min_eq_left h
 simp(disch:=first|omega|exact PairsOK.mk rfl|(simp only[lenW]<;>omega)) only[TQ.s71,hle,QlN,QbG,Qby,htd,Qaa,Qac,Qad,wW,wV,simprocAttr]
 refine⟨.inr trivial,_,rfl,?_⟩
 have e1:sliN (t.take c.cs.length)= .fsl (ints (nz (t.take c.cs.length))) c.cs.length 1:=by rw[sliN,List.length_take,hml]
 have e2:sliN (t.drop c.cs.length)= .fsl (ints (nz (t.drop c.cs.length))) (t.length-c.cs.length) 1:=by rw[sliN,List.length_drop]
 rw[e1,e2]at hno⊢
 exact Rn.same hno
def rfQ (c:Cel) (r:List Nat) (e:Nat) (i:Nat):Bool:=match c.rs[i]? with
 |some y=>y.2.al.contains e&&(stepA y.2.es (r.getD i 0) e).isNone
 |none=>false
def rfI (c:Cel) (r:List Nat) (e:Nat):Int:=idxQ (rfQ c r e) (List.range c.rs.length)
theorem refuser162 (c : Cel) (hw : WfCel c) (r : List Nat) (e : Nat) (hr : r.length = c.rs.length) (hrn : ∀ (i : Nat) y, c.rs[i]? = some y -> r.getD i 0 < y.2.n) : PSpec Tryz.prog 162 [.fptr (stC c), sliN r, .int .i64 (e : Int)] (.int .i64 (rfI c r e)) := by
  refine PSpec.Qal 64 TQ.ok162 rfl (by rw[noRefs,Qdr,noRefs,Qab];rfl) rfl ?_
  have hr2:=hw.r2
  rw[stC]
  generalize syncA (auL c.cs)=p at*
  generalize syncA (allA c)=q at*
  generalize (sync0 (auL c.cs)).1=P at*
  generalize (sync0 (allA c)).1=T at*
  have hni:=@SU.Qaq 114 c.rs
  simp(disch:=first|omega|exact PairsOK.mk rfl|(simp only[lenW]<;>omega)) only[TQ.s162,Qaa,Qac,Qad,wW,wV,simprocAttr]
  refine Qaj 100 (fun i:Nat=>[(1,sliN r),(2,.int .i64 (e:Int)),(16,its 114 c.rs),(17,.int .i64 c.rs.length),(18,.int .i64 i)]) (fun _=>[]) (fun i=>i<=c.rs.length/\∀(j:Nat) y,j<i->(List.range c.rs.length)[j]?=some y->rfQ c r e y=false) (fun i=>c.rs.length-i) 0 0 200 (fun _:Unit=>[]) (fun _=>[]) (fun _=>∀x∈List.range c.rs.length,rfQ c r e x=false) ?_ ⟨Nat.zero_le _,fun j y hj=>absurd hj (Nat.not_lt_zero _)⟩ ?_ ?_
  · exact⟨[],rfl,RO.zero,RB.nil,RT.cons (Rn.same (Qab _)) (RT.cons (Rn.same rfl) (RT.cons (Rn.same hni) au21))⟩
  · rintro i ⟨hi, hb⟩
    by_cases hlt:i<c.rs.length
    · obtain ⟨x, hx⟩ := Qag hlt
      have hwi:=hw.ra x (List.mem_of_getElem? hx)
      have hdr:=SU.QcJ (ch:=114) hx
      have hdl:5<=((c.rs.flatMap (itC 114)).drop (i*5)).length:=by rw[hdr];simp
      have hri:i<r.length:=by omega
      obtain⟨v,hv⟩:=Qag hri
      have hvd:r.getD i 0=v:=by rw[List.getD_eq_getElem?_getD,hv];rfl
      have hvn:=hrn i x hx
      rw[hvd]at hvn
      have hri2:(List.range c.rs.length)[i]?=some i:=by simp[hlt]
      have hC:=has189 x.2.al e hwi.wf.al (by have:=Qey hwi.wf;omega)
      have hqi:rfQ c r e i=(x.2.al.contains e&&(stepA x.2.es v e).isNone):=by unfold rfQ;rw[hx];dsimp only;rw[hvd]
      have hnx:∀q:rfQ c r e i=false,i+1<=c.rs.length/\∀(j:Nat) y,j<i+1->(List.range c.rs.length)[j]?=some y->rfQ c r e y=false:=fun q=>⟨by omega,fun j y hj hy=>by
        by_cases e2:j=i
        · subst e2;rw[hri2]at hy;cases hy;exact q
        · exact hb j y (by omega) hy⟩
      cases hq:x.2.al.contains e
      · rw [hq, Bool.false_and] at hqi
        rw[hq]at hC
        simp(disch:=first|omega|exact PairsOK.mk rfl|(simp only[lenW]<;>omega)) only[hlt,hdr,hdl,Qaa,Qac,Qad,wW,wV,simprocAttr]
        refine cp hC ?_
        simp(disch:=first|omega|exact PairsOK.mk rfl|(simp only[lenW]<;>omega)) only[Qaa,Qac,Qad,wW,wV,simprocAttr]
        refine⟨i+1,by omega,hnx hqi,?_⟩
        exact⟨[],rfl,RO.zero,RB.nil,RT.cons (Rn.same (Qab _)) (RT.cons (Rn.same rfl) (RT.cons (Rn.same hni) au21))⟩
      · have hS := step208 x.2 v e hwi.b hvn (List.contains_iff_mem.1 hq)
        rw[hq,Bool.true_and]at hqi
        rw[hq]at hC
        simp(disch:=first|omega|exact PairsOK.mk rfl|(simp only[lenW]<;>omega)) only[hlt,hdr,hdl,Qaa,Qac,Qad,wW,wV,simprocAttr]
        refine cp hC ?_
        simp(disch:=first|omega|exact PairsOK.mk rfl|(simp only[lenW]<;>omega)) only[hri,Qaz hv,Qaa,Qac,Qad,wW,wV,simprocAttr]
        refine cp hS ?_
        cases hst:stepA x.2.es v e with
        | none =>
          rw[hst]at hqi
          simp(disch:=first|omega|exact PairsOK.mk rfl|(simp only[lenW]<;>omega)) only[Qaa,Qac,Qad,wW,wV,simprocAttr]
          refine⟨.inr trivial,_,rfl,?_⟩
          unfold rfI
          rw[Qco hri2 hqi hb];rfl
        | some t =>
          rw[hst]at hqi
          simp(disch:=first|omega|exact PairsOK.mk rfl|(simp only[lenW]<;>omega)) only[Qaa,Qac,Qad,wW,wV,simprocAttr]
          refine⟨i+1,by omega,hnx hqi,?_⟩
          exact⟨[],rfl,RO.zero,RB.nil,RT.cons (Rn.same (Qab _)) (RT.cons (Rn.same rfl) (RT.cons (Rn.same hni) au21))⟩
    · simp (disch := first | omega | exact PairsOK.mk rfl | (simp only [lenW] <;> omega)) only [hlt, Qaa, Qac, Qad, wW, wV, simprocAttr]
      refine⟨(),fun x hx=>?_,⟨[],rfl,au0,au23,au21⟩⟩
      have:=List.mem_range.1 hx
      exact hb x x (by omega) (by simp[this])
  rintro _ hb
  simp(disch:=first|omega|exact PairsOK.mk rfl|(simp only[lenW]<;>omega)) only[Qaa,Qac,Qad,wW,wV,simprocAttr]
  refine⟨.inr trivial,_,rfl,?_⟩
  unfold rfI
  rw[QbV hb];rfl
def rfF (c:Cel) (k:Nat) (r:List Nat):AV:= .fn 160 [] [.fptr [.fptr (stC c)],.fptr [.int .i64 (k:Int)],.fptr [sliN r]]
theorem QfP (c:Cel) (k:Nat) (r:List Nat):noRef (rfF c k r)=true:=by
 have:=Qdr c
 rw[noRef]at this
 simp only[rfF,noRef,noRefs,Qae,this];rfl
theorem refused74 (c:Cel) (k:Nat) (r:List Nat):PSpec Tryz.prog 74 [.fptr (stC c),.int .i64 (k:Int),sliN r] (rfF c k r):=by
 have hs:=Qdr c
 refine PSpec.of_rn 64 TQ.ok74 rfl (by rw[noRefs,hs,noRefs,noRefs,Qab];rfl) (QfP _ _ _) ?_
 unfold rfF
 have hb:(AV.fptr (stC c)).boxable=true:=rfl
 have hc:(AV.fptr (stC c)).cells=[.fptr (stC c)]:=rfl
 have ho:(AV.fptr (stC c)).one=true:=rfl
 generalize AV.fptr (stC c)=S at*
 simp(disch:=first|omega|exact PairsOK.mk rfl|(simp only[lenW]<;>omega)) only[TQ.s74,hb,hc,ho,Qaa,Qac,Qad,wW,wV,simprocAttr]
 refine⟨.inr trivial,_,rfl,?_⟩
 refine Rn.fn RnL.nil (RnL.cons (Rn.frzp (b:=64) (g:=0) rfl (Nat.zero_le _) (fun b' g' _ e=>by simp[π0]at e) (by simp) (RnL.same ?_)) (RnL.cons (Rn.frzp (b:=65) (g:=0) rfl (Nat.zero_le _) (fun b' g' _ e=>by simp[π0]at e) (by simp) (RnL.same rfl)) (RnL.cons (Rn.frzp (b:=66) (g:=0) rfl (Nat.zero_le _) (fun b' g' _ e=>by simp[π0]at e) (by simp) (RnL.same ?_)) RnL.nil)))
 ·show noRefs [S] = true
  rw[noRefs,hs];rfl
 ·show noRefs [sliN r] = true
  rw[noRefs,Qab];rfl
end Go.AM.SO
namespace Go.AM.SO
open Go.Proofs Go.AM.SD Go.AM.SE
def itN (x:List UInt8×Aut):List AV:=[.str x.1,sliN x.2.al,.int .i64 (x.2.n:Int),sliN x.2.ms,egsN x.2.es]
abbrev itNV (x:List UInt8×Aut):AV:= .agg [.str x.1,sliN x.2.al,.int .i64 (x.2.n:Int),sliN x.2.ms,egsN x.2.es]
abbrev itsN (l:List (List UInt8×Aut)):AV:= .fsl (l.flatMap itN) l.length 5
def nmL' (ch:UInt8) (l:List (Nat×Aut)):List (List UInt8×Aut):=l.map fun x=>([ch,UInt8.ofNat (48+x.1)],x.2)
theorem QhW {ch:UInt8} {l:List (Nat×Aut)}:its ch l=itsN (nmL' ch l):=by
 unfold nmL'
 have:(l.map fun x=>([ch,UInt8.ofNat (48+x.1)],x.2)).flatMap itN=l.flatMap (itC ch):=by
  rw[List.flatMap_map];rfl
 rw[itsN,this,List.length_map]
theorem QbJ (l:List (List UInt8×Aut)):noRefs (l.flatMap itN)=true:=QaV (fun x=>by simp only[itN,noRefs,noRef,Qae,Qaf];rfl) l
theorem Qb0 (l:List (List UInt8×Aut)):noRef (itsN l)=true:=by simp only[noRef];exact QbJ l
theorem QhX (l:List (List UInt8×Aut)):(l.flatMap itN).length=l.length*5:=Qbi (k:=5) (fun _=>rfl) l
theorem QmM {l:List (List UInt8×Aut)} {i:Nat} {x:List UInt8×Aut} (h:l[i]?=some x):(l.flatMap itN).drop (i*5)= .str x.1::sliN x.2.al:: .int .i64 (x.2.n:Int)::sliN x.2.ms::egsN x.2.es::(l.drop (i+1)).flatMap itN:=QbB (f:=itN) (k:=5) (fun _=>rfl) h
def evN (x:List UInt8×Evt):List AV:=[.str x.1,.bool x.2.c,.bool x.2.o,.bool x.2.f,.int .i64 (x.2.flt:Int)]
theorem Qnp (l:List (List UInt8×Evt)):noRefs (l.flatMap evN)=true:=QaV (fun x=>rfl) l
end Go.AM.SO
namespace Go.AM.SO
open Go.Proofs Go.AM.SD Go.AM.SE
theorem Qbo {a b:List UInt8}:aBin .eql (.str a) (.str b)=some (.bool (decide (a=b))):=rfl
theorem QbP {ch:UInt8} {l:List (Nat×Aut)}:(nmL' ch l).length=l.length:=by simp[nmL']
end Go.AM.SO
namespace Go.AM.SW
open Go.Proofs
set_option maxHeartbeats 4000000
noncomputable section
def cf:YA.Cf:={most:= .pure,always:=[52,114].map fun k=>(k,.heap)}
def s43:SFn:=by
 refine(?f:YA.Yt Tryz.prog cf 43 [[0,2],[1,3,4,5,6,7,8]] [(0,[(2,4)])]) ?s ?h
 case h=>exact YA.rr
 exact fun s _=>s
theorem ok43:okFn Tryz.prog 43 s43=true:=by kernel_rfl
end
end Go.AM.SW
namespace Go.AM.SO
open Go.Proofs Go.AM.SD Go.AM.SE
theorem index52 {K : Nat} {cap : List AV} (q : (List UInt8 × Aut) -> Bool) (l : List (List UInt8 × Aut)) (hl : l.length <= 1000000) (hc : noRefs cap = true) (hk : ∀ x ∈ l, PSpec Tryz.prog K (itNV x :: cap) (.bool (q x))) : PSpec Tryz.prog 52 [itsN l, .fn K [] cap] (.int .i64 (idxQ q l)) := by
  refine PSpec.Qal 64 ok52 rfl (by rw[noRefs,noRefs,Qa1 hc,(Qb0 _)];rfl) rfl ?_
  have hfn:=Qa1 (K:=K) hc
  have hln:=QhX l
  simp(disch:=first|omega|(simp only[lenW]<;>omega)) only[s52,wW,wV,simprocAttr]
  refine QaK 100 (fun i:Nat=>[(0,itsN l),(1,.fn K [] cap),(7,.int .i64 l.length),(8,.int .i64 i)]) (fun _=>[]) (fun i=>i<=l.length/\∀(j:Nat) y,j<i->l[j]?=some y->q y=false) (fun i=>l.length-i) 0 ?_ ⟨Nat.zero_le _,fun j y hj=>absurd hj (Nat.not_lt_zero _)⟩ ?_
  · exact⟨[],rfl,RO.zero,RB.nil,RT.cons (Rn.same (Qb0 _)) (RT.cons (Rn.same hfn) (RT.cons (Rn.same rfl) (RT.cons (Rn.same rfl) RT.nil)))⟩
  rintro i ⟨hi,hb⟩
  by_cases hlt:i<l.length
  · obtain ⟨x, hx⟩ := Qag hlt
    have hn:=hk x (List.mem_of_getElem? hx)
    have hdr:=QmM hx
    have hdl:5<=(List.drop (i*5) (l.flatMap itN)).length:=by rw[List.length_drop,hln];omega
    cases hq:q x
    · rw [hq] at hn
      simp(disch:=first|omega|(simp only[lenW]<;>omega)) only[hlt,hdr,hdl,List.head?_cons,wW,wV,simprocAttr]
      refine⟨_,by simpa using hn,?_⟩
      simp(disch:=first|omega|(simp only[lenW]<;>omega)) only[wW,wV,simprocAttr]
      refine⟨i+1,by omega,⟨by omega,fun j y hj hy=>?_⟩,?_⟩
      · by_cases e : j = i
        · subst e;rw[hx]at hy;cases hy;exact hq
        · exact hb j y (by omega) hy
      · exact⟨[],rfl,RO.zero,RB.nil,RT.cons (Rn.same (Qb0 _)) (RT.cons (Rn.same hfn) (RT.cons (Rn.same rfl) (RT.cons (Rn.same rfl) RT.nil)))⟩
    · rw [hq] at hn
      simp(disch:=first|omega|(simp only[lenW]<;>omega)) only[hlt,hdr,hdl,List.head?_cons,wW,wV,simprocAttr]
      refine⟨_,by simpa using hn,?_⟩
      simp(disch:=first|omega|(simp only[lenW]<;>omega)) only[wW,wV,simprocAttr]
      refine⟨.inr trivial,_,rfl,?_⟩
      rw[Qco hx hq hb];rfl
  · simp (disch := first | omega | (simp only [lenW] <;> omega)) only [hlt, wW, wV, simprocAttr]
    refine⟨.inr trivial,_,rfl,?_⟩
    rw[QbV fun x hx=>by
      obtain⟨j,hj,hjl⟩:=List.getElem_of_mem hx
      exact hb j x (by omega) (by rw[List.getElem?_eq_getElem hj,hjl])];rfl
def isNm (s:List UInt8) (x:List UInt8×Aut):Bool:=decide (x.1=s)
theorem Qo6 {α:Type} {q:α->Bool} {A:List α} (ha:A.any q=true):A.findIdx q<A.length:=by
 obtain⟨x,hx,hq⟩:=List.any_eq_true.1 ha
 exact List.findIdx_lt_length_of_exists ⟨x,hx,hq⟩
theorem Qd7 {α:Type} {q:α->Bool} {A:List α} (ha:A.any q=true):idxQ q A=(A.findIdx q:Int):=if_pos ha
theorem Qis {α:Type} {q:α->Bool} {A:List α} (ha:¬A.any q=true):idxQ q A= -1:=if_neg ha
theorem QpX {α:Type} {q:α->Bool} {A B:List α}:idxQ q (A++B)=if 0<=idxQ q A then idxQ q A else if 0<=idxQ q B then(A.length:Int)+idxQ q B else-1:=by
  by_cases ha:A.any q=true
  · have h3 := Qo6 ha
    rw[Qd7 ha,Qd7 (A:=A++B) (by rw[List.any_append,ha];rfl),List.findIdx_append,if_pos h3,if_pos (by omega)]
  · have hA : A.findIdx q = A.length := by
      rw[List.findIdx_eq_length]
      intro x hx
      cases hq:q x
      · rfl
      · exact absurd (List.any_eq_true.2 ⟨x,hx,hq⟩) ha
    have ha':A.any q=false:=by simpa using ha
    rw[Qis ha,if_neg (by omega)]
    by_cases hb:B.any q=true
    · rw [Qd7 hb, Qd7 (A := A ++ B) (by rw [List.any_append, hb, Bool.or_true]), List.findIdx_append, hA, if_neg (Nat.lt_irrefl _), if_pos (by omega)]
      omega
    · rw [Qis hb, if_neg (by omega), Qis]
      rw[List.any_append,ha',Bool.false_or];exact hb
theorem QmN:∀x,(itN x).all AV.one=true:=fun _=>rfl
theorem _root_.Go.AM.au24 {p:Prop} (h:p:=by repeat (first|exact RT.nil|(refine RT.cons ?_ ?_; · (first|exact Rn.any|exact Rn.x1 rfl rfl|exact Rn.x2 rfl rfl|exact Rn.x3 rfl rfl|exact Rn.x4 rfl rfl|exact Rn.x5 rfl|exact Rn.x6 rfl|exact Rn.x7 rfl|(refine Rn.slot ?_ ?_;(first|rfl|(rw[Int.natCast_add];rfl));(first|rfl|(simp only[noRef,noRefs,Qai,Bool.and_self,Bool.and_true,Bool.true_and,Qae,Qau,Qab,SU.Qa0,SU.QaG,SU.Qbe,SU.QaY,SU.QbU,QbJ,Qnp];done)))|(refine Rn.fn ?_ ?_<;>(repeat' (first|exact RnL.nil|refine RnL.cons ?_ ?_|exact Rn.same rfl|exact Rn.x6 rfl|exact Rn.x2 rfl rfl|exact Rn.x5 rfl|exact Rn.x1 rfl rfl))))))):p:=h
theorem clone114 (l:List (List UInt8×Aut)) (hl:l.length<=1000) (hne:l≠[]):HSpec Tryz.prog 114 [itsN l] .e (.sl 98 0 0 l.length 5) (hp [(98,.cells 0 (l.flatMap itN))]):=by
 refine HSpec.QcQ 100 ok114 rfl ?_
 have hq:aEqN false (itsN l)= .ret (.bool false):=by
  match l,hne with
  |x::l,_=>rfl
 have hone:(l.flatMap itN).all AV.one=true:=Qcx QmN l
 have hln:=QhX l
 simp(disch:=first|omega|(simp only[lenW]<;>omega)) only[s114,hq,hone,hln,wW,wV,simprocAttr]
 refine⟨.inr trivial,_,rfl,?_⟩
 refine⟨[(98,.blk 103 1)],rfl,au0,?_,au24⟩
 exact RB.cells rfl rfl gg (RnL.same (QbJ _)) RB.nil
theorem items43 (c:Cel) (h0:0<c.cs.length) (hc:c.cs.length<=1000) (hr:c.rs.length<=1000):PSpec Tryz.prog 43 [celV c] (itsN (nmL' 99 c.cs++nmL' 114 c.rs)):=by
 have hnr:=Qbf c
 refine PSpec.of_rn 64 SW.ok43 rfl (by rw[noRefs,SU.Qa8];rfl) (Qb0 _) ?_
 have hcl:=clone114 (nmL' 99 c.cs) (by rw[QbP];exact hc) (List.ne_nil_of_length_pos (by rw[QbP];exact h0))
 have hl1:=QhX (nmL' 99 c.cs)
 have hl2:=QhX (nmL' 114 c.rs)
 have hn1:=@QbP 99 c.cs
 have hn2:=@QbP 114 c.rs
 have hone:((nmL' 114 c.rs).flatMap itN).all AV.one=true:=Qcx QmN _
 have e1:=@QhW 99 c.cs
 have e2:=@QhW 114 c.rs
 show wS _ _ _ _ _ (argT 0 [.agg [evsV c.ev,its 99 c.cs,its 114 c.rs,exs c.xs,cos c.ks]]) _ _
 rw[e1,e2]at hnr⊢
 generalize nmL' 99 c.cs=A at*
 generalize nmL' 114 c.rs=B at*
 have hA:A.length<=1000:=by omega
 have hB:B.length<=1000:=by omega
 simp(disch:=first|omega|(simp only[lenW]<;>omega)) only[SW.s43,wW,wV,simprocAttr]
 refine Qe6 [] 2 (x:= .f 114) (ag:=[.t 4]) (d:=some 5) rfl rfl rfl ?_
 simp(disch:=first|omega|(simp only[lenW]<;>omega)) only[wW,wV,simprocAttr]
 refine⟨114,A.flatMap itN,A.length,5,rfl,⟨hcl.1,by show noRefs [itsN A]=true;rw[noRefs,Qb0];rfl,98,0,0,_,_,rfl,Nat.zero_le _,gg,hcl⟩,QbJ _,by decide,gg,?_⟩
 simp(disch:=first|omega|(simp only[lenW]<;>omega)) only[hone,hl1,hl2,wW,wV,simprocAttr]
 refine⟨trivial,.inr trivial,_,rfl,?_⟩
 show Rn _ _ _ (.fsl ((A++B).flatMap itN) (A++B).length 5) _
 rw[List.flatMap_append,List.length_append]
 exact Rn.fz0 (b:=68) rfl (by rw[List.length_append,hl1,hl2];omega) (RnL.same (SU.Qas (QbJ _) (QbJ _)))
end Go.AM.SO
namespace Go.AM.SO
open Go.Proofs Go.AM.SD Go.AM.SE
theorem nm119 (x y:List UInt8×Aut):PSpec Tryz.prog 119 [itNV y,.fptr (itN x)] (.bool (isNm x.1 y)):=by
 refine PSpec.Qal 64 TS.ok119 rfl (by simp only[itN,noRefs,noRef,Qae,Qaf];rfl) rfl ?_
 unfold isNm itN
 simp(disch:=first|omega|exact PairsOK.mk rfl|(simp only[lenW]<;>omega)) only[TS.s119,Qbo,Qaa,Qac,Qad,Qbo,wW,wV,simprocAttr]
 exact⟨.inr trivial,_,rfl,rfl⟩
def edQ (s e:Nat) (x:Ed):Bool:=decide (x.1=s)&&decide (x.2.1=e)
theorem ed121 (x:Ed) (r:List Nat) (i e s:Nat) (hs:r[i]?=some s):PSpec Tryz.prog 121 [.agg [.int .i64 (x.1:Int),.int .i64 (x.2.1:Int),.int .i64 (x.2.2:Int)],.fptr [sliN r],.fptr [.int .i64 (i:Int)],.fptr [.int .i64 (e:Int)]] (.bool (edQ s e x)):=by
  refine PSpec.Qal 64 TS.ok121 rfl (by simp only[noRefs,noRef,Qae];rfl) rfl ?_
  have hi:i<r.length:=(List.getElem?_eq_some_iff.1 hs).1
  have hd2:decide ((x.2.1:Int)=(e:Int))=decide (x.2.1=e):=decide_eq_decide.2 (by omega)
  unfold edQ
  by_cases h1:x.1=s
  · have h1' : ((x.1 : Int) = (s : Int)) = True := eq_true (by omega)
    have h1a:decide (x.1=s)=true:=by simp[h1]
    rw[h1a,Bool.true_and]
    simp(disch:=first|omega|exact PairsOK.mk rfl|(simp only[lenW]<;>omega)) only[TS.s121,hi,Qaz hs,h1',hd2,Qaa,Qac,Qad,Qbo,wW,wV,simprocAttr]
    exact⟨.inr trivial,_,rfl,rfl⟩
  · have h1' : ((x.1 : Int) = (s : Int)) = False := eq_false (by omega)
    have h1a:decide (x.1=s)=false:=by simp[h1]
    rw[h1a,Bool.false_and]
    simp(disch:=first|omega|exact PairsOK.mk rfl|(simp only[lenW]<;>omega)) only[TS.s121,hi,Qaz hs,h1',hd2,Qaa,Qac,Qad,Qbo,wW,wV,simprocAttr]
    exact⟨.inr trivial,_,rfl,rfl⟩
theorem contains120 {K:Nat} {cap:List AV} (q:Ed->Bool) (l:List Ed) (hl:l.length<=1000000) (hc:noRefs cap=true) (hk:∀x∈l,PSpec Tryz.prog K (.agg [.int .i64 (x.1:Int),.int .i64 (x.2.1:Int),.int .i64 (x.2.2:Int)]::cap) (.bool (q x))):PSpec Tryz.prog 120 [egsN l,.fn K [] cap] (.bool (l.any q)):=by
 refine PSpec.Qal 64 TS.ok120 rfl (by rw[noRefs,noRefs,Qa1 hc,Qak];rfl) rfl ?_
 have h:=index48 q l hl hc hk
 have hfn:=Qa1 (K:=K) hc
 have hge:=@QfY _ q l
 generalize idxQ q l=a at*
 simp(disch:=first|omega|exact PairsOK.mk rfl|(simp only[lenW]<;>omega)) only[TS.s120,Qaa,Qac,Qad,Qbo,wW,wV,simprocAttr]
 refine ch (PSpec.toH h _) ?_
 simp(disch:=first|omega|exact PairsOK.mk rfl|(simp only[lenW]<;>omega)) only[hge,Qaa,Qac,Qad,Qbo,wW,wV,simprocAttr]
 exact⟨.inr trivial,_,rfl,rfl⟩
theorem Qlf {es:List Ed} {s e:Nat}:es.any (edQ s e)=(stepA es s e).isSome:=by
 induction es with
 |nil=>rfl
 | cons x es ih =>
  rw[List.any_cons,ih,Qe5]
  unfold edQ
  by_cases h:x.1=s/\x.2.1=e
  ·rw[if_pos h];simp[h]
  ·rw [if_neg h]
   have:(decide (x.1=s)&&decide (x.2.1=e))=false:=by
    rw[Bool.eq_false_iff];intro h2
    rw[Bool.and_eq_true,decide_eq_true_eq,decide_eq_true_eq]at h2
    exact h h2
   rw[this,Bool.false_or]
theorem Qlg {ch:UInt8} {l:List (Nat×Aut)} {i:Nat} {x:Nat×Aut} (h:l[i]?=some x):(nmL' ch l)[i]?=some ([ch,UInt8.ofNat (48+x.1)],x.2):=by unfold nmL';rw[List.getElem?_map,h];rfl
theorem Qo7 {ch:UInt8} {l:List (Nat×Aut)} (hn:l.map (·.1)=List.range l.length) (hl:l.length<=10) {i:Nat} {x:List UInt8×Aut} (h:(nmL' ch l)[i]?=some x):idxQ (isNm x.1) (nmL' ch l)=i:=by
 have hi:i<l.length:=by have:=(List.getElem?_eq_some_iff.1 h).1;rwa [QbP]at this
 have key:∀(j:Nat) y,(nmL' ch l)[j]?=some y->y.1=[ch,UInt8.ofNat (48+j)]/\j<l.length:=fun j y hy=>by
  have hj:j<l.length:=by have:=(List.getElem?_eq_some_iff.1 hy).1;rwa [QbP]at this
  obtain⟨z,hz⟩:=Qag hj
  rw[Qlg hz]at hy
  cases hy
  have:(l.map (·.1))[j]?=some z.1:=by rw[List.getElem?_map,hz];rfl
  rw[hn,List.getElem?_range hj]at this
  cases this
  exact⟨rfl,hj⟩
 refine Qco h (by unfold isNm;simp) fun j y hj hy=>?_
 obtain⟨h1,h2⟩:=key j y hy
 obtain⟨h3,h4⟩:=key i x h
 unfold isNm
 rw[h1,h3,decide_eq_false_iff_not]
 intro e
 simp only[List.cons.injEq,and_true,true_and]at e
 have e2:=congrArg UInt8.toNat e
 simp only[UInt8.toNat_ofNat']at e2
 omega
def rfD (c:Cel) (r:List Nat) (e:Nat) (x:List UInt8×Aut):Bool:=x.2.al.contains e&&(stepA x.2.es (r.getD (idxQ (isNm x.1) (nmL' 114 c.rs)).toNat 0) e).isNone
theorem refd118 (c : Cel) (h : WfCel c) (r : List Nat) (hr : r.length = c.rs.length) (e : Nat) {x : List UInt8 × Aut} (hx : x ∈ nmL' 114 c.rs) :
    PSpec Tryz.prog 118 [itNV x,.fptr [evsV c.ev,its 99 c.cs,its 114 c.rs,exs c.xs,cos c.ks],.fptr [.int .i64 (e:Int)],.fptr [sliN r]] (.bool (rfD c r e x)):=by
  have hnr:=Qbf c
  refine PSpec.Qal 64 TS.ok118 rfl (by simp only[noRefs,noRef,Qae,Qaf]at hnr⊢;rw[hnr];rfl) rfl ?_
  have h2:=h.r2
  obtain⟨i,hi,hxi⟩:=List.getElem_of_mem hx
  have hil:i<c.rs.length:=by rwa [QbP]at hi
  have hxi':(nmL' 114 c.rs)[i]?=some x:=by rw[List.getElem?_eq_getElem hi,hxi]
  have hid:=Qo7 h.rn (by omega) hxi'
  obtain⟨z,hz⟩:=Qag hil
  have hzx:z.2=x.2:=by have:=Qlg (ch:=114) hz;rw[hxi']at this;cases this;rfl
  have hw:=h.ra z (List.mem_of_getElem? hz)
  rw[hzx]at hw
  have hel:=hw.el
  have hal:=Qey hw.wf
  obtain⟨s,hs⟩:=Qag (l:=r) (i:=i) (by omega)
  have hI:=index52 (K:=119) (cap:=[.fptr (itN x)]) (isNm x.1) (nmL' 114 c.rs) (by rw[QbP];omega) (by simp only[itN,noRefs,noRef,Qae,Qaf];rfl) fun y _=>nm119 x y
  have hC:=contains62 (nz x.2.al) (e:Int) (by simp;omega)
  have hm:decide ((e:Int)∈nz x.2.al)=x.2.al.contains e:=by
    have:((e:Int)∈nz x.2.al)↔e∈x.2.al:=by
      constructor
      · intro h; obtain ⟨a, ha, hae⟩ := List.mem_map.1 h; have : a = e := by omega
        exact this▸ha
      · exact fun h=>List.mem_map.2 ⟨e,h,rfl⟩
    rw[Bool.eq_iff_iff,decide_eq_true_eq,this,List.contains_iff_mem]
  rw[hm,Qb2]at hC
  have hE:=contains120 (K:=121) (cap:=[.fptr [sliN r],.fptr [.int .i64 (i:Int)],.fptr [.int .i64 (e:Int)]]) (edQ s e) x.2.es (by omega) (by simp only[noRefs,noRef,Qae];rfl) fun y _=>ed121 y r i e s hs
  rw[Qlf]at hE
  have hgd:r.getD i 0=s:=by rw[List.getD_eq_getElem?_getD,hs];rfl
  have e2:=@QhW 114 c.rs
  unfold rfD
  rw[hid,Int.toNat_natCast,hgd]
  rw[hid]at hI
  have hnn:(stepA x.2.es s e).isNone= !(stepA x.2.es s e).isSome:=by cases stepA x.2.es s e<;>rfl
  rw[hnn]
  rw[e2]at hnr⊢
  have hitn:noRefs (itN x)=true:=by simp only[itN,noRefs,noRef,Qae,Qaf];rfl
  generalize nmL' 114 c.rs=L at*
  generalize (stepA x.2.es s e).isSome=b at*
  simp(disch:=first|omega|exact PairsOK.mk rfl|(simp only[lenW]<;>omega)) only[TS.s118,Qaa,Qac,Qad,Qbo,wW,wV,simprocAttr]
  refine SU.chc (HSpec.lend (FrzL.cons (FrzTo.same _) (FrzL.cons (FrzTo.fn FrzL.nil (FrzL.cons (FrzTo.ptr (g:=0) (cs:=itN x) gg (FrzL.same _)) FrzL.nil)) FrzL.nil)) hI rfl) ?_
  simp(disch:=first|omega|exact PairsOK.mk rfl|(simp only[lenW]<;>omega)) only[Qaa,Qac,Qad,Qbo,wW,wV,simprocAttr]
  refine cp hC ?_
  cases x.2.al.contains e
  · simp (disch := first | omega | exact PairsOK.mk rfl | (simp only [lenW] <;> omega)) only [Qaa, Qac, Qad, Qbo, wW, wV, simprocAttr]
    exact⟨.inr trivial,_,rfl,rfl⟩
  · simp (disch := first | omega | exact PairsOK.mk rfl | (simp only [lenW] <;> omega)) only [Qaa, Qac, Qad, Qbo, wW, wV, simprocAttr]
    refine SU.chc (HSpec.lend (FrzL.cons (FrzTo.same _) (FrzL.cons (FrzTo.fn FrzL.nil (FrzL.cons (FrzTo.same _) (FrzL.cons (FrzTo.ptr (g:=0) (cs:=[.int .i64 (i:Int)]) gg (FrzL.same _)) (FrzL.cons (FrzTo.same _) FrzL.nil)))) FrzL.nil)) hE rfl) ?_
    simp(disch:=first|omega|exact PairsOK.mk rfl|(simp only[lenW]<;>omega)) only[Qaa,Qac,Qad,Qbo,wW,wV,simprocAttr]
    exact⟨.inr trivial,_,rfl,rfl⟩
theorem Qe9 {α β:Type} {q:α->Bool} {q':β->Bool}:∀{A:List α} {B:List β},A.length=B.length->(∀(j:Nat) x y,A[j]?=some x->B[j]?=some y->q x=q' y)->idxQ q A=idxQ q' B
 |[],[],_,_=>rfl
 |[],_::_,h,_=>by simp at h
 |_::_,[],h,_=>by simp at h
 | x :: A, y :: B, h, hq => by
  have h0:=hq 0 x y rfl rfl
  have ih:=Qe9 (q:=q) (q':=q') (A:=A) (B:=B) (by simpa using h) fun j x y hx hy=>hq (j+1) x y (by simpa using hx) (by simpa using hy)
  unfold idxQ at ih⊢
  rw[List.any_cons,List.any_cons,List.findIdx_cons,List.findIdx_cons,h0]
  cases hy:q' y with
  |true=>simp
  |false=>
   simp only[Bool.false_or,cond_false]
   cases hA:A.any q<;>cases hB:B.any q'<;>rw[hA,hB]at ih<;>simp at ih⊢ <;>omega
theorem refd47 (c:Cel) (h:WfCel c) (r:List Nat) (hr:r.length=c.rs.length) (e:Nat):PSpec Tryz.prog 47 [celV c,sliN r,.int .i64 (e:Int)] (.int .i64 (rfI c r e)):=by
 have hnr:=Qbf c
 refine PSpec.Qal 64 TS.ok47 rfl (by rw[noRefs,SU.Qa8,noRefs,Qab];rfl) rfl ?_
 have h2:=h.r2
 have hI:=index52 (K:=118) (cap:=[.fptr [evsV c.ev,its 99 c.cs,its 114 c.rs,exs c.xs,cos c.ks],.fptr [.int .i64 (e:Int)],.fptr [sliN r]]) (rfD c r e) (nmL' 114 c.rs) (by rw[QbP];omega) (by simp only[noRefs,noRef,Qae]at hnr⊢;rw[hnr];rfl) fun x hx=>refd118 c h r hr e hx
 have hv:idxQ (rfD c r e) (nmL' 114 c.rs)=rfI c r e:=by
  unfold rfI
  refine Qe9 (by rw[QbP,List.length_range]) fun j x y hx hy=>?_
  have hj:j<c.rs.length:=by have:=(List.getElem?_eq_some_iff.1 hx).1;rwa [QbP]at this
  have hy':y=j:=by rw[List.getElem?_range hj]at hy;exact(Option.some.inj hy).symm
  subst hy'
  obtain⟨z,hz⟩:=Qag hj
  have hid:=Qo7 h.rn (by omega) hx
  unfold rfD rfQ
  rw[hid,Int.toNat_natCast,hz]
  have:=Qlg (ch:=114) hz
  rw[hx]at this
  cases this
  rfl
 rw[hv]at hI
 have e2:=@QhW 114 c.rs
 show wS _ _ _ _ _ (argT 0 [.agg [evsV c.ev,its 99 c.cs,its 114 c.rs,exs c.xs,cos c.ks],sliN r,.int .i64 (e:Int)]) _ _
 rw[e2]at hnr hI⊢
 generalize nmL' 114 c.rs=L at*
 simp(disch:=first|omega|exact PairsOK.mk rfl|(simp only[lenW]<;>omega)) only[TS.s47,Qaa,Qac,Qad,Qbo,wW,wV,simprocAttr]
 refine SU.chc (HSpec.lend (FrzL.cons (FrzTo.same _) (FrzL.cons (FrzTo.fn FrzL.nil (FrzL.cons (FrzTo.ptr (g:=0) (cs:=[evsV c.ev,its 99 c.cs,itsN L,exs c.xs,cos c.ks]) gg (FrzL.same _)) (FrzL.cons (FrzTo.ptr (g:=0) (cs:=[.int .i64 (e:Int)]) gg (FrzL.same _)) (FrzL.cons (FrzTo.ptr (g:=0) (cs:=[sliN r]) gg (FrzL.same _)) FrzL.nil)))) FrzL.nil)) hI rfl) ?_
 simp(disch:=first|omega|exact PairsOK.mk rfl|(simp only[lenW]<;>omega)) only[Qaa,Qac,Qad,Qbo,wW,wV,simprocAttr]
 exact⟨.inr trivial,_,rfl,rfl⟩
end Go.AM.SO
namespace Go.AM
variable {P:Program}
theorem RSpec.of_wS {b N n:Nat} {T:Tmps} {ps:List Nat} {asg body:SCode} {args:List AV} {h h':Heap} {v:AV} (hn:(noLoop asg&&noLoop body)=true) (hb:h.get b=some (.loop 0 N T ps (.s asg) (.s body) .ready))
  (hl:Nat.blt b 1099511627775=true) (hlen:args.length=ps.length) (hps:(ps.all fun p=>Nat.blt p N)=true)
  (hw : wS P ⟨N, 0⟩ asg [] n (upsT T ps args) h fun e T1 h1 n1 => e = .normal /\ h1.get b = some (.loop 0 N T ps (.s asg) (.s body) .ready) /\
   wS P ⟨N,0⟩ body [] n1 T1 (h1.set b (.loop 0 N T ps (.s asg) (.s body) .busy)) fun e T2 h2 _=>h2.get b=some (.loop 0 N T ps (.s asg) (.s body) .busy)/\v= .bool e.isNormal/\∀x,(h2.set b (.loop 0 N T ps (.s asg) (.s body) (stOf e))).get x=h'.get x):RSpec P b 0 args h v h':=by
 simp only[Bool.and_eq_true]at hn
 refine RSpec.of_W hb (by simpa[lim]using hl) hlen (fun p hp=>by simp_all) ((wpC.toW1 hn.1 hw).mono ?_)
 rintro e B ⟨n1,rfl,h1,h2⟩
 refine⟨rfl,N,T,ps,.s asg,.s body,h1,(wpC.toW1 hn.2 h2).mono ?_⟩
 rintro e C ⟨n2,k1,k2,k3⟩
 grind
section
variable {k m n:Nat} {T:Tmps} {h:Heap} {Q:QC} {fs:List Fr}
theorem Qjr {g:Opd} {ps:List Nat} {asg body:SCode} {f b n':Nat} {first cap:List AV} {v:AV} {h2:Heap} {T' T2:Tmps} {L:HL} {N2:Nat} {ps2:List Nat} {as2 body2:LCode} {st:LSt} (hr:Rec m T' L T h) (hg:ev T' g= .fn f first cap) (hb:(hp L).get b=none) (hl:Nat.blt b 1099511627775=true)
  (hs:HSpec P f (first++[.yld b 0]++cap) ((hp L).set b (.loop 0 k T' ps (.s asg) (.s body) .ready)) v h2) (hst:h2.get b=some (.loop 0 N2 T2 ps2 as2 body2 st))
  (hQ:leftQ (fun e B=>wX P ⟨k,m⟩ e fs n' B.T B.h Q) ⟨T',h2.set b (.dead 0)⟩ st):wS P ⟨k,m⟩ (.rfunc g ps k asg body) fs n T h Q:=by
 show W2 P ⟨k,m⟩ (.rfunc g ps k asg body) (fun e B=>∃n,ct P ⟨k,m⟩ fs Q e B.T B.h n) ⟨T,h⟩
 refine W2.recL hr (W2.of_W (W.rfunc (las:= .s asg) (lbody:= .s body) rfl rfl hg hb (by simpa[lim]using hl) hs hst ?_))
 cases st with
 |ready=>exact⟨n',hQ⟩
 |busy=>exact hQ
 |done e=>exact⟨hQ.1,n',hQ.2⟩
theorem cy {N:NM} {b g:Nat} {args:List AV} {v:AV} {h1:Heap} {d:Option Nat} {ops:List SOper} {dead:List Nat} (hR:RSpec P b g args h v h1) (hk:wR P N ops dead fs (n+1) (putD T d v) h1 Q):wCall P N .heap (.yld b g) args d ops dead fs n T h Q:=⟨_,_,hR,hk⟩
theorem W2.weakE {N:NM} {c:SCode} {Q:SX->St->Prop} {T L:Tmps} {h h':Heap} (hT:Sub L T) (he:∀b,h.get b=h'.get b) (hw:W2 P N c Q ⟨L,h'⟩):W2 P N c Q ⟨T,h⟩:=
 W2.weak hT (W2.congr hw ⟨fun _=>rfl,he⟩)
def loopI (P:Program) (k m:Nat) {α:Type} (env:α->Tmps) (H:α->Heap) (I:α->Prop) (μ:α->Nat) (a:α) (fs:List Fr) (Q:QC):QC:=fun e T h n=>
 match e with
 | .normal=>∃a',μ a'<μ a/\I a'/\Sub (env a') T/\∀b,h.get b=(H a').get b
 |e=>wX P ⟨k,m⟩ e fs n T h Q
section
variable {α:Type} {env:α->Tmps} {H:α->Heap} {I:α->Prop} {μ:α->Nat} {a:α}
theorem Qa2:loopI P k m env H I μ a fs Q .normal T h n=∃a',μ a'<μ a/\I a'/\Sub (env a') T/\∀b,h.get b=(H a').get b:=rfl
theorem Qbk {i:Nat}:loopI P k m env H I μ a fs Q (.exit i) T h n=wX P ⟨k,m⟩ (.exit i) fs n T h Q:=rfl
theorem Qbt:loopI P k m env H I μ a fs Q .ret T h n=wX P ⟨k,m⟩ .ret fs n T h Q:=rfl
theorem QpY {b:SCode} (n0:Nat) (env:α->Tmps) (H:α->Heap) (I:α->Prop) (μ:α->Nat) (a0:α)
  (h0:Sub (env a0) T) (hh:∀b,h.get b=(H a0).get b) (hI:I a0) (round:∀a,I a->wS P ⟨k,m⟩ b [] n0 (env a) (H a) (loopI P k m env H I μ a fs Q)):wS P ⟨k,m⟩ (.loop b) fs n T h Q:=by
 show W2 P ⟨k,m⟩ (.loop b) (fun e B=>∃n,ct P ⟨k,m⟩ fs Q e B.T B.h n) ⟨T,h⟩
 refine W2.loop (fun q B=>∃a,μ a=q/\I a/\Sub (env a) B.T/\∀b,B.h.get b=(H a).get b) (μ a0) ⟨a0,rfl,hI,h0,hh⟩ ?_
 rintro q B ⟨a,rfl,hi,hs,he⟩
 refine W2.weakE hs he ((wpC.toW (round a hi)).mono ?_)
 rintro e C ⟨n2,hq⟩
 cases e with
 |normal=>obtain⟨a',h1,h2,h3⟩:=hq;exact⟨μ a',h1,a',rfl,h2,h3⟩
 |exit i=>exact⟨n2,hq⟩
 |ret=>exact⟨n2,hq⟩
end
end
theorem HSpec.of_I {f:Nat} {sf:SFn} {args:List AV} {h h':Heap} {v:AV} (m n:Nat) (hok:okFn P f sf=true) (hl:Nat.ble args.length sf.n=true) (hm:Fresh m h)
  (hw:wS P ⟨sf.n,m⟩ sf.body [] n (argT 0 args) h fun e T k _=>(e= .normal\/e= .ret)/\∃vs,resV T k sf.res=some vs/\resOf vs=v/\∀b,k.get b=h'.get b):HSpec P f args h v h':=by
 obtain⟨_,_,_,_,_,_,_,hc⟩:=Qca hok
 refine⟨hc,fun c w cargs H ha=>(Qds (m:=m) (R:=fun vs k=>resOf vs=v/\∀b,k.get b=h'.get b) hok (Nat.le_of_ble_eq_true hl) ((wpC.toW hw).mono fun e B ⟨_,h1,vs,h2,h3⟩=>⟨h1,vs,h2,h3⟩) H ha).mono ?_⟩
 rintro e w' ⟨cv,c',vs,k,rfl,E,H',V,rfl,hk⟩
 refine⟨cv,c',rfl,⟨E.os,E.tape,E.output,E.size,E.shape,E.keep,fun b g p hp=>?_,E.frz,E.frzNew,E.own,E.base⟩,QbZ hk H',V⟩
 rcases Nat.lt_or_ge b m with h1|h1
 ·exact E.rho b g p h1 hp
 ·rw[H.fresh b (hm b h1) g]at hp;cases hp
end Go.AM
namespace Go.AM.SO
open Go.Proofs Go.AM.SD Go.AM.SE
def ylE (c:Cel) (r:List Nat) (e:Nat):Option (Nat×Int):=if 0<=rfI c r e then some (e,rfI c r e)else none
def yls (c:Cel) (k:Nat) (r:List Nat):List (Nat×Int):=(evO (syncA (auL c.cs)) k).filterMap (ylE c r)
theorem fm_at {α β:Type} {f:α->Option β} {l:List α} {i:Nat} {x:α} {y:β} (hx:l[i]?=some x) (hy:f x=some y):(l.filterMap f)[((l.take i).filterMap f).length]?=some y:=by
 have hi:i<l.length:=(List.getElem?_eq_some_iff.1 hx).1
 have e:l=l.take i++x::l.drop (i+1):=by
  have hx':l[i]=x:=(List.getElem?_eq_some_iff.1 hx).2
  rw[<-hx',List.getElem_cons_drop,List.take_append_drop]
 have e2:l.filterMap f=(l.take i).filterMap f++y::(l.drop (i+1)).filterMap f:=by
  conv=>lhs;rw[e]
  rw[List.filterMap_append,List.filterMap_cons,hy]
 rw[e2,List.getElem?_append_right (Nat.le_refl _),Nat.sub_self,List.getElem?_cons_zero]
theorem QqU {α β:Type} {f:α->Option β} {l:List α} {i:Nat} {x:α} (hx:l[i]?=some x):((l.take (i+1)).filterMap f).length=((l.take i).filterMap f).length+(match f x with|some _=>1|none=>0):=by
 rw[take_succ' hx,List.filterMap_append,List.length_append,List.filterMap_cons]
 cases f x<;>rfl
theorem QmO {c:Cel} {r:List Nat} {e:Nat}: -1<=rfI c r e/\rfI c r e<=c.rs.length:=by
 have:=@Qdb _ (rfQ c r e) (List.range c.rs.length)
 unfold rfI
 rw[List.length_range]at this
 omega
theorem refused160 (c : Cel) (hw : WfCel c) {k : Nat} (hk : k < (syncA (auL c.cs)).n) (r : List Nat) (hr : r.length = c.rs.length) (hrn : ∀ (i : Nat) y, c.rs[i]? = some y -> r.getD i 0 < y.2.n) {b m : Nat} (H : Nat -> Heap) (H' : Heap) (n : Nat) (hf : Fresh m (H 0)) (hn : n <= (yls c k r).length)
    (hY:∀(j:Nat) y,j<n->(yls c k r)[j]?=some y->RSpec Tryz.prog b 0 [.int .i64 (y.1:Int),.int .i64 y.2] (H j) (.bool true) (H (j+1)))
    (hE:(n=(yls c k r).length/\H'=H n)\/∃y,(yls c k r)[n]?=some y/\RSpec Tryz.prog b 0 [.int .i64 (y.1:Int),.int .i64 y.2] (H n) (.bool false) H'):
    HSpec Tryz.prog 160 [.yld b 0,.fptr [.fptr (stC c)],.fptr [.int .i64 (k:Int)],.fptr [sliN r]] (H 0) (.tup []) H':=by
  refine HSpec.of_I m 1099511627000 TR.ok160 rfl hf ?_
  have hE161:=enabled161 (syncA (auL c.cs)) k (Qcj (QaN hw) (by rw[QaS];have:=hw.c3;omega)) hk
  have hR:=fun e=>refuser162 c hw r e hr hrn
  have hgR:=fun e=>@QmO c r e
  have hol:(evO (syncA (auL c.cs)) k).length<=1220:=by
    unfold evO;rw[List.length_map]
    exact Nat.le_trans (List.length_filter_le ..) (Qcj (QaN hw) (by rw[QaS];have:=hw.c3;omega)).el
  have hcap:stC c=stC c:=rfl
  conv at hcap=>rhs;rw[stC]
  have hX:∃S,S=AV.fptr (stC c):=⟨_,rfl⟩
  unfold yls at hn hY hE
  rw[stC]at*
  generalize evO (syncA (auL c.cs)) k=o at*
  generalize syncA (auL c.cs)=p at*
  generalize syncA (allA c)=q at*
  generalize (sync0 (auL c.cs)).1=P at*
  generalize (sync0 (allA c)).1=T at*
  simp(disch:=first|omega|exact PairsOK.mk rfl|(simp only[lenW]<;>omega)) only[TR.s160,Qaa,Qac,Qad,Qa2,Qbk,Qbt,wW,wV,simprocAttr]
  refine cp hE161 ?_
  simp(disch:=first|omega|exact PairsOK.mk rfl|(simp only[lenW]<;>omega)) only[Qaa,Qac,Qad,Qa2,Qbk,Qbt,wW,wV,simprocAttr]
  refine QpY 1099511627100 (fun i:Nat=>[(0,.yld b 0),(1,.fptr [.fptr (stG c p q P T)]),(3,.fptr [sliN r]),(19,sliN o),(20,.int .i64 o.length),(21,.int .i64 i)]) (fun i=>H ((o.take i).filterMap (ylE c r)).length) (fun i=>i<=o.length/\((o.take i).filterMap (ylE c r)).length<=n) (fun i=>o.length-i) 0 ?_ (fun _=>rfl) ⟨Nat.zero_le _,Nat.zero_le _⟩ ?_
  · repeat (first|exact Sub.nil|refine Sub.cons (by first|rfl|(rw[Int.natCast_add];rfl)) ?_)
  rintro i ⟨hi,hc⟩
  by_cases hlt:i<o.length
  · obtain ⟨x, hx⟩ := Qag hlt
    have hct:=QqU (f:=ylE c r) hx
    have hRx:=hR x
    have hg:=hgR x
    by_cases h0:0<=rfI c r x
    · have hyl : ylE c r x = some (x, rfI c r x) := by unfold ylE; rw [if_pos h0]
      have hat:=fm_at hx hyl
      rw[hyl]at hct
      rcases Nat.lt_or_ge ((o.take i).filterMap (ylE c r)).length n with hlt2|hge
      · have hR1 := hY _ _ hlt2 hat
        dsimp only at hR1 hct
        rw[<-hct]at hR1
        simp(disch:=first|omega|exact PairsOK.mk rfl|(simp only[lenW]<;>omega)) only[hlt,Qaz hx,Qaa,Qac,Qad,Qa2,Qbk,Qbt,wW,wV,simprocAttr]
        refine cp hRx ?_
        generalize rfI c r x=v at*
        simp(disch:=first|omega|exact PairsOK.mk rfl|(simp only[lenW]<;>omega)) only[h0,Qaa,Qac,Qad,Qa2,Qbk,Qbt,wW,wV,simprocAttr]
        refine cy hR1 ?_
        simp(disch:=first|omega|exact PairsOK.mk rfl|(simp only[lenW]<;>omega)) only[Qaa,Qac,Qad,Qa2,Qbk,Qbt,wW,wV,simprocAttr]
        refine⟨i+1,by omega,⟨by omega,by omega⟩,?_,fun _=>rfl⟩
        repeat (first|exact Sub.nil|refine Sub.cons (by first|rfl|(rw[Int.natCast_add];rfl)) ?_)
      · have hcn : ((o.take i).filterMap (ylE c r)).length = n := by omega
        rcases hE with⟨he,_⟩|⟨y,hy,hRs⟩
        · have := (List.getElem?_eq_some_iff.1 hat).1
          omega
        · rw [hcn] at hat ⊢
          rw[hat]at hy
          cases hy
          dsimp only at hRs
          simp(disch:=first|omega|exact PairsOK.mk rfl|(simp only[lenW]<;>omega)) only[hlt,Qaz hx,Qaa,Qac,Qad,Qa2,Qbk,Qbt,wW,wV,simprocAttr]
          refine cp hRx ?_
          generalize rfI c r x=v at*
          simp(disch:=first|omega|exact PairsOK.mk rfl|(simp only[lenW]<;>omega)) only[h0,Qaa,Qac,Qad,Qa2,Qbk,Qbt,wW,wV,simprocAttr]
          refine cy hRs ?_
          simp(disch:=first|omega|exact PairsOK.mk rfl|(simp only[lenW]<;>omega)) only[Qaa,Qac,Qad,Qa2,Qbk,Qbt,wW,wV,simprocAttr]
          exact⟨.inr trivial,_,rfl,rfl,fun _=>trivial⟩
    · have hyl : ylE c r x = none := by unfold ylE; rw [if_neg h0]
      rw[hyl]at hct
      dsimp only at hct
      simp(disch:=first|omega|exact PairsOK.mk rfl|(simp only[lenW]<;>omega)) only[hlt,Qaz hx,Qaa,Qac,Qad,Qa2,Qbk,Qbt,wW,wV,simprocAttr]
      refine cp hRx ?_
      generalize rfI c r x=v at*
      simp(disch:=first|omega|exact PairsOK.mk rfl|(simp only[lenW]<;>omega)) only[h0,Qaa,Qac,Qad,Qa2,Qbk,Qbt,wW,wV,simprocAttr]
      refine⟨i+1,by omega,⟨by omega,by omega⟩,?_,fun _=>by rw[hct];rfl⟩
      repeat (first|exact Sub.nil|refine Sub.cons (by first|rfl|(rw[Int.natCast_add];rfl)) ?_)
  · have e : i = o.length := by omega
    subst e
    rw[List.take_length]at hc⊢
    have hcn:n=(o.filterMap (ylE c r)).length:=by omega
    simp(disch:=first|omega|exact PairsOK.mk rfl|(simp only[lenW]<;>omega)) only[hlt,Qaa,Qac,Qad,Qa2,Qbk,Qbt,wW,wV,simprocAttr]
    refine⟨.inl trivial,_,rfl,rfl,fun _=>?_⟩
    rcases hE with⟨_,he⟩|⟨y,hy,_⟩
    · rw[he,hcn]
    · rw[List.getElem?_eq_none (by omega)]at hy;cases hy
end Go.AM.SO
namespace Go.AM.SO
open Go.Proofs Go.AM.SD Go.AM.SE
theorem clone41 (l:List Nat) (hl:l.length<=1000000):PSpec Tryz.prog 41 [sliN l] (sliN l):=by
 have h:=(clone56 l hl).freeze (b:=83) (g:=0) (ds:=ints (nz l)) gg (by
  have:∀m:List Int,flatVs (ints m)=true:=fun m=>by
   induction m with
   |nil=>rfl
   |cons x m ih=>simp only[ints,List.map_cons,flatVs,Bool.and_eq_true];exact⟨rfl,ih⟩
  exact this _) (by simp[ints]) rfl
 have e:(ints (nz l)).take (l.length*1)=ints (nz l):=by rw[List.take_of_length_le (by simp[ints])]
 rw[e]at h
 exact⟨by rw[noRefs,Qab];rfl,Qab _,_,h⟩
def rsC (x:Nat×Int×Int×Int):List AV:=[.int .i64 (x.1:Int),.int .i64 x.2.1,.int .i64 x.2.2.1,.int .i64 x.2.2.2]
theorem Qlh {f:Nat->Evt} {e:Nat} (h:e<5):(evsC f).drop (e*5)=evC e (f e)++(evsC f).drop ((e+1)*5):=by
 obtain rfl|rfl|rfl|rfl|rfl:e=0\/e=1\/e=2\/e=3\/e=4:=by omega
 all_goals rfl
theorem QrW {c:Cel} (h:WfCel c) {k:Nat} {r:List Nat} {y:Nat×Int} (hy:y∈yls c k r):y.1<5:=by
 unfold yls at hy
 obtain⟨e,he,h2⟩:=List.mem_filterMap.1 hy
 unfold ylE at h2
 split at h2
 ·cases h2
  unfold evO at he
  obtain⟨x,hx,rfl⟩:=List.mem_map.1 he
  have hw:=Qcj (QaN h) (by rw[QaS];have:=h.c3;omega)
  exact hw.al5 _ (hw.ev x (List.mem_filter.1 hx).1)
 ·cases h2
end Go.AM.SO
namespace Go.AM.SO
open Go.Proofs Go.AM.SD Go.AM.SE
theorem Qli {α β:Type} {q:β->Bool} {f:α->β}:∀{l:List α},idxQ q (l.map f)=idxQ (fun x=>q (f x)) l:=fun{l}=>by
 refine Qe9 (by simp) fun j x y hx hy=>?_
 rw[List.getElem?_map,hy]at hx
 cases hx;rfl
theorem Qf4 (t:List Nat) (xs:List (Nat×List (Nat×Nat))) (ks:List (List (Nat×Int)×Int)):vioV t xs ks=if 0<=idxQ (exQ t) xs then(1,idxQ (exQ t) xs,true)else if 0<=idxQ (koQ t) ks then(2,idxQ (koQ t) ks,true)else(0,0,false):=by
  have e1:idxQ (cdQ t) (xs.map .inl)=idxQ (exQ t) xs:=Qli
  have e2:idxQ (cdQ t) (ks.map .inr)=idxQ (koQ t) ks:=Qli
  have h1:=@Qdb _ (exQ t) xs
  have h2:=@Qdb _ (koQ t) ks
  unfold vioV cdA
  rw[QpX,e1,e2,List.length_map]
  by_cases ha:0<=idxQ (exQ t) xs
  · have := h1.2 ha
    rw[if_pos ha,if_neg (by omega),if_pos this,if_pos ha]
  · rw [if_neg ha, if_neg ha]
    by_cases hb:0<=idxQ (koQ t) ks
    · rw [if_pos hb, if_neg (by omega), if_neg (by omega), if_pos hb]
      congr 2;omega
    · rw[if_neg hb,if_pos (by omega),if_neg hb]
def rsnD (c:Cel) (i:Nat) (t r:List Nat):Option (Nat×Int×Int×Int):=
 if(vioV t c.xs c.ks).2.2=true then some (i,(vioV t c.xs c.ks).1,(vioV t c.xs c.ks).2.1,-1)
 else((evS (auL c.cs) t).find? fun e=>decide (0<=rfI c r e)&& !(c.ev e).c).map fun e=>(i,3,rfI c r e,(e:Int))
theorem QrX {c:Cel} {i:Nat} {t r:List Nat} {j:Nat} (h:idxQ (exQ t) c.xs=j):rsnD c i t r=some (i,1,(j:Int),-1):=by
 have hv:=Qf4 t c.xs c.ks
 rw[h,if_pos (by omega)]at hv
 unfold rsnD
 rw[hv,if_pos rfl]
theorem QrY {c:Cel} {i:Nat} {t r:List Nat} {j:Nat} (h0:idxQ (exQ t) c.xs= -1) (h:idxQ (koQ t) c.ks=j):rsnD c i t r=some (i,2,(j:Int),-1):=by
 have hv:=Qf4 t c.xs c.ks
 rw[h0,h,if_neg (by omega),if_pos (by omega)]at hv
 unfold rsnD
 rw[hv,if_pos rfl]
theorem QrZ {c:Cel} {i:Nat} {t r:List Nat} (h0:idxQ (exQ t) c.xs= -1) (h:idxQ (koQ t) c.ks= -1):rsnD c i t r=((evS (auL c.cs) t).find? fun e=>decide (0<=rfI c r e)&& !(c.ev e).c).map fun e=>(i,3,rfI c r e,(e:Int)):=by
 have hv:=Qf4 t c.xs c.ks
 rw[h0,h,if_neg (by omega),if_neg (by omega)]at hv
 unfold rsnD
 rw[hv,if_neg (by simp)]
theorem QfV {α:Type} {p:α->Bool}:∀{l:List α} {j:Nat} {x:α},l[j]?=some x->p x=true->(∀(k:Nat) y,k<j->l[k]?=some y->p y=false)->l.find? p=some x
 |[],_,_,h,_,_=>by simp at h
 |y::l,0,x,h,hp,_=>by
  have e:y=x:=by simpa using h
  rw[List.find?_cons,e,hp]
 |y::l,j+1,x,h,hp,hb=>by
  rw[List.find?_cons,hb 0 y (by omega) rfl]
  exact QfV (l:=l) (by simpa using h) hp fun k z hk hz=>hb (k+1) z (by omega) (by simpa using hz)
theorem QqV {α:Type} {p:α->Bool} {l:List α} (hb:∀(k:Nat) y,k<l.length->l[k]?=some y->p y=false):l.find? p=none:=by
 rw[List.find?_eq_none]
 intro x hx
 obtain⟨k,hk,hkx⟩:=List.getElem_of_mem hx
 rw[hb k x hk (by rw[List.getElem?_eq_getElem hk,hkx])]
 simp
def rsV (o:Option (Nat×Int×Int×Int)):AV:= .tup [.agg (match o with|some r=>rsC r|none=>[.int .i64 0,.int .i64 0,.int .i64 0,.int .i64 0]),.bool o.isSome]
theorem Qo8 (o:Option (Nat×Int×Int×Int)):noRef (rsV o)=true:=by cases o<;>rfl
theorem other116 (t:List Nat) (c s y:Nat) (hy:t[c]?=some y):PSpec Tryz.prog 116 [.agg [.int .i64 (c:Int),.int .i64 (s:Int)],.fptr [sliN t]] (.bool (!decide (y=s))):=by
 refine PSpec.Qal 64 TS.ok116 rfl (by simp only[noRefs,noRef,Qae];rfl) rfl ?_
 have hc:c<t.length:=(List.getElem?_eq_some_iff.1 hy).1
 have hd:decide ((y:Int)=(s:Int))=decide (y=s):=decide_eq_decide.2 (by omega)
 simp(disch:=first|omega|exact PairsOK.mk rfl|(simp only[lenW]<;>omega)) only[TS.s116,Qaz hy,hc,hd,Qaa,Qac,Qad,wW,wV,simprocAttr]
 exact⟨.inr trivial,_,rfl,rfl⟩
theorem local116 {t:List Nat} {x:Nat×List (Nat×Nat)} (hl:x.2.length<=1000) (ht:∀l∈x.2,l.1<t.length):PSpec Tryz.prog 115 [los x.2,.fn 116 [] [.fptr [sliN t]]] (.bool (!exQ t x)):=by
  have hC:=contains115 (K:=116) (cap:=[.fptr [sliN t]]) (fun l=> !decide (t.getD l.1 0=l.2)) x.2 (by omega) (by simp only[noRefs,noRef,Qae];rfl) fun l hm=>by
    obtain⟨y,hy⟩:=Qag (ht l hm)
    have:=other116 t l.1 l.2 y hy
    rwa [show t.getD l.1 0=y by rw[List.getD_eq_getElem?_getD,hy];rfl]
  unfold exQ
  rw[Bool.not_not]
  exact hC
theorem Qr0 {l:List Aut} (h:∀a∈l,WfI a) {t:List Nat}:∀e∈evS l t,e<5:=fun e he=>by
 obtain⟨a,ha,hea⟩:=(QdF h).1 (List.mem_filter.1 he).1
 exact(h a ha).wf.al5 e hea
theorem _root_.Go.AM.au25 {p:Prop} (h:p:=by repeat (first|exact RT.nil|(refine RT.cons ?_ ?_; · (first|exact Rn.any|exact Rn.x1 rfl rfl|exact Rn.x2 rfl rfl|exact Rn.x3 rfl rfl|exact Rn.x4 rfl rfl|exact Rn.x5 rfl|exact Rn.x6 rfl|exact Rn.x7 rfl|(refine Rn.slot ?_ ?_;(first|rfl|(rw[Int.natCast_add];rfl));(first|rfl|(simp only[noRef,noRefs,Qai,Bool.and_self,Bool.and_true,Bool.true_and,Qae,Qau,Qab,Qak,QaH,Qaf,SU.Qbe,SU.Qa0,SU.QaG,SU.QaY,SU.QbU];done)))|(refine Rn.fn ?_ ?_<;>(repeat' (first|exact RnL.nil|refine RnL.cons ?_ ?_|exact Rn.same rfl|exact Rn.x6 rfl|exact Rn.x2 rfl rfl|exact Rn.x5 rfl|exact Rn.x1 rfl rfl))))))):p:=h
theorem reason44 (c : Cel) (h : WfCel c) (i : Nat) {t : List Nat} (ht : InT (auL c.cs) t) (r : List Nat) (hr : r.length = c.rs.length) (hi : i <= 1000000) : PSpec Tryz.prog 44 [celV c, .int .i64 (i : Int), sliN t, sliN r] (rsV (rsnD c i t r)) := by
  have hnr:=Qbf c
  refine PSpec.of_rn 64 TS.ok44 rfl (by rw[noRefs,SU.Qa8,noRefs,noRefs,Qab,noRefs,Qab];rfl) (Qo8 _) ?_
  have hok:=Qk6 h ht
  have hpo:=possible46 c h ht
  have hrf:=fun e=>refd47 c h r hr e
  have hel:=@Qr0 (auL c.cs) (QaN h) t
  have hev5:(evS (auL c.cs) t).length<=5:=Nat.le_trans (List.length_filter_le ..) (Qcp (QaN h))
  have hxn:=h.x2
  have hkn:=h.k1
  have hgR:=fun e=>@QmO c r e
  have h2:=h.r2
  have hxi:=SU.Qdp c.xs
  have hki:=Qex c.ks
  have hnt:noRefs [sliN t]=true:=by rw[noRefs,Qab];rfl
  simp(disch:=first|omega|exact PairsOK.mk rfl|(simp only[lenW]<;>omega)) only[TS.s44,Qaa,Qac,Qad,wW,wV,simprocAttr]
  refine Qaj 100 (fun j:Nat=>[(1,.int .i64 i),(3,sliN r),(4,.ptr 51 0 0),(6,.ptr 52 0 0),(8,.ptr 53 0 0),(21,exs c.xs),(22,.int .i64 c.xs.length),(23,.int .i64 j)]) (fun _=>[(51,.cells 0 [evsV c.ev,its 99 c.cs,its 114 c.rs,exs c.xs,cos c.ks]),(52,.cells 0 [sliN t]),(53,.cells 0 [.int .i64 0,.int .i64 0,.int .i64 0,.int .i64 0])])
    (fun j=>j<=c.xs.length/\∀(k:Nat) y,k<j->c.xs[k]?=some y->exQ t y=false) (fun j=>c.xs.length-j) 0 0 200 (fun _:Unit=>[(1,.int .i64 i),(3,sliN r),(4,.ptr 51 0 0),(6,.ptr 52 0 0),(8,.ptr 53 0 0)]) (fun _=>[(51,.cells 0 [evsV c.ev,its 99 c.cs,its 114 c.rs,exs c.xs,cos c.ks]),(52,.cells 0 [sliN t]),(53,.cells 0 [.int .i64 0,.int .i64 0,.int .i64 0,.int .i64 0])]) (fun _=>idxQ (exQ t) c.xs= -1) ?_ ⟨Nat.zero_le _,fun k y hk=>absurd hk (Nat.not_lt_zero _)⟩ ?_ ?_
  · refine ⟨[(51, .blk 64 0), (52, .blk 65 0), (53, .blk 66 0)], rfl, au0, ?_, au25⟩
    exact RB.cells rfl rfl gg (RnL.same hnr) (RB.cells rfl rfl gg (RnL.same hnt) (RB.cells rfl rfl gg (RnL.same rfl) RB.nil))
  · rintro j ⟨hj, hb⟩
    by_cases hlt:j<c.xs.length
    · obtain ⟨x, hx⟩ := Qag hlt
      obtain⟨hx1,hx2⟩:=hok.xl x (List.mem_of_getElem? hx)
      have hC:=local116 hx1 hx2
      have hdr:=QfW hx
      have hdl:2<=((c.xs.flatMap exC).drop (j*2)).length:=by rw[hdr];simp
      simp(disch:=first|omega|exact PairsOK.mk rfl|(simp only[lenW]<;>omega)) only[hlt,hdr,hdl,Qaa,Qac,Qad,wW,wV,simprocAttr]
      refine SU.chc (HSpec.lend (FrzL.cons (FrzTo.same _) (FrzL.cons (FrzTo.fn FrzL.nil (FrzL.cons (FrzTo.ptr (g:=0) (cs:=[sliN t]) gg (FrzL.same _)) FrzL.nil)) FrzL.nil)) hC rfl) ?_
      cases hq:exQ t x with
      | true =>
        simp(disch:=first|omega|exact PairsOK.mk rfl|(simp only[lenW]<;>omega)) only[Qaa,Qac,Qad,wW,wV,simprocAttr]
        refine⟨.inr trivial,_,rfl,?_⟩
        rw[QrX (Qco hx hq hb)]
        exact Rn.same rfl
      | false =>
        simp(disch:=first|omega|exact PairsOK.mk rfl|(simp only[lenW]<;>omega)) only[Qaa,Qac,Qad,wW,wV,simprocAttr]
        refine⟨j+1,by omega,⟨by omega,fun k y hk hy=>?_⟩,?_⟩
        · by_cases e : k = j
          · subst e;rw[hx]at hy;cases hy;exact hq
          · exact hb k y (by omega) hy
        · refine ⟨[(51, .blk 51 0), (52, .blk 52 0), (53, .blk 53 0)], rfl, au0, ?_, au25⟩
          exact RB.cells rfl rfl gg (RnL.same hnr) (RB.cells rfl rfl gg (RnL.same hnt) (RB.cells rfl rfl gg (RnL.same rfl) RB.nil))
    · simp (disch := first | omega | exact PairsOK.mk rfl | (simp only [lenW] <;> omega)) only [hlt, Qaa, Qac, Qad, wW, wV, simprocAttr]
      refine⟨(),QbV fun x hx=>?_,?_⟩
      · obtain ⟨k, hk, hkx⟩ := List.getElem_of_mem hx
        exact hb k x (by omega) (by rw[List.getElem?_eq_getElem hk,hkx])
      · refine ⟨[(51, .blk 51 0), (52, .blk 52 0), (53, .blk 53 0)], rfl, au0, ?_, au25⟩
        exact RB.cells rfl rfl gg (RnL.same hnr) (RB.cells rfl rfl gg (RnL.same hnt) (RB.cells rfl rfl gg (RnL.same rfl) RB.nil))
  rintro _ hnx
  simp(disch:=first|omega|exact PairsOK.mk rfl|(simp only[lenW]<;>omega)) only[Qaa,Qac,Qad,wW,wV,simprocAttr]
  refine Qaj 300 (fun j:Nat=>[(1,.int .i64 i),(3,sliN r),(4,.ptr 51 0 0),(6,.ptr 52 0 0),(8,.ptr 53 0 0),(38,cos c.ks),(39,.int .i64 c.ks.length),(40,.int .i64 j)]) (fun _=>[(51,.cells 0 [evsV c.ev,its 99 c.cs,its 114 c.rs,exs c.xs,cos c.ks]),(52,.cells 0 [sliN t]),(53,.cells 0 [.int .i64 0,.int .i64 0,.int .i64 0,.int .i64 0])])
    (fun j=>j<=c.ks.length/\∀(k:Nat) y,k<j->c.ks[k]?=some y->koQ t y=false) (fun j=>c.ks.length-j) 0 2 400 (fun _:Unit=>[(1,.int .i64 i),(3,sliN r),(4,.ptr 51 0 0),(6,.ptr 52 0 0),(8,.ptr 53 0 0)]) (fun _=>[(51,.cells 0 [evsV c.ev,its 99 c.cs,its 114 c.rs,exs c.xs,cos c.ks]),(52,.cells 0 [sliN t]),(53,.cells 0 [.int .i64 0,.int .i64 0,.int .i64 0,.int .i64 0])]) (fun _=>idxQ (koQ t) c.ks= -1) ?_ ⟨Nat.zero_le _,fun k y hk=>absurd hk (Nat.not_lt_zero _)⟩ ?_ ?_
  · refine ⟨[(51, .blk 51 0), (52, .blk 52 0), (53, .blk 53 0)], rfl, au0, ?_, au25⟩
    exact RB.cells rfl rfl gg (RnL.same hnr) (RB.cells rfl rfl gg (RnL.same hnt) (RB.cells rfl rfl gg (RnL.same rfl) RB.nil))
  · rintro j ⟨hj, hb⟩
    by_cases hlt:j<c.ks.length
    · obtain ⟨k, hk⟩ := Qag hlt
      obtain⟨hk1,hk2⟩:=hok.kl k (List.mem_of_getElem? hk)
      have hdr:=QfX hk
      have hdl:3<=((c.ks.flatMap coC).drop (j*3)).length:=by rw[hdr];simp
      have hln:=SU.Qcr k.1
      have hco:noRefs (coC k)=true:=by simp only[coC,noRefs,noRef,SU.QaG];rfl
      have hsm:=QfO hok.t3 fun x hx=>(hk2 x hx).2
      simp(disch:=first|omega|exact PairsOK.mk rfl|(simp only[lenW]<;>omega)) only[hlt,hdr,hdl,Qaa,Qac,Qad,wW,wV,simprocAttr]
      refine Qaj 500 (fun m:Nat=>[(1,.int .i64 i),(3,sliN r),(4,.ptr 51 0 0),(6,.ptr 52 0 0),(8,.ptr 53 0 0),(38,cos c.ks),(39,.int .i64 c.ks.length),(40,.int .i64 j),(12,.int .i64 j),(13,.ptr 54 0 0),(14,.int .i64 (koV t (k.1.take m))),(46,tes k.1),(47,.int .i64 k.1.length),(48,.int .i64 m)]) (fun _=>[(51,.cells 0 [evsV c.ev,its 99 c.cs,its 114 c.rs,exs c.xs,cos c.ks]),(52,.cells 0 [sliN t]),(53,.cells 0 [.int .i64 0,.int .i64 0,.int .i64 0,.int .i64 0]),(54,.cells 0 (coC k))]) (fun m=>m<=k.1.length) (fun m=>k.1.length-m) 0 4 600
        (fun _:Unit=>[(1,.int .i64 i),(3,sliN r),(4,.ptr 51 0 0),(6,.ptr 52 0 0),(8,.ptr 53 0 0),(38,cos c.ks),(39,.int .i64 c.ks.length),(40,.int .i64 j),(12,.int .i64 j),(13,.ptr 54 0 0),(14,.int .i64 (koV t k.1))]) (fun _=>[(51,.cells 0 [evsV c.ev,its 99 c.cs,its 114 c.rs,exs c.xs,cos c.ks]),(52,.cells 0 [sliN t]),(53,.cells 0 [.int .i64 0,.int .i64 0,.int .i64 0,.int .i64 0]),(54,.cells 0 (coC k))]) (fun _=>True) ?_ (Nat.zero_le _) ?_ ?_
      · refine ⟨[(51, .blk 51 0), (52, .blk 52 0), (53, .blk 53 0), (54, .blk 304 0)], rfl, au0, ?_, au25⟩
        exact RB.cells rfl rfl gg (RnL.same hnr) (RB.cells rfl rfl gg (RnL.same hnt) (RB.cells rfl rfl gg (RnL.same rfl) (RB.cells rfl rfl gg (RnL.same hco) RB.nil)))
      · rintro m hm
        by_cases hlt2:m<k.1.length
        · obtain ⟨x, hx⟩ := Qag hlt2
          obtain⟨h1,h2'⟩:=hk2 x (List.mem_of_getElem? hx)
          obtain⟨y,hy⟩:=Qag h1
          have hyt:=hok.t3 y (List.mem_of_getElem? hy)
          have hyd:t.getD x.1 0=y:=by rw[List.getD_eq_getElem?_getD,hy];rfl
          have hdr2:=SU.QcH hx
          have hdl2:2<=((k.1.flatMap teC).drop (m*2)).length:=by rw[hdr2];simp
          have hsu:=Qg7 (t:=t) hx
          rw[hyd]at hsu
          have hp:=QfN h2' (b:=(y:Int)) ⟨by omega,by omega⟩
          have hs1:=hsm m hm
          have hw1:wr .i64 (x.2*(y:Int))=x.2*(y:Int):=QdW (by omega) (by omega)
          have hw2:wr .i64 (koV t (k.1.take m)+x.2*(y:Int))=koV t (k.1.take m)+x.2*(y:Int):=QdW (by omega) (by omega)
          simp(disch:=first|omega|exact PairsOK.mk rfl|(simp only[lenW]<;>omega)) only[hlt2,hdr2,hdl2,h1,Qaz hy,hw1,hw2,Qaa,Qac,Qad,wW,wV,simprocAttr]
          refine⟨m+1,by omega,by omega,?_⟩
          rw[hsu]
          refine⟨[(51,.blk 51 0),(52,.blk 52 0),(53,.blk 53 0),(54,.blk 54 0)],rfl,au0,?_,au25⟩
          exact RB.cells rfl rfl gg (RnL.same hnr) (RB.cells rfl rfl gg (RnL.same hnt) (RB.cells rfl rfl gg (RnL.same rfl) (RB.cells rfl rfl gg (RnL.same hco) RB.nil)))
        · have e : m = k.1.length := by omega
          subst e
          simp(disch:=first|omega|exact PairsOK.mk rfl|(simp only[lenW]<;>omega)) only[hlt2,List.take_length,Qaa,Qac,Qad,wW,wV,simprocAttr]
          refine⟨(),?_⟩
          refine⟨[(51,.blk 51 0),(52,.blk 52 0),(53,.blk 53 0),(54,.blk 54 0)],rfl,au0,?_,au25⟩
          exact RB.cells rfl rfl gg (RnL.same hnr) (RB.cells rfl rfl gg (RnL.same hnt) (RB.cells rfl rfl gg (RnL.same rfl) (RB.cells rfl rfl gg (RnL.same hco) RB.nil)))
      rintro _ _
      unfold coC
      cases hq:koQ t k with
      | true =>
        have hq':(k.2<koV t k.1)=True:=eq_true (by simpa[koQ]using hq)
        simp(disch:=first|omega|exact PairsOK.mk rfl|(simp only[lenW]<;>omega)) only[hq',Qaa,Qac,Qad,wW,wV,simprocAttr]
        refine⟨.inr trivial,_,rfl,?_⟩
        rw[QrY hnx (Qco hk hq hb)]
        exact Rn.same rfl
      | false =>
        have hq':(k.2<koV t k.1)=False:=eq_false (by simpa[koQ]using hq)
        simp(disch:=first|omega|exact PairsOK.mk rfl|(simp only[lenW]<;>omega)) only[hq',Qaa,Qac,Qad,wW,wV,simprocAttr]
        refine⟨j+1,by omega,⟨by omega,fun m y hm hy=>?_⟩,?_⟩
        · by_cases e : m = j
          · subst e;rw[hk]at hy;cases hy;exact hq
          · exact hb m y (by omega) hy
        · refine ⟨[(51, .blk 51 0), (52, .blk 52 0), (53, .blk 53 0)], rfl, au0, ?_, au25⟩
          exact RB.cells rfl rfl gg (RnL.same hnr) (RB.cells rfl rfl gg (RnL.same hnt) (RB.cells rfl rfl gg (RnL.same rfl) RB.nil))
    · simp (disch := first | omega | exact PairsOK.mk rfl | (simp only [lenW] <;> omega)) only [hlt, Qaa, Qac, Qad, wW, wV, simprocAttr]
      refine⟨(),QbV fun x hx=>?_,?_⟩
      · obtain ⟨k, hk, hkx⟩ := List.getElem_of_mem hx
        exact hb k x (by omega) (by rw[List.getElem?_eq_getElem hk,hkx])
      · refine ⟨[(51, .blk 51 0), (52, .blk 52 0), (53, .blk 53 0)], rfl, au0, ?_, au25⟩
        exact RB.cells rfl rfl gg (RnL.same hnr) (RB.cells rfl rfl gg (RnL.same hnt) (RB.cells rfl rfl gg (RnL.same rfl) RB.nil))
  rintro _ hnk
  rw[QrZ hnx hnk]
  simp(disch:=first|omega|exact PairsOK.mk rfl|(simp only[lenW]<;>omega)) only[Qaa,Qac,Qad,wW,wV,simprocAttr]
  refine cp hpo ?_
  have hpq:∀e,(decide (0<=rfI c r e)&& !(c.ev e).c)=(decide (0<=rfI c r e)&& !(c.ev e).c):=fun _=>rfl
  generalize evS (auL c.cs) t=L at*
  simp(disch:=first|omega|exact PairsOK.mk rfl|(simp only[lenW]<;>omega)) only[Qaa,Qac,Qad,wW,wV,simprocAttr]
  refine Qaj 700 (fun j:Nat=>[(1,.int .i64 i),(3,sliN r),(4,.ptr 51 0 0),(8,.ptr 53 0 0),(73,sliN L),(74,.int .i64 L.length),(75,.int .i64 j)]) (fun _=>[(51,.cells 0 [evsV c.ev,its 99 c.cs,its 114 c.rs,exs c.xs,cos c.ks]),(53,.cells 0 [.int .i64 0,.int .i64 0,.int .i64 0,.int .i64 0])])
    (fun j=>j<=L.length/\∀(k:Nat) y,k<j->L[k]?=some y->(decide (0<=rfI c r y)&& !(c.ev y).c)=false) (fun j=>L.length-j) 0 6 800 (fun _:Unit=>[(8,.ptr 53 0 0)]) (fun _=>[(53,.cells 0 [.int .i64 0,.int .i64 0,.int .i64 0,.int .i64 0])]) (fun _=>L.find? (fun e=>decide (0<=rfI c r e)&& !(c.ev e).c)=none) ?_ ⟨Nat.zero_le _,fun k y hk=>absurd hk (Nat.not_lt_zero _)⟩ ?_ ?_
  · refine ⟨[(51, .blk 51 0), (53, .blk 53 0)], rfl, au0, ?_, au25⟩
    exact RB.cells rfl rfl gg (RnL.same hnr) (RB.cells rfl rfl gg (RnL.same rfl) RB.nil)
  · rintro j ⟨hj, hb⟩
    by_cases hlt:j<L.length
    · obtain ⟨e, he⟩ := Qag hlt
      have hR:=hrf e
      have hg:=hgR e
      have he5:=hel e (List.mem_of_getElem? he)
      have hnext:(decide (0<=rfI c r e)&& !(c.ev e).c)=false->∀(k:Nat) y,k<j+1->L[k]?=some y->(decide (0<=rfI c r y)&& !(c.ev y).c)=false:=fun hq k y hk hy=>by
        by_cases e2:k=j
        · subst e2;rw[he]at hy;cases hy;exact hq
        · exact hb k y (by omega) hy
      simp(disch:=first|omega|exact PairsOK.mk rfl|(simp only[lenW]<;>omega)) only[hlt,Qaz he,Qaa,Qac,Qad,wW,wV,simprocAttr]
      refine cp hR ?_
      by_cases h0:0<=rfI c r e
      · cases hct : (c.ev e).c with
        | true =>
          have hq:=hnext (by rw[hct];simp)
          generalize rfI c r e=v at*
          simp(disch:=first|omega|exact PairsOK.mk rfl|(simp only[lenW]<;>omega)) only[h0,hct,he5,Qie,Qlh,evC,Qaa,Qac,Qad,wW,wV,simprocAttr]
          refine⟨j+1,by omega,⟨by omega,hq⟩,?_⟩
          refine⟨[(51,.blk 51 0),(53,.blk 53 0)],rfl,au0,?_,au25⟩
          exact RB.cells rfl rfl gg (RnL.same hnr) (RB.cells rfl rfl gg (RnL.same rfl) RB.nil)
        | false =>
          have hfd:=QfV (p:=fun e=>decide (0<=rfI c r e)&& !(c.ev e).c) he (by simp[h0,hct]) hb
          rw[hfd]
          rw[Option.map_some]
          generalize rfI c r e=v at*
          simp(disch:=first|omega|exact PairsOK.mk rfl|(simp only[lenW]<;>omega)) only[h0,hct,he5,Qie,Qlh,evC,Qaa,Qac,Qad,wW,wV,simprocAttr]
          exact⟨.inr trivial,_,rfl,Rn.same rfl⟩
      · have hq := hnext (by simp [h0])
        generalize rfI c r e=v at*
        simp(disch:=first|omega|exact PairsOK.mk rfl|(simp only[lenW]<;>omega)) only[h0,Qaa,Qac,Qad,wW,wV,simprocAttr]
        refine⟨j+1,by omega,⟨by omega,hq⟩,?_⟩
        refine⟨[(51,.blk 51 0),(53,.blk 53 0)],rfl,au0,?_,au25⟩
        exact RB.cells rfl rfl gg (RnL.same hnr) (RB.cells rfl rfl gg (RnL.same rfl) RB.nil)
    · simp (disch := first | omega | exact PairsOK.mk rfl | (simp only [lenW] <;> omega)) only [hlt, Qaa, Qac, Qad, wW, wV, simprocAttr]
      refine⟨(),QqV fun k y hk hy=>hb k y (by omega) hy,?_⟩
      refine⟨[(53,.blk 53 0)],rfl,au0,?_,au25⟩
      exact RB.cells rfl rfl gg (RnL.same rfl) RB.nil
  rintro _ hfn
  rw[hfn]
  simp(disch:=first|omega|exact PairsOK.mk rfl|(simp only[lenW]<;>omega)) only[Qaa,Qac,Qad,wW,wV,simprocAttr]
  exact⟨.inr trivial,_,rfl,Rn.same rfl⟩
end Go.AM.SO
