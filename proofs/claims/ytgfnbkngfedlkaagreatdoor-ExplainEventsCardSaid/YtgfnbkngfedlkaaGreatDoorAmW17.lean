/- Lemmas on the way to ExplainEventsCardSaid. Conditions: none of ours. -/
import Derived.Shelf.Sort.Plain
import Derived.Shelf.Slices.In.SortNone
import Derived.Shelf.Slices.CompactI
import Derived.Test.YtgfnbkngfedlkaaGreatDoorAmW16
set_option linter.unusedSectionVars false
set_option maxHeartbeats 32000000
set_option maxRecDepth 100000
set_option linter.unusedVariables false
set_option linter.unusedSimpArgs false
set_option linter.unusedSectionVars false
namespace Go.AM
open Go.Proofs Go.Shelf Go.Sort
variable{P:Program}{ρ:Ren}
theorem HSpec.rowI{f b γ:Nat}(z:Callable P f)(l d:List Int)(I:d.length=l.length)(v:AV)(cv:Option Addr->Nat->Value)(h0:l=[]->∀a cap w,Calls P f #[.slice a 0 cap] w fun e w'=>e=.returned (cv a cap)/\w'=w)(hc:l≠[]->∀i off cap w,Holds (Value.int .i64) w i off l.toArray->i<w.heap.size->l.length<=cap->Calls P f #[.slice (some ⟨i,off,none⟩) l.length cap] w fun e w'=>e=.returned (cv (some ⟨i,off,none⟩) cap)/\∃n os,w'=grow (putRow (Value.int .i64) (Sort.ahead w n) i off d.toArray) os)(hv0:l=[]->∀{ok:Okc}(c:Ctx ok)w a cap,VRel c w (.sl b γ 0 0 1) (.slice a 0 cap)->VRel c w v (cv a cap))(hv:∀{ok:Okc}(c:Ctx ok)w cb base cap C e fr,c.ρ b γ=some (.loc cb base)->l.length<=cap->w.heap[cb]?=some (.cells C e fr)->base+cap*1<=C.size->VRel c w v (cv (some ⟨cb,base,none⟩) cap)){h:Heap}(S:h.get b=some (.cells γ (l.map (AV.int .i64))))(hlim:b<1099511627775):HSpec P f [.sl b γ 0 l.length 1] h v (h.set b (.cells γ (d.map (AV.int .i64)))):=by
 refine⟨z,?_⟩;intro c w g H ha;have L:∀x j,(h.set b x).get j=if j=b then some x else h.get j:=fun x j=>Zck h (by simp_all[lim]) j x;obtain⟨v1,U,t⟩:∃v1,g.toList=[v1]/\VRel c w (.sl b γ 0 l.length 1) v1:=by simp only[VRels]at ha;obtain⟨v1,vs,e,h1,rfl⟩:=ha;exact⟨v1,e,h1⟩
 have Q:g=#[v1]:=Array.toList_inj.1 (by rw[U]);subst Q;have none:l=[]->∀p cap,v1=.slice p 0 cap->Calls P f #[v1] w fun e w'=>∃cv Z,e=.returned cv/\Evo c w Z w'/\HRel Z (h.set b (.cells γ (d.map (AV.int .i64)))) w'/\VRel Z w' v cv:=by
  rintro e p cap rfl;refine(h0 e p cap w).mono ?_;rintro e1 w'⟨rfl,rfl⟩;have e':d=[]:=Zbj (by rw[I,e];rfl);refine⟨_,c,rfl,Evo.refl c _,QbS (fun j=>?_) H,hv0 e c _ p cap (by subst e;exact t)⟩;rw[L,e',<-e,<-S];split;·rename_i q;rw[q]
  rfl
 simp only[VRel]at t;rcases t with⟨_,h1,_,rfl⟩|⟨cb,base,o,cap,C,e,fr,hp,rfl,R,J,K⟩;·have e:l=[]:=Zbj h1;exact none e _ _ rfl
 by_cases m:l.length=0;·have e:l=[]:=Zbj m;exact none e _ _ (by rw[m])
 obtain⟨ho,hbd⟩:=K.resolve_left (by omega);have Y:base=o:=ho.symm;subst Y;obtain⟨C',e',fr',hcO,B,X,hbs,G⟩:=H.here S hp;rw[J]at B;cases B;obtain⟨r,hr⟩:=QgS G;have hblk:=QaY J;have hH:Holds (Value.int .i64) w cb base l.toArray:=by
  intro j V;have M:j<l.length:=by simpa using V
  have T:base+j<C.size:=by omega
  refine⟨?_,?_⟩
  ·simp only[World.cell?,J];have h2:C.toList[base+j]?=some ((l.map (Value.int .i64))[j]'(by simpa using M)):=by rw[<-ZbH,hr,ZaT (by simpa using M),Zal]
   grind
  simp only[World.frozen?,J];have:=X (base+j) T;grind
 have A:=hc (fun e=>m (by rw[e];rfl)) cb base cap w hH hblk R;refine A.mono ?_;rintro e1 w'⟨rfl,n,os,rfl⟩;have s:∀j,j<w.heap.size->(grow (putRow (Value.int .i64) (Sort.ahead w n) cb base d.toArray) os).heap[j]?=if j=cb then some (.cells (putCells (Value.int .i64) base d.toArray C) e fr)else w.heap[j]?:=fun j V=>by
  rw[heap_grow_old _ _ (by grind[putRow,mapBlock,Sort.ahead])];show(w.heap.modify cb _)[j]?=_;rw[Array.getElem?_modify];by_cases e2:cb=j;·subst e2;rw[if_pos rfl,if_pos rfl,J];rfl
  grind
 have N:w.heap.size<=(grow (putRow (Value.int .i64) (Sort.ahead w n) cb base d.toArray) os).heap.size:=by grind[putRow,mapBlock,Sort.ahead]
 have u:=s cb hblk;rw[if_pos rfl]at u;have hl':d.toArray.size=l.length:=by simpa using I
 obtain⟨E,H2⟩:=H.put (w':=grow (putRow (Value.int .i64) (Sort.ahead w n) cb base d.toArray) os) (b:=b) (cb:=cb) (base:=base) (x:=.cells γ (d.map (AV.int .i64))) (by grind[lim]) (fun y hy=>H.later b _ S y hy) (.inr hp) (.inr ⟨γ,base,⟨_,S,rfl,fun k=>by simp⟩,hp⟩) rfl rfl rfl N (by omega) (fun j V hne=>by grind) (fun C2 e2 fr2 h2=>by grind[putCells]) (fun E=>.inr ⟨cb,base,_,_,_,by show(if b=b/\γ=γ then _ else _)=_;grind,.inr rfl,u,by grind[putCells],by grind[putCells],by
  have hd:(putCells (Value.int .i64) base d.toArray C).toList.drop base=d.map (Value.int .i64)++C.toList.drop (base+d.length):=by apply ZbA;grind[putCells]
  rw[hd];exact Qe7⟩);exact⟨_,_,rfl,E,H2,hv _ _ _ _ _ _ _ _ (by show(if b=b/\γ=γ then _ else _)=_;grind) R u (by grind[putCells])⟩
end Go.AM
