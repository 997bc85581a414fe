/- A part of the proof of CatalogueWordsCardSaid: lemmas on the way (AmGx). Conditions: none of ours. -/
import Derived.Laws.BytesString
import Derived.Laws.Externs
import Derived.Test.YteiijgolpigjdaaGreatDoorAmW2
set_option linter.unusedSectionVars false
set_option maxHeartbeats 32000000
set_option maxRecDepth 100000
set_option linter.unusedVariables false
set_option linter.unusedSimpArgs false
namespace Go.AM
variable {P:Program} {ok:Okc} {c:Ctx ok} {w:World} {h:Heap}
def bytesOf:List AV->Option (List UInt8)
 |[]=>some []
 | .int .u8 n::r=>(bytesOf r).map (UInt8.ofNat n.toNat:: ·)
 |_=>none
def aConvB (x:AV):HM AV:=
 match x with
 | .str _=> .fail
 |x=>aSrc 1 x fun ys n=>match bytesOf ys with
  |some s=> .ret (.str s)
  |none=> .fail
def convBT (P:Program) (src dst:TypeId):Bool:=
 match P.underlying src,P.underlying dst with
 |some (.slice e),some .string=>(match P.underlying e with|some (.int .u8)=>true|_=>false)
 |_,_=>false
theorem Qgp:∀{ys:List AV} {us:List Value} {s:List UInt8},bytesOf ys=some s->VRels c w ys us->∃ns:List Int,us=ns.map (Value.int .u8)/\s=ns.map fun n=>UInt8.ofNat n.toNat
 |[],us,s,hb,hr=>by
  simp only[bytesOf,Option.some.injEq]at hb
  simp only[VRels]at hr
  simp_all
 | y :: ys, us, s, hb, hr => by
  have hy:∃n s2,y= .int .u8 n/\bytesOf ys=some s2/\s=UInt8.ofNat n.toNat::s2:=by
   cases y<;>try (simp[bytesOf]at hb;done)
   rename_i k n
   cases k<;>try (simp[bytesOf]at hb;done)
   simp only[bytesOf]at hb
   cases hb2:bytesOf ys with
   |none=>simp[hb2]at hb
   |some s2=>
    simp only[hb2,Option.map_some,Option.some.injEq]at hb
    exact⟨n,s2,rfl,rfl,hb.symm⟩
  obtain⟨n,s2,rfl,hb2,rfl⟩:=hy
  simp only[VRels]at hr
  obtain⟨v,vs,rfl,h1,h2⟩:=hr
  simp only[VRel]at h1
  obtain⟨ns,rfl,rfl⟩:=Qgp hb2 h2
  exact⟨n::ns,by simp[h1],by simp⟩
theorem Qnc (ns:List Int):ns.foldl (fun r n=>r.push (UInt8.ofNat n.toNat)) ByteArray.empty=⟨(ns.map fun n=>UInt8.ofNat n.toNat).toArray⟩:=by
 have:∀(ns:List Int) (r:ByteArray),ns.foldl (fun r n=>r.push (UInt8.ofNat n.toNat)) r=⟨r.data++(ns.map fun n=>UInt8.ofNat n.toNat).toArray⟩:=by
  intro ns
  induction ns with
  |nil=>intro r;simp
  |cons n ns ih=>
   intro r
   simp only[List.foldl_cons,ih,List.map_cons]
   congr 1
   apply Array.ext'
   simp[ByteArray.push]
 simp_all
theorem QlS {src dst:TypeId} {x v:AV} {cx:Value} {h':Heap} (H:HRel c h w) (hx:VRel c w x cx) (ht:convBT P src dst=true) (hm:(aConvB x).run h=some (v,h')):
  Sound P c w (convert src dst cx) v h':=by
 unfold convBT at ht
 split at ht
 ·rename_i e hs hd
  split at ht
  ·rename_i he
   have hx0:∃a l cp,cx= .slice a l cp:=by
    cases x<;>simp only[aConvB,aSrc,HM.run]at hm<;>try (cases hm;done)
    ·simp_all [VRel]
    ·simp only [VRel] at hx
     grind
    ·simp only [VRel] at hx
     grind
    ·simp only[VRel]at hx;grind
    ·simp only[VRel]at hx;grind
   have hm':(aSrc 1 x fun ys n=>match bytesOf ys with|some s=> .ret (.str s)|none=> .fail).run h=some (v,h'):=by
    cases x<;>first|exact hm|(cases hm;done)
   obtain⟨ys,n,us,S,hm'⟩:=QcP (P:=P) H hx hm'
   split at hm'
   ·rename_i s hs'
    simp only[HM.run,Option.some.injEq,Prod.mk.injEq]at hm'
    obtain⟨rfl,rfl⟩:=hm'
    obtain⟨ns,rfl,rfl⟩:=Qgp hs' S.rels
    obtain⟨a,l,cp,rfl⟩:=hx0
    have hl:=S.lenOf w
    have hf:=S.first w rfl
    refine .here H (cv:= .string ⟨(ns.map fun n=>UInt8.ofNat n.toNat).toArray⟩) ?_ (by simp[VRel])
    rw[run_convert_bytes_string w src dst e a l cp hs he hd]
    cases a with
    |none=>
     have hn:n=l:=by simp_all [Builtin.lenOf]
     have:(ns.map (Value.int .u8))=[]:=by simpa[Builtin.firstCells]using hf
     have hns:ns=[]:=by simp_all
     subst hns
     simp[Conv.bytesToString,ByteArray.empty,ByteArray.emptyWithCapacity]
     rfl
    |some a=>
     have hn:n=l:=by simp_all [Builtin.lenOf]
     subst hn
     have hf':(loadCells a n).run P w= .ok (ns.map (Value.int .u8)).toArray w:=by grind [Builtin.firstCells]
     rw[run_bytesToString w a n cp ns hf',Qnc]
   grind [HM.run]
  ·cases ht
 ·cases ht
def aNilS (x:AV) (k:AV->HM AV):HM AV:=
 match x with
 | .sl b g _ 0 _=> .look b fun y=>match y with
  |some (.cells g' (_::_))=>bif Nat.beq g' g then k .nsl else .fail
  |_=> .fail
 |x=>k x
def aEqN (neg:Bool) (x:AV):HM AV:=aNilS x fun x=> .opt (aEq (.nil 2) neg x .nilsl)
theorem Qnd (H:HRel c h w) {x v:AV} {cx:Value} {k:AV->HM AV} {h':Heap} (hx:VRel c w x cx) (hm:(aNilS x k).run h=some (v,h')):
  ∃x',VRel c w x' cx/\(k x').run h=some (v,h'):=by
 unfold aNilS at hm
 split at hm
 ·rename_i b g off sz
  simp only[HM.run]at hm
  split at hm
  ·rename_i g' y ys hb
   cases hg:Nat.beq g' g with
   |false=>rw[hg]at hm;simp[HM.run]at hm
   |true=>
    rw[hg]at hm
    have:g'=g:=by simpa using hg
    subst this
    refine⟨.nsl,?_,hm⟩
    simp only[VRel]at hx⊢
    rcases H.blk b _ hb with⟨k1,k2⟩|⟨cb,base,C,e,fr,k1,_⟩
    ·cases k2
    ·grind
  grind [HM.run]
 grind
def aCap (x:AV):Option AV:=
 match x with
 | .nilsl=>some (.int .i64 0)
 |_=>none
def capT (P:Program) (t:TypeId):Bool:=match P.underlying t with|some (.slice _)=>true|_=>false
theorem QnR {t ty:TypeId} {x v:AV} {cx:Value} (hx:VRel c w x cx) (ht:capT P t=true) (hm:aCap x=some v):Pure P c w (Builtin.cap_ #[t] ty #[cx]) v:=by
 unfold aCap at hm
 cases x<;>simp only[reduceCtorEq,Option.some.injEq]at hm
 subst hm
 simp only[VRel]at hx
 subst hx
 unfold capT at ht
 split at ht
 ·rename_i e hu
  exact⟨_,by simp[Builtin.cap_,run_underlying hu,goInt];rfl,by simp[VRel]⟩
 ·cases ht
def aExt (k:Nat) (xs:List AV):Option AV:=
 match k,xs with
 |0,[.int _ x,.int _ y,.int _ z]=>if 0<=x/\0<=y/\0<=z/\z<=1 then some (.tup [.int .u64 ((x+y+z) % 18446744073709551616),.int .u64 ((x+y+z)/18446744073709551616)])else none
 | 1, [.int _ x, .int _ y, .int _ z] => if 0 <= x /\ x < 18446744073709551616 /\ 0 <= y /\ y < 18446744073709551616 /\ 0 <= z /\ z <= 1 then
   some (.tup [.int .u64 ((x+18446744073709551616-y-z) % 18446744073709551616),.int .u64 (if x<y+z then 1 else 0)])else none
 |2,[.typed t n (.ptr b g o)]=>some (.typed t n (.ptr b g o))
 |_,_=>none
def extName (k:Nat):String:=if k=0 then "math/bits.Add64" else if k=1 then "math/bits.Sub64" else "internal/abi.NoEscape"
def sub64Entry:Array Value->Sem Value:=fun args=>do
 let (x,y,b)<-Extern.MathBitsCarry.three "Sub64" args
 pure (Extern.MathBitsCarry.pair ((x+Extern.MathBitsCarry.m64-y-b) % Extern.MathBitsCarry.m64) (if x<y+b then 1 else 0))
theorem QnS (x y z:Int) (hx:0<=x) (hx2:x<18446744073709551616) (hy:0<=y) (hy2:y<18446744073709551616) (hz0:0<=z) (hz:z<=1) {kx ky kz:IntKind} (w:World):
  (sub64Entry #[.int kx x, .int ky y, .int kz z]).run P w =
   .ok (.tuple #[.int .u64 ((x+18446744073709551616-y-z) % 18446744073709551616),.int .u64 (if x<y+z then 1 else 0)]) w:=by
 have key:∀k:Nat,k<=1->(sub64Entry #[.int kx x,.int ky y,.int kz (k:Int)]).run P w=
   .ok (Extern.MathBitsCarry.pair ((x.toNat+Extern.MathBitsCarry.m64-y.toNat-k) % Extern.MathBitsCarry.m64) (if x.toNat<y.toNat+k then 1 else 0)) w:=by
  intro k hk
  have:k=0\/k=1:=by omega
  rcases this with rfl|rfl<;>rfl
 obtain⟨k,rfl⟩:=Int.eq_ofNat_of_zero_le hz0
 rw[key k (by omega)]
 obtain⟨X,rfl⟩:=Int.eq_ofNat_of_zero_le hx
 obtain⟨Y,rfl⟩:=Int.eq_ofNat_of_zero_le hy
 simp only[Extern.MathBitsCarry.pair,Extern.MathBitsCarry.m64,Int.toNat_natCast]
 congr 4
 ·simp;omega
 ·congr 2
  by_cases h:X<Y+k
  ·grind
  grind
theorem run_add64' (x y z:Int) (hx:0<=x) (hy:0<=y) (hz0:0<=z) (hz:z<=1) {kx ky kz:IntKind} (w:World):
  (add64Entry #[.int kx x, .int ky y, .int kz z]).run P w =
   .ok (.tuple #[.int .u64 ((x+y+z) % 18446744073709551616),.int .u64 ((x+y+z)/18446744073709551616)]) w:=by
 have key:∀k:Nat,k<=1->(add64Entry #[.int kx x,.int ky y,.int kz (k:Int)]).run P w=
   .ok (Extern.MathBitsCarry.pair ((x.toNat+y.toNat+k) % Extern.MathBitsCarry.m64) ((x.toNat+y.toNat+k)/Extern.MathBitsCarry.m64)) w:=by
  intro k hk
  have:k=0\/k=1:=by omega
  rcases this with rfl|rfl<;>rfl
 obtain⟨k,rfl⟩:=Int.eq_ofNat_of_zero_le hz0
 rw[key k (by omega)]
 obtain⟨X,rfl⟩:=Int.eq_ofNat_of_zero_le hx
 obtain⟨Y,rfl⟩:=Int.eq_ofNat_of_zero_le hy
 simp_all [Extern.MathBitsCarry.pair,Extern.MathBitsCarry.m64]
theorem Qne {fn:Func} (hn:fn.name= "math/bits.Add64"):Extern.find fn=some add64Entry:=by
 have h1:Extern.allGenericRows.lookup "math/bits.Add64" =none:=by kernel_rfl
 have h2:Extern.allTypedRows.lookup "math/bits.Add64" =none:=by kernel_rfl
 have h3:Extern.allRows.lookup "math/bits.Add64" =some add64Entry:=by kernel_rfl
 grind [Extern.find]
theorem QjS {fn:Func} (hn:fn.name= "internal/abi.NoEscape"):Extern.find fn=some Extern.AbiNoEscape.same:=by
 have h1:Extern.allGenericRows.lookup "internal/abi.NoEscape" =none:=by kernel_rfl
 have h2:Extern.allTypedRows.lookup "internal/abi.NoEscape" =none:=by kernel_rfl
 have h3:Extern.allRows.lookup "internal/abi.NoEscape" =some Extern.AbiNoEscape.same:=by kernel_rfl
 grind [Extern.find]
theorem Qnf {fn:Func} (hn:fn.name= "math/bits.Sub64"):Extern.find fn=some sub64Entry:=by
 have h1:Extern.allGenericRows.lookup "math/bits.Sub64" =none:=by kernel_rfl
 have h2:Extern.allTypedRows.lookup "math/bits.Sub64" =none:=by kernel_rfl
 have h3:Extern.allRows.lookup "math/bits.Sub64" =some sub64Entry:=by kernel_rfl
 grind [Extern.find]
def extFn (P:Program) (f k:Nat):Bool:=
 match P.funcs[f]? with
 |some fn=>fn.body.isNone&&fn.name==extName k&&(Extern.findNext fn).isNone&&decide (k<=2)
 |none=>false
theorem QnT {f k:Nat} {xs:List AV} {v:AV} {cargs:Array Value} (hf:extFn P f k=true) (hx:VRels c w xs cargs.toList) (hm:aExt k xs=some v):
  ∃cv,(callFunc f cargs).run P w= .ok (.value cv) w/\VRel c w v cv:=by
 unfold extFn at hf
 split at hf
 ·rename_i fn hfn
  simp only[Bool.and_eq_true,beq_iff_eq,decide_eq_true_eq]at hf
  obtain⟨⟨⟨hb,hn⟩,hnx⟩,hk⟩:=hf
  have hnx:Extern.findNext fn=none:=by simpa using hnx
  have three:∀{kx ky kz:IntKind} {x y z:Int},xs=[.int kx x,.int ky y,.int kz z]->cargs= #[.int kx x,.int ky y,.int kz z]:=by
   intro kx ky kz x y z e
   subst e
   simp only[VRels,VRel]at hx
   grind
  unfold aExt at hm
  split at hm
  ·rename_i kx x ky y kz z
   have e:=three rfl
   subst e
   split at hm
   ·rename_i hc
    cases hm
    have hn':fn.name= "math/bits.Add64" :=hn
    refine⟨.tuple #[.int .u64 ((x+y+z) % 18446744073709551616),.int .u64 ((x+y+z)/18446744073709551616)],?_,?_⟩
    ·rw[run_callFunc_extern hfn (by rw[hn'];rfl) hb hnx (Qne hn'),run_add64' x y z hc.1 hc.2.1 hc.2.2.1 hc.2.2.2];rfl
    ·simp only [VRel]
     exact⟨_,rfl,by simp[VRels,VRel]⟩
   ·cases hm
  ·rename_i kx x ky y kz z
   have e:=three rfl
   subst e
   split at hm
   ·rename_i hc
    cases hm
    have hn':fn.name= "math/bits.Sub64" :=hn
    refine⟨.tuple #[.int .u64 ((x+18446744073709551616-y-z) % 18446744073709551616),.int .u64 (if x<y+z then 1 else 0)],?_,?_⟩
    ·rw[run_callFunc_extern hfn (by rw[hn'];rfl) hb hnx (Qnf hn'),QnS x y z hc.1 hc.2.1 hc.2.2.1 hc.2.2.2.1 hc.2.2.2.2.1 hc.2.2.2.2.2];rfl
    ·simp only [VRel]
     exact⟨_,rfl,by simp[VRels,VRel]⟩
   ·cases hm
  ·rename_i t n b g o
   cases hm
   have hn':fn.name= "internal/abi.NoEscape" :=hn
   simp only[VRels]at hx
   obtain⟨u,us,e1,hu,rfl⟩:=hx
   have e:cargs= #[u]:=by grind
   subst e
   refine⟨u,?_,hu⟩
   rw[run_callFunc_extern hfn (by rw[hn'];rfl) hb hnx (QjS hn')];rfl
  ·cases hm
 ·cases hf
end Go.AM
