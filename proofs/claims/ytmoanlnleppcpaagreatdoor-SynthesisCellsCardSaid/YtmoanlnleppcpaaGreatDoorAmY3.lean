/- A part of the proof of SynthesisCellsCardSaid: lemmas on the way (AmGx). Conditions: none of ours. -/
import Derived.Laws.BytesString
import Derived.Laws.Externs
import Derived.Test.YtmoanlnleppcpaaGreatDoorAmY2
set_option linter.unusedSectionVars false
set_option maxHeartbeats 32000000
set_option maxRecDepth 100000
set_option linter.unusedVariables false
set_option linter.unusedSimpArgs false
namespace Go.AM
variable{P:Program}{ok:Okc}{c:Ctx ok}{w:World}{h:Heap}
def bytesOf:List AV->Option (List UInt8)|[]=>some []|.int .u8 n::r=>(bytesOf r).map (UInt8.ofNat n.toNat::·)|_=>none
def aConvB(x:AV):HM AV:=match x with|.str _=>.fail|x=>aSrc 1 x fun a n=>match bytesOf a with|some s=>.ret (.str s)|none=>.fail
def convBT(P:Program)(src dst:TypeId):Bool:=match P.underlying src,P.underlying dst with|some (.slice e),some .string=>(match P.underlying e with|some (.int .u8)=>true|_=>false)|_,_=>false
theorem QgH:∀{ys:List AV}{us:List Value}{s:List UInt8},bytesOf ys=some s->VRels c w ys us->∃g:List Int,us=g.map (Value.int .u8)/\s=g.map fun n=>UInt8.ofNat n.toNat
 |[],us,s,d,f=>by simp only[bytesOf,Zaa]at d;simp only[VRels]at f;simp_all|y::ys,us,s,d,f=>by
  have h:∃n s2,y=.int .u8 n/\bytesOf ys=some s2/\s=UInt8.ofNat n.toNat::s2:=by
   cases y<;>try(simp[bytesOf]at d;done)
   rename_i k n;cases k<;>try(simp[bytesOf]at d;done)
   simp only[bytesOf]at d;cases a:bytesOf ys with|none=>simp[a]at d|some s2=>simp only[a,Zbv,Zaa]at d;exact⟨n,s2,rfl,rfl,d.symm⟩
  obtain⟨n,s2,rfl,a,rfl⟩:=h;simp only[VRels]at f;obtain⟨v,j,rfl,h1,i⟩:=f;simp only[VRel]at h1;obtain⟨g,rfl,rfl⟩:=QgH a i;exact⟨n::g,by simp[h1],by simp⟩
theorem Qn1(a:List Int):a.foldl (fun r n=>r.push (UInt8.ofNat n.toNat)) ByteArray.empty=⟨(a.map fun n=>UInt8.ofNat n.toNat).toArray⟩:=by
 have:∀(a:List Int)(r:ByteArray),a.foldl (fun r n=>r.push (UInt8.ofNat n.toNat)) r=⟨r.data++(a.map fun n=>UInt8.ofNat n.toNat).toArray⟩:=by intro a;induction a with|nil=>intro r;simp|cons n a c=>intro r;simp only[ZaN,c,ZaR];congr 1;apply Array.ext';simp[ByteArray.push]
 simp_all
theorem QmC{src dst:TypeId}{x v:AV}{m:Value}{h':Heap}(H:HRel c h w)(g:VRel c w x m)(i:convBT P src dst=true)(hm:(aConvB x).run h=some (v,h')):Sound P c w (convert src dst m) v h':=by
 unfold convBT at i;split at i
 ·rename_i e u t;split at i
  ·rename_i he;have o:∃a l cp,m=.slice a l cp:=by
    cases x<;>simp only[aConvB,aSrc,HM.run]at hm<;>try(cases hm;done)
    ·simp_all[VRel]
    ·simp only[VRel]at g;grind
    ·simp only[VRel]at g;grind
    ·simp only[VRel]at g;grind
    simp only[VRel]at g;grind
   have d:(aSrc 1 x fun r n=>match bytesOf r with|some s=>.ret (.str s)|none=>.fail).run h=some (v,h'):=by cases x<;>first|exact hm|(cases hm;done)
   obtain⟨r,n,us,S,d⟩:=QcH (P:=P) H g d;split at d
   ·rename_i s k;simp only[HM.run,Zaa,Zaj]at d;obtain⟨rfl,rfl⟩:=d;obtain⟨f,rfl,rfl⟩:=QgH k S.rels;obtain⟨a,l,cp,rfl⟩:=o;have y:=S.lenOf w;have hf:=S.first w rfl;refine .here H (cv:=.string ⟨(f.map fun n=>UInt8.ofNat n.toNat).toArray⟩) ?_ (by simp[VRel])
    rw[run_convert_bytes_string w src dst e a l cp u he t];cases a with|none=>
     have q:n=l:=by simp_all[Builtin.lenOf]
     have:(f.map (Value.int .u8))=[]:=by simpa[Builtin.firstCells]using hf
     have p:f=[]:=by simp_all
     subst p;simp[Conv.bytesToString,ByteArray.empty,ByteArray.emptyWithCapacity];rfl|some a=>
     have q:n=l:=by simp_all[Builtin.lenOf]
     subst q;have j:(loadCells a n).run P w=.ok (f.map (Value.int .u8)).toArray w:=by grind[Builtin.firstCells]
     rw[run_bytesToString w a n cp f j,Qn1]
   grind[HM.run]
  cases i
 cases i
def aNilS(x:AV)(k:AV->HM AV):HM AV:=match x with
 |.sl b g _ 0 _=>.look b fun y=>match y with|some (.cells a (_::_))=>bif Nat.beq a g then k .nsl else .fail|_=>.fail
 |x=>k x
def aEqN(neg:Bool)(x:AV):HM AV:=aNilS x fun x=>.opt (aEq (.nil 2) neg x .nilsl)
theorem Qn2(H:HRel c h w){x v:AV}{f:Value}{k:AV->HM AV}{h':Heap}(l:VRel c w x f)(hm:(aNilS x k).run h=some (v,h')):∃d,VRel c w d f/\(k d).run h=some (v,h'):=by
 unfold aNilS at hm;split at hm
 ·rename_i b g off sz;simp only[HM.run]at hm;split at hm;·rename_i i y q j;cases a:Nat.beq i g with|false=>rw[a]at hm;simp[HM.run]at hm|true=>
   rw[a]at hm;have:i=g:=by simpa using a
   subst this;refine⟨.nsl,?_,hm⟩;simp only[VRel]at l⊢;rcases H.blk b _ j with⟨n,m⟩|⟨o,base,C,e,p,n,_⟩;·cases m
   grind
  grind[HM.run]
 grind
def aCap(x:AV):Option AV:=match x with|.nilsl=>some (.int .i64 0)|_=>none
def capT(P:Program)(t:TypeId):Bool:=match P.underlying t with|some (.slice _)=>true|_=>false
theorem QoI{t ty:TypeId}{x v:AV}{d:Value}(f:VRel c w x d)(a:capT P t=true)(hm:aCap x=some v):Pure P c w (Builtin.cap_ #[t] ty #[d]) v:=by
 unfold aCap at hm;cases x<;>simp only[reduceCtorEq,Zaa]at hm;subst hm;simp only[VRel]at f;subst f;unfold capT at a;split at a;·rename_i e g;exact⟨_,by simp[Builtin.cap_,run_underlying g,goInt];rfl,by simp[VRel]⟩
 cases a
def aExt(k:Nat)(xs:List AV):Option AV:=match k,xs with|0,[.int _ x,.int _ y,.int _ z]=>if 0<=x/\0<=y/\0<=z/\z<=1 then some (.tup [.int .u64 ((x+y+z)%18446744073709551616),.int .u64 ((x+y+z)/18446744073709551616)])else none|1,[.int _ x,.int _ y,.int _ z]=>if 0<=x/\x<18446744073709551616/\0<=y/\y<18446744073709551616/\0<=z/\z<=1 then some (.tup [.int .u64 ((x+18446744073709551616-y-z)%18446744073709551616),.int .u64 (if x<y+z then 1 else 0)])else none|2,[.typed t n (.ptr b g o)]=>some (.typed t n (.ptr b g o))|_,_=>none
def extName(k:Nat):String:=if k=0 then "math/bits.Add64"else if k=1 then "math/bits.Sub64"else "internal/abi.NoEscape"
def sub64Entry:Array Value->Sem Value:=fun args=>do let(x,y,b)<-Extern.MathBitsCarry.three "Sub64" args;pure (Extern.MathBitsCarry.pair ((x+Extern.MathBitsCarry.m64-y-b)%Extern.MathBitsCarry.m64) (if x<y+b then 1 else 0))
theorem QoJ(x y z:Int)(l:0<=x)(i:x<18446744073709551616)(j:0<=y)(g:y<18446744073709551616)(a:0<=z)(m:z<=1){f c d:IntKind}(w:World):(sub64Entry #[.int f x,.int c y,.int d z]).run P w=.ok (.tuple #[.int .u64 ((x+18446744073709551616-y-z)%18446744073709551616),.int .u64 (if x<y+z then 1 else 0)]) w:=by
 have key:∀k:Nat,k<=1->(sub64Entry #[.int f x,.int c y,.int d (k:Int)]).run P w=.ok (Extern.MathBitsCarry.pair ((x.toNat+Extern.MathBitsCarry.m64-y.toNat-k)%Extern.MathBitsCarry.m64) (if x.toNat<y.toNat+k then 1 else 0)) w:=by
  intro k n;have:k=0\/k=1:=by omega
  rcases this with rfl|rfl<;>rfl
 obtain⟨k,rfl⟩:=Za7 a;rw[key k (by omega)];obtain⟨X,rfl⟩:=Za7 l;obtain⟨Y,rfl⟩:=Za7 j;simp only[Extern.MathBitsCarry.pair,Extern.MathBitsCarry.m64,Int.toNat_natCast];congr 4;·simp;omega
 congr 2;by_cases h:X<Y+k;·grind
 grind
theorem run_add64'(x y z:Int)(h:0<=x)(g:0<=y)(a:0<=z)(j:z<=1){c d f:IntKind}(w:World):(add64Entry #[.int c x,.int d y,.int f z]).run P w=.ok (.tuple #[.int .u64 ((x+y+z)%18446744073709551616),.int .u64 ((x+y+z)/18446744073709551616)]) w:=by
 have key:∀k:Nat,k<=1->(add64Entry #[.int c x,.int d y,.int f (k:Int)]).run P w=.ok (Extern.MathBitsCarry.pair ((x.toNat+y.toNat+k)%Extern.MathBitsCarry.m64) ((x.toNat+y.toNat+k)/Extern.MathBitsCarry.m64)) w:=by
  intro k i;have:k=0\/k=1:=by omega
  rcases this with rfl|rfl<;>rfl
 obtain⟨k,rfl⟩:=Za7 a;rw[key k (by omega)];obtain⟨X,rfl⟩:=Za7 h;obtain⟨Y,rfl⟩:=Za7 g;simp_all[Extern.MathBitsCarry.pair,Extern.MathBitsCarry.m64]
theorem Qn3{fn:Func}(a:fn.name= "math/bits.Add64"):Extern.find fn=some add64Entry:=by
 have h1:Extern.allGenericRows.lookup "math/bits.Add64"=none:=by kernel_rfl
 have d:Extern.allTypedRows.lookup "math/bits.Add64"=none:=by kernel_rfl
 have c:Extern.allRows.lookup "math/bits.Add64"=some add64Entry:=by kernel_rfl
 grind[Extern.find]
theorem Qky{fn:Func}(a:fn.name= "internal/abi.NoEscape"):Extern.find fn=some Extern.AbiNoEscape.same:=by
 have h1:Extern.allGenericRows.lookup "internal/abi.NoEscape"=none:=by kernel_rfl
 have d:Extern.allTypedRows.lookup "internal/abi.NoEscape"=none:=by kernel_rfl
 have c:Extern.allRows.lookup "internal/abi.NoEscape"=some Extern.AbiNoEscape.same:=by kernel_rfl
 grind[Extern.find]
theorem Qn4{fn:Func}(a:fn.name= "math/bits.Sub64"):Extern.find fn=some sub64Entry:=by
 have h1:Extern.allGenericRows.lookup "math/bits.Sub64"=none:=by kernel_rfl
 have d:Extern.allTypedRows.lookup "math/bits.Sub64"=none:=by kernel_rfl
 have c:Extern.allRows.lookup "math/bits.Sub64"=some sub64Entry:=by kernel_rfl
 grind[Extern.find]
def extFn(P:Program)(f k:Nat):Bool:=match P.funcs[f]? with|some fn=>fn.body.isNone&&fn.name==extName k&&(Extern.findNext fn).isNone&&decide (k<=2)|none=>false
theorem QoK{f k:Nat}{xs:List AV}{v:AV}{a:Array Value}(hf:extFn P f k=true)(r:VRels c w xs a.toList)(hm:aExt k xs=some v):∃cv,(callFunc f a).run P w=.ok (.value cv) w/\VRel c w v cv:=by
 unfold extFn at hf;split at hf
 ·rename_i fn i;simp only[Zab,beq_iff_eq,decide_eq_true_eq]at hf;obtain⟨⟨⟨q,p⟩,h⟩,B⟩:=hf;have h:Extern.findNext fn=none:=by simpa using h
  have three:∀{j l m:IntKind}{x y z:Int},xs=[.int j x,.int l y,.int m z]->a=#[.int j x,.int l y,.int m z]:=by intro j l m x y z e;subst e;simp only[VRels,VRel]at r;grind
  unfold aExt at hm;split at hm
  ·rename_i j x l y m z;have e:=three rfl;subst e;split at hm
   ·rename_i hc;cases hm;have d:fn.name= "math/bits.Add64":=p;refine⟨.tuple #[.int .u64 ((x+y+z)%18446744073709551616),.int .u64 ((x+y+z)/18446744073709551616)],?_,?_⟩;·rw[run_callFunc_extern i (by rw[d];rfl) q h (Qn3 d),run_add64' x y z hc.1 hc.2.1 hc.2.2.1 hc.2.2.2];rfl
    simp only[VRel];exact⟨_,rfl,by simp[VRels,VRel]⟩
   cases hm
  ·rename_i j x l y m z;have e:=three rfl;subst e;split at hm
   ·rename_i hc;cases hm;have d:fn.name= "math/bits.Sub64":=p;refine⟨.tuple #[.int .u64 ((x+18446744073709551616-y-z)%18446744073709551616),.int .u64 (if x<y+z then 1 else 0)],?_,?_⟩;·rw[run_callFunc_extern i (by rw[d];rfl) q h (Qn4 d),QoJ x y z hc.1 hc.2.1 hc.2.2.1 hc.2.2.2.1 hc.2.2.2.2.1 hc.2.2.2.2.2];rfl
    simp only[VRel];exact⟨_,rfl,by simp[VRels,VRel]⟩
   cases hm
  ·rename_i t n b g o;cases hm;have d:fn.name= "internal/abi.NoEscape":=p;simp only[VRels]at r;obtain⟨u,us,A,s,rfl⟩:=r;have e:a=#[u]:=by grind
   subst e;refine⟨u,?_,s⟩;rw[run_callFunc_extern i (by rw[d];rfl) q h (Qky d)];rfl
  cases hm
 cases hf
end Go.AM
