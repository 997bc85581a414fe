/- A part of the proof of GuardsOfCardSaid: lemmas on the way (AmGx). Conditions: none of ours. -/
import Derived.Laws.BytesString
import Derived.Laws.Externs
import Derived.Test.YtikknocmfjfohaaGreatDoorAmO2
set_option linter.unusedSectionVars false
set_option maxHeartbeats 32000000
set_option maxRecDepth 100000
set_option linter.unusedVariables false
set_option linter.unusedSimpArgs false
namespace Go.AM
variable{P:Program}{ok:Okc}{c:Ctx ok}{w:World}{h:Heap}
variable{v x:AV}{k:AV->HM AV}{cargs:Array Value}{h':Heap}{d:IntKind}{xs:List AV}{b cx m:Value}
def bytesOf:List AV->Option (List UInt8)|[]=>some []|.int .u8 n::r=>(bytesOf r).map (UInt8.ofNat n.toNat::·)|_=>none
def aConvB(x:AV):HM AV:=match x with|.str _=>.fail|x=>aSrc 1 x fun a n=>match bytesOf a with|some s=>.ret (.str s)|none=>.fail
def convBT(P:Program)(src dst:TypeId):Bool:=match P.underlying src,P.underlying dst with|some (.slice e),some .string=>(match P.underlying e with|some (.int .u8)=>true|_=>false)|_,_=>false
theorem Qhk:∀{ys:List AV}{us:List Value}{s:List UInt8},bytesOf ys=some s->VRels c w ys us->∃f:List Int,us=f.map (Value.int .u8)/\s=f.map fun n=>UInt8.ofNat n.toNat
 |[],us,s,b,d=>by simp only[bytesOf,Zaa]at b;simp only[VRels]at d;simp_all|y::ys,us,s,b,d=>by
  have g:∃n s2,y=.int .u8 n/\bytesOf ys=some s2/\s=UInt8.ofNat n.toNat::s2:=by
   cases y<;>try(simp[bytesOf]at b;done)
   rename_i k n;cases k<;>try(simp[bytesOf]at b;done)
   simp only[bytesOf]at b;cases a:bytesOf ys with|none=>simp[a]at b|some s2=>simp only[a,ZbC,Zaa]at b;exact⟨n,s2,rfl,rfl,b.symm⟩
  obtain⟨n,s2,rfl,a,rfl⟩:=g;simp only[VRels]at d;obtain⟨v,i,rfl,h1,h⟩:=d;simp only[VRel]at h1;obtain⟨f,rfl,rfl⟩:=Qhk a h;exact⟨n::f,by simp[h1],by simp⟩
theorem Qpx(a:List Int):a.foldl (fun r n=>r.push (UInt8.ofNat n.toNat)) ByteArray.empty=⟨(a.map fun n=>UInt8.ofNat n.toNat).toArray⟩:=by
 have:∀(a:List Int)(r:ByteArray),a.foldl (fun r n=>r.push (UInt8.ofNat n.toNat)) r=⟨r.data++(a.map fun n=>UInt8.ofNat n.toNat).toArray⟩:=by intro a;induction a with|nil=>intro r;simp|cons n a b=>intro r;simp only[ZaR,b,ZaL];congr 1;apply Array.ext';simp[ByteArray.push]
 simp_all
theorem QnW{src dst}(H:HRel c h w)(f:VRel c w x m)(g:convBT P src dst=true)(hm:(aConvB x).run h=some (v,h')):Sound P c w (convert src dst m) v h':=by
 unfold convBT at g;split at g
 ·rename_i e u t;split at g
  ·rename_i he;have o:∃a l cp,m=.slice a l cp:=by
    cases x<;>simp only[aConvB,aSrc,HM.run]at hm<;>try(cases hm;done)
    ·simp_all[VRel]
    ·simp only[VRel]at f;grind
    ·simp only[VRel]at f;grind
    ·simp only[VRel]at f;grind
    simp only[VRel]at f;grind
   have b:(aSrc 1 x fun r n=>match bytesOf r with|some s=>.ret (.str s)|none=>.fail).run h=some (v,h'):=by cases x<;>first|exact hm|(cases hm;done)
   obtain⟨r,n,us,S,b⟩:=Qc3 (P:=P) H f b;split at b
   ·rename_i s k;simp only[HM.run,Zaa,Zal]at b;obtain⟨rfl,rfl⟩:=b;obtain⟨d,rfl,rfl⟩:=Qhk k S.rels;obtain⟨a,l,cp,rfl⟩:=o;have y:=S.lenOf w;have hf:=S.first w rfl;refine .here H (cv:=.string ⟨(d.map fun n=>UInt8.ofNat n.toNat).toArray⟩) ?_ (by simp[VRel])
    rw[run_convert_bytes_string w src dst e a l cp u he t];cases a with|none=>
     have q:n=l:=by simp_all[Builtin.lenOf]
     have:(d.map (Value.int .u8))=[]:=by simpa[Builtin.firstCells]using hf
     have p:d=[]:=by simp_all
     subst p;simp[Conv.bytesToString,ByteArray.empty,ByteArray.emptyWithCapacity];rfl|some a=>
     have q:n=l:=by simp_all[Builtin.lenOf]
     subst q;have i:(loadCells a n).run P w=.ok (d.map (Value.int .u8)).toArray w:=by grind[Builtin.firstCells]
     rw[run_bytesToString w a n cp d i,Qpx]
   grind[HM.run]
  cases g
 cases g
def aNilS(x:AV)(k:AV->HM AV):HM AV:=match x with
 |.sl b g _ 0 _=>.look b fun y=>match y with|some (.cells a (_::_))=>bif Nat.beq a g then k .nsl else .fail|_=>.fail
 |x=>k x
def aEqN(neg:Bool)(x:AV):HM AV:=aNilS x fun x=>.opt (aEq (.nil 2) neg x .nilsl)
theorem Qpy(H:HRel c h w)(hx:VRel c w x cx)(hm:(aNilS x k).run h=some (v,h')):∃x',VRel c w x' cx/\(k x').run h=some (v,h'):=by
 unfold aNilS at hm;split at hm
 ·rename_i b g off sz;simp only[HM.run]at hm;split at hm;·rename_i g' y ys hb;cases hg:Nat.beq g' g with|false=>rw[hg]at hm;simp[HM.run]at hm|true=>
   rw[hg]at hm;have:g'=g:=by simpa using hg
   subst this;refine⟨.nsl,?_,hm⟩;simp only[VRel]at hx⊢;rcases H.blk b _ hb with⟨k1,k2⟩|⟨cb,base,C,e,fr,k1,_⟩;·cases k2
   ·grind
  grind[HM.run]
 grind
def aCap(x:AV):Option AV:=match x with|.nilsl=>some (.int .i64 0)|_=>none
def capT(P:Program)(t:TypeId):Bool:=match P.underlying t with|some (.slice _)=>true|_=>false
theorem Qqf{t ty}(d:VRel c w x b)(a:capT P t=true)(hm:aCap x=some v):Pure P c w (Builtin.cap_ #[t] ty #[b]) v:=by
 unfold aCap at hm;cases x<;>simp only[reduceCtorEq,Zaa]at hm;subst hm;simp only[VRel]at d;subst d;unfold capT at a;split at a;·rename_i e f;exact⟨_,by simp[Builtin.cap_,run_underlying f,goInt];rfl,by simp[VRel]⟩
 cases a
def aExt(k:Nat)(xs:List AV):Option AV:=match k,xs with|0,[.int _ x,.int _ y,.int _ z]=>if 0<=x/\0<=y/\0<=z/\z<=1 then some (.tup [.int .u64 ((x+y+z)%18446744073709551616),.int .u64 ((x+y+z)/18446744073709551616)])else none|1,[.int _ x,.int _ y,.int _ z]=>if 0<=x/\x<18446744073709551616/\0<=y/\y<18446744073709551616/\0<=z/\z<=1 then some (.tup [.int .u64 ((x+18446744073709551616-y-z)%18446744073709551616),.int .u64 (if x<y+z then 1 else 0)])else none|2,[.typed t n (.ptr b g o)]=>some (.typed t n (.ptr b g o))|_,_=>none
def extName(k:Nat):String:=if k=0 then "math/bits.Add64"else if k=1 then "math/bits.Sub64"else "internal/abi.NoEscape"
def sub64Entry:Array Value->Sem Value:=fun args=>do let(x,y,b)<-Extern.MathBitsCarry.three "Sub64" args;pure (Extern.MathBitsCarry.pair ((x+Extern.MathBitsCarry.m64-y-b)%Extern.MathBitsCarry.m64) (if x<y+b then 1 else 0))
theorem Qqg(x y z)(l:0<=x)(g:x<18446744073709551616)(i:0<=y)(f:y<18446744073709551616)(a:0<=z)(m:z<=1){b c}(w):(sub64Entry #[.int d x,.int b y,.int c z]).run P w=.ok (.tuple #[.int .u64 ((x+18446744073709551616-y-z)%18446744073709551616),.int .u64 (if x<y+z then 1 else 0)]) w:=by
 have key:∀k:Nat,k<=1->(sub64Entry #[.int d x,.int b y,.int c (k:Int)]).run P w=.ok (Extern.MathBitsCarry.pair ((x.toNat+Extern.MathBitsCarry.m64-y.toNat-k)%Extern.MathBitsCarry.m64) (if x.toNat<y.toNat+k then 1 else 0)) w:=by
  intro k n;have:k=0\/k=1:=by omega
  rcases this with rfl|rfl<;>rfl
 obtain⟨k,rfl⟩:=ZbI a;rw[key k (by omega)];obtain⟨X,rfl⟩:=ZbI l;obtain⟨Y,rfl⟩:=ZbI i;simp only[Extern.MathBitsCarry.pair,Extern.MathBitsCarry.m64,Int.toNat_natCast];congr 4;·simp;omega
 congr 2;by_cases h:X<Y+k;·grind
 grind
theorem run_add64'(x y z)(g:0<=x)(f:0<=y)(a:0<=z)(i:z<=1){b c}(w):(add64Entry #[.int b x,.int c y,.int d z]).run P w=.ok (.tuple #[.int .u64 ((x+y+z)%18446744073709551616),.int .u64 ((x+y+z)/18446744073709551616)]) w:=by
 have key:∀k:Nat,k<=1->(add64Entry #[.int b x,.int c y,.int d (k:Int)]).run P w=.ok (Extern.MathBitsCarry.pair ((x.toNat+y.toNat+k)%Extern.MathBitsCarry.m64) ((x.toNat+y.toNat+k)/Extern.MathBitsCarry.m64)) w:=by
  intro k h;have:k=0\/k=1:=by omega
  rcases this with rfl|rfl<;>rfl
 obtain⟨k,rfl⟩:=ZbI a;rw[key k (by omega)];obtain⟨X,rfl⟩:=ZbI g;obtain⟨Y,rfl⟩:=ZbI f;simp_all[Extern.MathBitsCarry.pair,Extern.MathBitsCarry.m64]
theorem Qpz{fn}(a:fn.name= "math/bits.Add64"):Extern.find fn=some add64Entry:=by
 have h1:Extern.allGenericRows.lookup "math/bits.Add64"=none:=by kernel_rfl
 have c:Extern.allTypedRows.lookup "math/bits.Add64"=none:=by kernel_rfl
 have b:Extern.allRows.lookup "math/bits.Add64"=some add64Entry:=by kernel_rfl
 grind[Extern.find]
theorem QlJ{fn}(a:fn.name= "internal/abi.NoEscape"):Extern.find fn=some Extern.AbiNoEscape.same:=by
 have h1:Extern.allGenericRows.lookup "internal/abi.NoEscape"=none:=by kernel_rfl
 have c:Extern.allTypedRows.lookup "internal/abi.NoEscape"=none:=by kernel_rfl
 have b:Extern.allRows.lookup "internal/abi.NoEscape"=some Extern.AbiNoEscape.same:=by kernel_rfl
 grind[Extern.find]
theorem QpA{fn}(a:fn.name= "math/bits.Sub64"):Extern.find fn=some sub64Entry:=by
 have h1:Extern.allGenericRows.lookup "math/bits.Sub64"=none:=by kernel_rfl
 have c:Extern.allTypedRows.lookup "math/bits.Sub64"=none:=by kernel_rfl
 have b:Extern.allRows.lookup "math/bits.Sub64"=some sub64Entry:=by kernel_rfl
 grind[Extern.find]
def extFn(P:Program)(f k:Nat):Bool:=match P.funcs[f]? with|some fn=>fn.body.isNone&&fn.name==extName k&&(Extern.findNext fn).isNone&&decide (k<=2)|none=>false
theorem Qqh{f k}(hf:extFn P f k=true)(hx:VRels c w xs cargs.toList)(hm:aExt k xs=some v):∃cv,(callFunc f cargs).run P w=.ok (.value cv) w/\VRel c w v cv:=by
 unfold extFn at hf;split at hf
 ·rename_i fn hfn;simp only[Zab,beq_iff_eq,decide_eq_true_eq]at hf;obtain⟨⟨⟨hb,hn⟩,hnx⟩,hk⟩:=hf;have hnx:Extern.findNext fn=none:=by simpa using hnx
  have three:∀{kx ky kz:IntKind}{x y z:Int},xs=[.int kx x,.int ky y,.int kz z]->cargs=#[.int kx x,.int ky y,.int kz z]:=by intro kx ky kz x y z e;subst e;simp only[VRels,VRel]at hx;grind
  unfold aExt at hm;split at hm
  ·rename_i kx x ky y kz z;have e:=three rfl;subst e;split at hm
   ·rename_i hc;cases hm;have hn':fn.name= "math/bits.Add64":=hn;refine⟨.tuple #[.int .u64 ((x+y+z)%18446744073709551616),.int .u64 ((x+y+z)/18446744073709551616)],?_,?_⟩;·rw[run_callFunc_extern hfn (by rw[hn'];rfl) hb hnx (Qpz hn'),run_add64' x y z hc.1 hc.2.1 hc.2.2.1 hc.2.2.2];rfl
    ·simp only[VRel];exact⟨_,rfl,by simp[VRels,VRel]⟩
   ·cases hm
  ·rename_i kx x ky y kz z;have e:=three rfl;subst e;split at hm
   ·rename_i hc;cases hm;have hn':fn.name= "math/bits.Sub64":=hn;refine⟨.tuple #[.int .u64 ((x+18446744073709551616-y-z)%18446744073709551616),.int .u64 (if x<y+z then 1 else 0)],?_,?_⟩;·rw[run_callFunc_extern hfn (by rw[hn'];rfl) hb hnx (QpA hn'),Qqg x y z hc.1 hc.2.1 hc.2.2.1 hc.2.2.2.1 hc.2.2.2.2.1 hc.2.2.2.2.2];rfl
    ·simp only[VRel];exact⟨_,rfl,by simp[VRels,VRel]⟩
   ·cases hm
  ·rename_i t n b g o;cases hm;have hn':fn.name= "internal/abi.NoEscape":=hn;simp only[VRels]at hx;obtain⟨u,us,e1,hu,rfl⟩:=hx;have e:cargs=#[u]:=by grind
   subst e;refine⟨u,?_,hu⟩;rw[run_callFunc_extern hfn (by rw[hn'];rfl) hb hnx (QlJ hn')];rfl
  ·cases hm
 ·cases hf
end Go.AM
