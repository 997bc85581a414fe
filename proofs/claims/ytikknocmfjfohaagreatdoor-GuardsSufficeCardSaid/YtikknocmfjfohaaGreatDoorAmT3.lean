/- On the way to GuardsSuffice. Conditions: none of ours. -/
import Derived.Calls
import Derived.Below
import Derived.Laws.Sem
import Derived.Laws.World
import Derived.Laws.Cells
import Derived.Laws.Append
import Derived.Laws.Tables
import Derived.Laws.Strings
import Derived.Laws.StructEq
import Derived.Laws.BytesString
import Derived.Laws.Externs
theorem Go.AM.bpqBp{p:Prop}(h:p:=by
 rcases b.frzNew c h with h|h|h;·exact a.frzNew c h
 ·rcases a.own c h with h|h;·simp_all
  omega
 exact .inr (.inr (ZaC a.size h))):p:=h
set_option linter.unusedSectionVars false
set_option maxHeartbeats 32000000
set_option maxRecDepth 100000
set_option linter.unusedVariables false
set_option linter.unusedSimpArgs false
namespace Go.AM.SD
end Go.AM.SD
namespace Go.AM.SE
end Go.AM.SE
namespace Go.AM.SO
end Go.AM.SO
namespace Go.Proofs
end Go.Proofs
theorem _root_.Go.AM.Zaa:type_of%@List.mem_of_getElem?.{0}:=@List.mem_of_getElem?
theorem _root_.Go.AM.Zab:type_of%@Option.some.injEq.{0}:=@Option.some.injEq
theorem _root_.Go.AM.Zac:type_of%@Bool.and_eq_true:=@Bool.and_eq_true
theorem _root_.Go.AM.Zad:type_of%@Bool.and_true:=@Bool.and_true
theorem _root_.Go.AM.Zae:type_of%@Bool.and_self:=@Bool.and_self
theorem _root_.Go.AM.Zaf:type_of%@List.getElem?_eq_some_iff.{0}:=@List.getElem?_eq_some_iff
theorem _root_.Go.AM.Zag:type_of%@List.length_append.{0}:=@List.length_append
theorem _root_.Go.AM.Zah:type_of%@List.getD_eq_getElem?_getD.{0}:=@List.getD_eq_getElem?_getD
theorem _root_.Go.AM.Zai:type_of%@Bool.true_and:=@Bool.true_and
theorem _root_.Go.AM.Zaj:type_of%@Nat.zero_le:=@Nat.zero_le
theorem _root_.Go.AM.Zak:type_of%@List.getElem?_eq_getElem.{0}:=@List.getElem?_eq_getElem
theorem _root_.Go.AM.Zal:type_of%@Prod.mk.injEq.{0,0}:=@Prod.mk.injEq
theorem _root_.Go.AM.Zam:type_of%@Bool.not_eq_true:=@Bool.not_eq_true
theorem _root_.Go.AM.Zan:type_of%@List.take_length.{0}:=@List.take_length
theorem _root_.Go.AM.Zao:type_of%@List.flatMap_append.{0,0}:=@List.flatMap_append
theorem _root_.Go.AM.Zap:type_of%@List.length_take.{0}:=@List.length_take
theorem _root_.Go.AM.Zaq:type_of%@List.mem_map.{0,0}:=@List.mem_map
theorem _root_.Go.AM.Zar:type_of%@Nat.le_refl:=@Nat.le_refl
theorem _root_.Go.AM.Zas:type_of%@List.append_nil.{0}:=@List.append_nil
theorem _root_.Go.AM.Zat:type_of%@Bool.false_eq_true:=@Bool.false_eq_true
theorem _root_.Go.AM.Zau:type_of%@List.mem_range:=@List.mem_range
theorem _root_.Go.AM.Zav:type_of%@List.mem_cons.{0}:=@List.mem_cons
theorem _root_.Go.AM.Zaw:type_of%@Nat.le_of_ble_eq_true:=@Nat.le_of_ble_eq_true
theorem _root_.Go.AM.Zax:type_of%@List.length_map.{0,0}:=@List.length_map
theorem _root_.Go.AM.Zay:type_of%@Nat.not_lt_zero:=@Nat.not_lt_zero
theorem _root_.Go.AM.Zaz:type_of%@List.flatMap_cons.{0,0}:=@List.flatMap_cons
theorem _root_.Go.AM.ZaA:type_of%@List.getElem?_map.{0,0}:=@List.getElem?_map
theorem _root_.Go.AM.ZaB:type_of%@List.pairwise_cons.{0}:=@List.pairwise_cons
theorem _root_.Go.AM.ZaC:type_of%@Nat.le_trans:=@Nat.le_trans
theorem _root_.Go.AM.ZaD:type_of%@List.length_cons.{0}:=@List.length_cons
theorem _root_.Go.AM.ZaE:type_of%@List.mem_append.{0}:=@List.mem_append
theorem _root_.Go.AM.ZaF:type_of%@Int.natCast_add:=@Int.natCast_add
theorem _root_.Go.AM.ZaG:type_of%@List.getElem?_eq_none.{0}:=@List.getElem?_eq_none
theorem _root_.Go.AM.ZaH:type_of%@List.all_eq_true.{0}:=@List.all_eq_true
theorem _root_.Go.AM.ZaI:type_of%@Bool.eq_false_iff:=@Bool.eq_false_iff
theorem _root_.Go.AM.ZaJ:type_of%@List.map_append.{0,0}:=@List.map_append
theorem _root_.Go.AM.ZaK:type_of%@List.range_succ:=@List.range_succ
theorem _root_.Go.AM.ZaL:type_of%@List.map_cons.{0,0}:=@List.map_cons
theorem _root_.Go.AM.ZaM:type_of%@List.take_of_length_le.{0}:=@List.take_of_length_le
theorem _root_.Go.AM.ZaN:type_of%@List.nodup_iff_pairwise_ne.{0}:=@List.nodup_iff_pairwise_ne
theorem _root_.Go.AM.ZaO:type_of%@List.getElem_of_mem.{0}:=@List.getElem_of_mem
theorem _root_.Go.AM.ZaP:type_of%@List.getElem?_append_left.{0}:=@List.getElem?_append_left
theorem _root_.Go.AM.ZaQ:type_of%@List.append_assoc.{0}:=@List.append_assoc
theorem _root_.Go.AM.ZaR:type_of%@List.length_drop.{0}:=@List.length_drop
theorem _root_.Go.AM.ZaS:type_of%@List.foldl_cons.{0,0}:=@List.foldl_cons
theorem _root_.Go.AM.ZaT:type_of%@List.nil_append.{0}:=@List.nil_append
theorem _root_.Go.AM.ZaU:type_of%@List.mem_singleton.{0}:=@List.mem_singleton
theorem _root_.Go.AM.ZaV:type_of%@Int.natCast_nonneg:=@Int.natCast_nonneg
theorem _root_.Go.AM.ZaW:type_of%@List.cons_append.{0}:=@List.cons_append
theorem _root_.Go.AM.ZaX:type_of%@List.mem_of_mem_take.{0}:=@List.mem_of_mem_take
theorem _root_.Go.AM.ZaY:type_of%@Array.getElem?_toList.{0}:=@Array.getElem?_toList
theorem _root_.Go.AM.ZaZ:type_of%@List.mem_filter.{0}:=@List.mem_filter
theorem _root_.Go.AM.Za0:type_of%@List.pairwise_iff_getElem.{0}:=@List.pairwise_iff_getElem
theorem _root_.Go.AM.Za1:type_of%@List.drop_drop.{0}:=@List.drop_drop
theorem _root_.Go.AM.Za2:type_of%@List.not_mem_nil.{0}:=@List.not_mem_nil
theorem _root_.Go.AM.Za3:type_of%@List.nodup_range:=@List.nodup_range
theorem _root_.Go.AM.Za4:type_of%@List.length_filter_le.{0}:=@List.length_filter_le
theorem _root_.Go.AM.Za5:type_of%@List.drop_zero.{0}:=@List.drop_zero
theorem _root_.Go.AM.Za6:type_of%@List.take_add_one.{0}:=@List.take_add_one
theorem _root_.Go.AM.Za7:type_of%@List.replicate_succ.{0}:=@List.replicate_succ
theorem _root_.Go.AM.Za8:type_of%@List.any_eq_true.{0}:=@List.any_eq_true
theorem _root_.Go.AM.Za9:type_of%@List.take_append_drop.{0}:=@List.take_append_drop
theorem _root_.Go.AM.Zba:type_of%@List.foldl_append.{0,0}:=@List.foldl_append
theorem _root_.Go.AM.Zbb:type_of%@Nat.lt_of_lt_of_le:=@Nat.lt_of_lt_of_le
theorem _root_.Go.AM.Zbc:type_of%@List.take_succ_cons.{0}:=@List.take_succ_cons
theorem _root_.Go.AM.Zbd:type_of%@List.length_nil.{0}:=@List.length_nil
theorem _root_.Go.AM.Zbe:type_of%@Nat.mul_le_mul_right:=@Nat.mul_le_mul_right
theorem _root_.Go.AM.Zbf:type_of%@List.map_congr_left.{0,0}:=@List.map_congr_left
theorem _root_.Go.AM.Zbg:type_of%@List.pairwise_append.{0}:=@List.pairwise_append
theorem _root_.Go.AM.Zbh:type_of%@Bool.not_eq_true':=@Bool.not_eq_true'
theorem _root_.Go.AM.Zbi:type_of%@List.getElem?_cons_zero.{0}:=@List.getElem?_cons_zero
theorem _root_.Go.AM.Zbj:type_of%@List.filter_append.{0}:=@List.filter_append
theorem _root_.Go.AM.Zbk:type_of%@List.getElem?_append_right.{0}:=@List.getElem?_append_right
theorem _root_.Go.AM.Zbl:type_of%@Int.tmod_eq_emod_of_nonneg:=@Int.tmod_eq_emod_of_nonneg
theorem _root_.Go.AM.Zbm:type_of%@List.drop_eq_getElem_cons.{0}:=@List.drop_eq_getElem_cons
theorem _root_.Go.AM.Zbn:type_of%@Nat.succ_mul:=@Nat.succ_mul
theorem _root_.Go.AM.Zbo:type_of%@Bool.or_eq_true:=@Bool.or_eq_true
theorem _root_.Go.AM.Zbp:type_of%@List.drop_succ_cons.{0}:=@List.drop_succ_cons
theorem _root_.Go.AM.Zbq:type_of%@Int.eq_ofNat_of_zero_le:=@Int.eq_ofNat_of_zero_le
theorem _root_.Go.AM.Zbr:type_of%@List.pairwise_map.{0,0}:=@List.pairwise_map
theorem _root_.Go.AM.Zbs:type_of%@List.head?_cons.{0}:=@List.head?_cons
theorem _root_.Go.AM.Zbt:type_of%@List.findIdx_lt_length_of_exists.{0}:=@List.findIdx_lt_length_of_exists
theorem _root_.Go.AM.Zbu:type_of%@List.getElem?_range:=@List.getElem?_range
theorem _root_.Go.AM.Zbv:type_of%@List.length_replicate.{0}:=@List.length_replicate
theorem _root_.Go.AM.Zbw:type_of%@List.flatten_cons.{0}:=@List.flatten_cons
theorem _root_.Go.AM.Zbx:type_of%@List.getElem?_cons_succ.{0}:=@List.getElem?_cons_succ
theorem _root_.Go.AM.Zby:type_of%@List.mem_flatMap.{0,0}:=@List.mem_flatMap
theorem _root_.Go.AM.Zbz:type_of%@List.getElem?_set_self.{0}:=@List.getElem?_set_self
theorem _root_.Go.AM.ZbA:type_of%@List.filter_congr.{0}:=@List.filter_congr
theorem _root_.Go.AM.ZbB:type_of%@List.any_eq_false.{0}:=@List.any_eq_false
theorem _root_.Go.AM.ZbC:type_of%@List.head?_drop.{0}:=@List.head?_drop
theorem _root_.Go.AM.ZbD:type_of%@List.length_set.{0}:=@List.length_set
theorem _root_.Go.AM.ZbE:type_of%@Nat.lt_or_ge:=@Nat.lt_or_ge
theorem _root_.Go.AM.ZbF:type_of%@List.pairwise_lt_range:=@List.pairwise_lt_range
theorem _root_.Go.AM.ZbG:type_of%@List.ext_getElem?.{0}:=@List.ext_getElem?
theorem _root_.Go.AM.ZbH:type_of%@List.length_range:=@List.length_range
theorem _root_.Go.AM.ZbI:type_of%@List.filter_eq_self.{0}:=@List.filter_eq_self
theorem _root_.Go.AM.ZbJ:type_of%@List.filterMap_cons.{0,0}:=@List.filterMap_cons
theorem _root_.Go.AM.ZbK:type_of%@Option.map_some.{0,0}:=@Option.map_some
theorem _root_.Go.AM.ZbL:type_of%@List.mem_of_find?_eq_some.{0}:=@List.mem_of_find?_eq_some
theorem _root_.Go.AM.ZbM:type_of%@List.length_singleton.{0}:=@List.length_singleton
theorem _root_.Go.AM.ZbN:type_of%@List.getElem?_drop.{0}:=@List.getElem?_drop
theorem _root_.Go.AM.ZbO:type_of%@Nat.sub_self:=@Nat.sub_self
theorem _root_.Go.AM.ZbP:type_of%@Nat.add_mul:=@Nat.add_mul
theorem _root_.Go.AM.ZbQ:type_of%@Bool.false_and:=@Bool.false_and
theorem _root_.Go.AM.ZbR:type_of%@List.all_append.{0}:=@List.all_append
theorem _root_.Go.AM.ZbS:type_of%@Nat.zero_add:=@Nat.zero_add
theorem _root_.Go.AM.ZbT:type_of%@List.filter_cons.{0}:=@List.filter_cons
theorem _root_.Go.AM.ZbU:type_of%@Nat.add_sub_cancel:=@Nat.add_sub_cancel
theorem _root_.Go.AM.ZbV:type_of%@List.set_cons_zero.{0}:=@List.set_cons_zero
theorem _root_.Go.AM.ZbW:type_of%@List.mem_filterMap.{0,0}:=@List.mem_filterMap
theorem _root_.Go.AM.ZbX:type_of%@List.find?_eq_none.{0}:=@List.find?_eq_none
theorem _root_.Go.AM.ZbY:type_of%@Nat.mul_one:=@Nat.mul_one
theorem _root_.Go.AM.ZbZ:type_of%@Option.some.inj.{0}:=@Option.some.inj
theorem _root_.Go.AM.Zb0:type_of%@List.range_eq_range':=@List.range_eq_range'
theorem _root_.Go.AM.Zb1:type_of%@Nat.blt_eq:=@Nat.blt_eq
theorem _root_.Go.AM.Zb2:type_of%@List.eq_nil_of_length_eq_zero.{0}:=@List.eq_nil_of_length_eq_zero
theorem _root_.Go.AM.Zb3:type_of%@Option.bind_eq_some_iff.{0,0}:=@Option.bind_eq_some_iff
theorem _root_.Go.AM.Zb4:type_of%@List.flatten_append.{0}:=@List.flatten_append
theorem _root_.Go.AM.Zb5:type_of%@List.take_zero.{0}:=@List.take_zero
theorem _root_.Go.AM.Zb6:type_of%@List.flatMap_nil.{0,0}:=@List.flatMap_nil
theorem _root_.Go.AM.Zb7:type_of%@Nat.beq_eq:=@Nat.beq_eq
theorem _root_.Go.AM.Zb8:type_of%@List.set_cons_succ.{0}:=@List.set_cons_succ
theorem _root_.Go.AM.Zb9:type_of%@Bool.eq_iff_iff:=@Bool.eq_iff_iff
theorem _root_.Go.AM.Zca:type_of%@List.findIdx_eq.{0}:=@List.findIdx_eq
theorem _root_.Go.AM.Zcb:type_of%@List.all_cons.{0}:=@List.all_cons
theorem _root_.Go.AM.Zcc:type_of%@Bool.or_false:=@Bool.or_false
theorem _root_.Go.AM.Zcd:type_of%@List.mem_iff_getElem.{0}:=@List.mem_iff_getElem
theorem _root_.Go.AM.Zce:type_of%@Nat.mod_lt:=@Nat.mod_lt
theorem _root_.Go.AM.Zcf:type_of%@Nat.zero_mul:=@Nat.zero_mul
theorem _root_.Go.AM.Zcg:type_of%@List.range'_succ:=@List.range'_succ
theorem _root_.Go.AM.Zch:type_of%@List.countP_cons.{0}:=@List.countP_cons
theorem _root_.Go.AM.Zci:type_of%@List.map_map.{0,0,0}:=@List.map_map
theorem _root_.Go.AM.Zcj:type_of%@List.nodup_cons.{0}:=@List.nodup_cons
theorem _root_.Go.AM.Zck:type_of%@List.any_append.{0}:=@List.any_append
namespace Go.AM
variable{b:List Nat}{N cb k n t:Nat}{o:Obj}{a:Option Addr}{α:Type}{v:Value}{w w':World}
inductive AV where|any|bool(b:Bool)|int(k:IntKind)(n:Int)|str(s:List UInt8)|agg(cs:List AV)|tup(vs:List AV)|nilptr|ptr(b g off:Nat)|fptr(cs:List AV)|nilsl|sl(b g off len sz:Nat)|fsl(cs:List AV)(len sz:Nat)|esl|nsl|nilmap|map(b g:Nat)|fmap(ks vs:List AV)|nilfn|fn(f:Nat)(first captured:List AV)|yld(b g:Nat)|nilif|ifc(t:Nat)(v:AV)|typed(t n:Nat)(v:AV)deriving Inhabited
inductive Site where|dyn|st(b:Nat)
inductive Opd where|t(i:Nat)|c(v:AV)|f(n:Nat)|g(n:Nat)deriving Inhabited
abbrev Tmps:=List (Nat×AV)
variable{T:Tmps}
def lk:Tmps->Nat->AV|[],_=>.any|(j,v)::r,i=>bif Nat.beq j i then v else lk r i
inductive LK where|b|i|s
inductive EqK where|flat(row:Bool)(ks:List LK)|nil(kind:Nat)
inductive CallM where|heap|pure|borrow deriving DecidableEq
inductive SOp where|mov(x:Opd)|pick(c a b:Opd)|alloc(s:Site)(z:AV)|allocT(t:Nat)(s:Site)(z:AV)|box(s:Site)(x:Opd)|build(zero:List AV)(parts:List (Nat×Nat×Opd))|bslice(frozen:Bool)(s:Site)(sz len:Nat)(zero:List AV)(parts:List (Nat×Nat×Opd))|load(n:Option Nat)(x:Opd)|store(n:Nat)(x v:Opd)|nilchk(x:Opd)|bin(op:BinOp)(x y:Opd)|eq(k:EqK)(neg:Bool)(x y:Opd)|eqn(neg:Bool)(x:Opd)|eqp(neg:Bool)(x y:Opd)|convP(t n:Nat)(x:Opd)|appendT(t:Nat)(s:Site)(sz bytes:Nat)(x y:Opd)|usd(x:Opd)|ustr(t:Nat)(x n:Opd)|cap(x:Opd)|ment(row:Bool)(ks:List LK)(zero:AV)(x k:Opd)|estore(x s v:Opd)|clear(sz bytes:Nat)(zero:List AV)(x:Opd)|appendZ(s:Site)(sz bytes:Nat)(zero:List AV)(x n:Opd)|un(op:UnOp)(x:Opd)|conv(k:IntKind)(x:Opd)|convS(x:Opd)|convB(x:Opd)|ext(k f:Nat)(args:List Opd)|mkfn(f:Nat)(first captured:List Opd)|mkmap(s:Site)|mkslice(s:Site)(sz bytes:Nat)(zero:List AV)(l c:Opd)|slice(sz:Option Nat)(x:Opd)(l h m:Option Opd)|sliceK(sz:Nat)(x:Opd)(l h:Option Opd)|faddr(off:Nat)(x:Opd)|field(n:Option Nat)(off:Nat)(x:Opd)|iaddr(arr:Option Nat)(sz:Nat)(x i:Opd)|index(arr:Option (Nat×Nat×Bool))(x i:Opd)|lookup(row:Bool)(ks:List LK)(zero:AV)(ok:Bool)(x k:Opd)|mupd(row:Bool)(ks:List LK)(x k v:Opd)|extract(i:Nat)(x:Opd)|len(k:Nat)(x:Opd)|append(s:Site)(sz bytes:Nat)(x y:Opd)|copy(sz:Nat)(x y:Opd)|maxmin(mn:Bool)(xs:List Opd)|call(m:CallM)(x:Opd)(args:List Opd)|bad
structure SOper where
 dst:Option Nat
 op:SOp
 after:List Nat
 guard:Option (Nat×Bool)
inductive SCode where|skip|region(ops:List SOper)(pairs:List (Nat×Nat))(dead:List Nat)|seq(a b:SCode)|cond(x:Opd)(a b:SCode)|block(id:Nat)(b:SCode)|loop(b:SCode)|exit(id:Nat)|ret|rfunc(g:Opd)(ps:List Nat)(N:Nat)(asg body:SCode)|mloop(pre:List SOper)(x:Opd)(it nx ok en b1 b2:Nat)(rest:List SOper)(body:SCode)|bad
structure FOp where
 nw:Bool
 o:SOper
inductive FCode where|skip|region(ops:List FOp)(pairs:List (Nat×Nat))(dead:Nat)|seq(a b:FCode)|cond(x:Opd)(a b:FCode)|block(id:Nat)(b:FCode)|loop(b:FCode)|exit(id:Nat)|ret|rfunc(g:Opd)(ps:List Nat)(N:Nat)(asg body:FCode)|mloop(pre:List FOp)(x:Opd)(it nx ok en b1 b2:Nat)(rest:List FOp)(body:FCode)|bad
def FCode.slim:FCode->SCode|.skip=>.skip|.region ops c _=>.region (ops.map FOp.o) c []|.seq a b=>.seq a.slim b.slim|.cond x a b=>.cond x a.slim b.slim|.block i b=>.block i b.slim|.loop b=>.loop b.slim|.exit i=>.exit i|.ret=>.ret|.mloop pre x it k ok f l b2 rest body=>.mloop (pre.map FOp.o) x it k ok f l b2 (rest.map FOp.o) body.slim|.rfunc g h N d body=>.rfunc g h N d.slim body.slim|.bad=>.bad
inductive LCode where|s(c:SCode)|f(c:FCode)
def LCode.slim:LCode->SCode|.s c=>c|.f c=>c.slim
inductive SX where|normal|exit(id:Nat)|ret
def SX.toExit:SX->Exit|.normal=>.normal|.exit i=>.exit i|.ret=>.ret
def SX.toCode:SX->Code|.normal=>.skip|.exit i=>.exit i|.ret=>.ret
inductive LSt where|ready|busy|done(e:SX)
variable{st:LSt}
def LSt.state:LSt->LoopState|.ready=>.ready|.busy=>.busy|.done _=>.done
def LSt.pend:LSt->Option Code|.ready|.busy=>none|.done e=>some e.toCode
abbrev Okc:=Nat->Code->SCode->Prop
inductive Place where|nil|loc(cb base:Nat)
structure Ctx(ok:Okc)where
 ρ:Nat->Nat->Option Place
 F:Nat->Prop
 O:Nat->Prop
 base:Nat
variable{ok:Okc}
def TyAt(w:World)(t n:Nat)(v:Value):Prop:=(∃(b:Nat)(C:Array Value)(c:Nat×Nat),(v=.pointer (some ⟨b,0,none⟩)\/n=0/\∃l k,v=.slice (some ⟨b,0,none⟩) l k)/\w.heap[b]?=some (.cells C t c)/\(n=0\/C.size=n))\/(1<n/\∃a l k,v=.slice a l k/\n<=k+1)
theorem TyAt.old(h:TyAt w t n v)(c:n=0\/∃a,v=.pointer a):∃(cb:Nat)(C:Array Value)(b:Nat×Nat),(v=.pointer (some ⟨cb,0,none⟩)\/n=0/\∃l k,v=.slice (some ⟨cb,0,none⟩) l k)/\w.heap[cb]?=some (.cells C t b)/\(n=0\/C.size=n):=by
 refine h.resolve_right ?_;rintro⟨h1,a,l,k,rfl,d⟩;rcases c with rfl|⟨a,h⟩;·omega
 cases h
theorem TyAt.room{l}(h:TyAt w t (n+1) (.slice a l k)):n<=k:=by
 rcases h with⟨_,_,_,h|⟨h,_⟩,_⟩|⟨_,a,l,k,h,b⟩;·cases h
 ·omega
 cases h;omega
def MStamp:List MapEntry->Nat->Prop|[],_=>True|e::es,clock=>e.born<clock/\e.born+(es.length+1)=clock/\MStamp es clock
mutual def VRel(c:Ctx ok)(w:World):AV->Value->Prop|.any,_=>True|.bool b,v=>v=.bool b|.int k n,v=>v=.int k n|.str s,v=>v=.string ⟨s.toArray⟩|.agg cs,v=>∃vs,v=.agg vs/\VRels c w cs vs.toList|.tup cs,v=>∃vs,v=.tuple vs/\VRels c w cs vs.toList|.nilptr,v=>v=.pointer none|.ptr b g off,v=>∃cb base,c.ρ b g=some (.loc cb base)/\v=.pointer (some ⟨cb,base+off,none⟩)|.fptr cs,v=>∃cb off C e fr,v=.pointer (some ⟨cb,off,none⟩)/\c.F cb/\w.heap[cb]?=some (.cells C e fr)/\VPre c w cs (C.toList.drop off)|.nilsl,v=>v=.slice none 0 0|.sl b g off len sz,v=>(c.ρ b g=some .nil/\len=0/\off=0/\v=.slice none 0 0)\/∃cb base o cap C e fr,c.ρ b g=some (.loc cb base)/\v=.slice (some ⟨cb,o,none⟩) len cap/\len<=cap/\w.heap[cb]?=some (.cells C e fr)/\(cap=0\/(o=base+off/\o+cap*sz<=C.size))|.fsl cs len sz,v=>((∃a,v=.slice a 0 0)/\cs=[]/\len=0)\/∃cb off cap C e fr,v=.slice (some ⟨cb,off,none⟩) len cap/\len<=cap/\cs.length=len*sz/\c.F cb/\w.heap[cb]?=some (.cells C e fr)/\VPre c w cs (C.toList.drop off)|.esl,v=>∃a,v=.slice a 0 0|.nsl,v=>∃a k,v=.slice (some a) 0 k|.nilmap,v=>v=.map none|.map b g,v=>∃cb,c.ρ b g=some (.loc cb 0)/\v=.map (some cb)|.fmap ks vs,v=>∃mb es clock,v=.map (some mb)/\c.F mb/\w.heap[mb]?=some (.map es clock)/\clock=es.size/\MStamp es.toList clock/\VRels c w ks (es.toList.map (·.key))/\VRels c w vs (es.toList.map (·.val))|.nilfn,v=>v=.nilFunc|.fn f x y,v=>∃x' y',v=.func (.func f) x' y'/\VRels c w x x'.toList/\VRels c w y y'.toList|.yld b g,v=>∃cb,c.ρ b g=some (.loc cb 0)/\v=.func (.yield cb) #[] #[]|.nilif,v=>v=.nilIface|.ifc t x,v=>∃x',v=.iface t x'/\VRel c w x x'|.typed t n x,v=>TyAt w t n v/\VRel c w x v termination_by structural x=>x def VRels(c:Ctx ok)(w:World):List AV->List Value->Prop|[],vs=>vs=[]|x::xs,vs=>∃v vs',vs=v::vs'/\VRel c w x v/\VRels c w xs vs' termination_by structural x=>x def VPre(c:Ctx ok)(w:World):List AV->List Value->Prop|[],_=>True|x::xs,vs=>∃v vs',vs=v::vs'/\VRel c w x v/\VPre c w xs vs' termination_by structural x=>x end
inductive Tr(α:Type)where|e|n(l:Tr α)(v:Option α)(r:Tr α)deriving Inhabited
def Tr.get{α}:Tr α->Nat->Option α|.e,_=>none|.n l v r,k=>bif Nat.beq k 0 then v else bif Nat.beq (k%2) 1 then l.get (k/2)else r.get (k/2-1)
def Tr.setF{α}:Nat->Tr α->Nat->α->Tr α|0,t,_,_=>t|f+1,.e,k,x=>bif Nat.beq k 0 then .n .e (some x) .e else bif Nat.beq (k%2) 1 then .n (Tr.setF f .e (k/2) x) none .e else .n .e none (Tr.setF f .e (k/2-1) x)|f+1,.n l v r,k,x=>bif Nat.beq k 0 then .n l (some x) r else bif Nat.beq (k%2) 1 then .n (Tr.setF f l (k/2) x) v r else .n l v (Tr.setF f r (k/2-1) x)
theorem Tr.get_n(l r:Tr α)(v)(k):(Tr.n l v r).get k=if k=0 then v else if k%2=1 then l.get (k/2)else r.get (k/2-1):=by
 simp only[Tr.get];by_cases h:k=0;·subst h;rfl
 simp_all
theorem Tr.QvT(f)(l r)(v)(k)(x:α):Tr.setF (f+1) (.n l v r) k x=if k=0 then .n l (some x) r else if k%2=1 then .n (Tr.setF f l (k/2) x) v r else .n l v (Tr.setF f r (k/2-1) x):=by
 simp only[Tr.setF];by_cases h:k=0;·subst h;rfl
 simp_all
theorem Tr.QvU(f)(k)(x:α):Tr.setF (f+1) .e k x=Tr.setF (f+1) (.n .e none .e) k x:=by simp only[Tr.setF]
theorem Tr.Qtc(f):∀(t:Tr α)(k j:Nat)(x:α),k+1<2^f->(Tr.setF f t k x).get j=if j=k then some x else t.get j:=by induction f with|zero=>intro t k j x a;simp at a|succ f c=>
 have main:∀(l r:Tr α)(v:Option α)(k j:Nat)(x:α),k+1<2^(f+1)->(Tr.setF (f+1) (.n l v r) k x).get j=if j=k then some x else(Tr.n l v r).get j:=by
  intro l r v k j x a;rw[Nat.pow_succ]at a;rw[Tr.QvT];by_cases b:k=0;·subst b;rw[if_pos rfl,Tr.get_n,Tr.get_n];simp_all
  rw[if_neg b];by_cases h1:k%2=1;·rw[if_pos h1,Tr.get_n,Tr.get_n];grind
  rw[if_neg h1,Tr.get_n,Tr.get_n];grind
 intro t k j x a
 cases t with|e=>
  rw[Tr.QvU,main _ _ _ _ _ _ a];by_cases e:j=k;·simp[e]
  simp_all[Tr.get]|n l v r=>exact main l r v k j x a
def lim:Nat:=1099511627775
def Tr.set{α}(t:Tr α)(k:Nat)(x:α):Tr α:=Tr.setF 40 t k x
theorem Tr.QaW(t:Tr α)(h:k<lim)(j)(x):(t.set k x).get j=if j=k then some x else t.get j:=Tr.Qtc 40 t k j x (by grind[lim])
inductive Blk where|cells(g:Nat)(cs:List AV)|map(g:Nat)(es:List (AV×AV))|loop(g N:Nat)(T:Tmps)(ps:List Nat)(asg body:LCode)(st:LSt)|dead(g:Nat)deriving Inhabited
variable{x:Blk}
def Blk.gen:Blk->Nat|.cells g _=>g|.map g _=>g|.loop g _ _ _ _ _ _=>g|.dead g=>g
abbrev Heap:=Tr Blk
variable{h:Heap}
def Live(h:Heap)(b g:Nat):Prop:=∃x,h.get b=some x/\x.gen=g/\∀k,x≠.dead k
def Unfrozen(a:Nat×Nat)(n:Nat):Prop:=∀i,i<n->¬(a.1<=i/\i<a.2)
def MRel(c:Ctx ok)(w:World):List (AV×AV)->List MapEntry->Nat->Prop|[],es,_=>es=[]|(k,x)::r,es,clock=>∃e a,es=e::a/\VRel c w k e.key/\VRel c w x e.val/\e.born<clock/\e.born+(r.length+1)=clock/\MRel c w r a clock
def MRelT(c:Ctx ok)(w:World)(xs:List (AV×AV))(es:List MapEntry)(clock:Nat):Prop:=MRel c w xs es clock/\clock=xs.length
structure LRel(c:Ctx ok)(w:World)(N:Nat)(T:Tmps)(ps:List Nat)(asg body:LCode)(st:LSt)(r:Loop):Prop where
 params:r.params.toList=ps
 size:r.tmps.size=N
 tmps:∀i,VRel c w (lk T i) (r.tmps.getD i (.tuple #[]))okA:ok N r.assign asg.slim
 okB:ok N r.body body.slim
 state:r.state=st.state
 pend:r.pending=st.pend
def BRel(c:Ctx ok)(w:World)(b:Nat):Blk->Prop|.cells g cs=>(c.ρ b g=some .nil/\cs=[])\/∃a base C e h,c.ρ b g=some (.loc a base)/\c.O a/\w.heap[a]?=some (.cells C e h)/\Unfrozen h C.size/\base<=C.size/\VPre c w cs (C.toList.drop base)|.map g es=>∃a d clock,c.ρ b g=some (.loc a 0)/\c.O a/\w.heap[a]?=some (.map d clock)/\MRelT c w es d.toList clock|.loop g N T i f body st=>∃a r,c.ρ b g=some (.loc a 0)/\c.O a/\w.heap[a]?=some (.loop r)/\LRel c w N T i f body st r|.dead _=>True
structure HRel(c:Ctx ok)(h:Heap)(w:World):Prop where
 fresh:∀b,h.get b=none->∀g,c.ρ b g=none
 later:∀b x,h.get b=some x->∀g,x.gen<g->c.ρ b g=none
 blk:∀b x,h.get b=some x->BRel c w b x
 inj:∀b g b' g' cb base base',Live h b g->Live h b' g'->c.ρ b g=some (.loc cb base)->c.ρ b' g'=some (.loc cb base')->b=b'
 disj:∀cb,c.F cb->¬c.O cb
 inF:∀cb,c.F cb->cb<w.heap.size
 inO:∀cb,c.O cb->cb<w.heap.size
structure Evo(c:Ctx ok)(w:World)(c':Ctx ok)(w':World):Prop where
 os:w'.os=w.os
 tape:w'.tape=w.tape
 output:w'.output=w.output
 size:w.heap.size<=w'.heap.size
 shape:∀(cb:Nat)(C:Array Value)(e:TypeId)(fr:Nat×Nat),w.heap[cb]?=some (.cells C e fr)->∃(C':Array Value)(fr':Nat×Nat),w'.heap[cb]?=some (.cells C' e fr')/\C'.size=C.size
 keep:∀cb,cb<w.heap.size->¬c.O cb->w'.heap[cb]?=w.heap[cb]?
 rho:∀b g p,c.ρ b g=some p->c'.ρ b g=some p
 frz:∀cb,c.F cb->c'.F cb
 frzNew:∀cb,c'.F cb->c.F cb\/c.O cb\/w.heap.size<=cb
 own:∀cb,c'.O cb->c.O cb\/w.heap.size<=cb
 base:c'.base=c.base
theorem Evo.refl(c:Ctx ok)(w):Evo c w c w:=⟨rfl,rfl,rfl,Zar _,fun _ C _ a h=>⟨C,a,h,rfl⟩,fun _ _ _=>rfl,fun _ _ _ h=>h,fun _ h=>h,fun _ h=>.inl h,fun _ h=>.inl h,rfl⟩
theorem Evo.trans{k i n:Ctx ok}{m s l}(a:Evo k m i s)(b:Evo i s n l):Evo k m n l where
 os:=b.os.trans a.os;tape:=b.tape.trans a.tape;output:=b.output.trans a.output;size:=ZaC a.size b.size;shape:=fun c C e v h=>by obtain⟨C',f,t,y⟩:=a.shape c C e v h;obtain⟨C'',q,u,w⟩:=b.shape c C' e f t;simp_all
 keep:=fun c d o=>by rw[b.keep c (Zbb d a.size) (fun h=>(a.own c h).elim o (by omega)),a.keep c d o]
 rho:=fun x g p h=>b.rho _ _ _ (a.rho _ _ _ h);frz:=fun c h=>b.frz _ (a.frz _ h);frzNew:=fun c h=>by
  exact bpqBp
 own:=fun c h=>by
  rcases b.own c h with h|h;·exact a.own c h
  exact .inr (ZaC a.size h)
 base:=b.base.trans a.base
theorem Qbk(h:w.heap[cb]?=some o):cb<w.heap.size:=by grind
theorem Evo.heapF{c c':Ctx ok}(E:Evo c w c' w')(b:∀cb,c.F cb->¬c.O cb)(a:c.F cb)(h:w.heap[cb]?=some o):w'.heap[cb]?=some o:=by rw[E.keep cb (Qbk h) (b cb a),h]
structure Ext(c:Ctx ok)(w:World)(c':Ctx ok)(w':World):Prop where
 rho:∀b g p,c.ρ b g=some p->c'.ρ b g=some p
 frz:∀cb,c.F cb->c'.F cb
 heap:∀(cb:Nat)(o:Obj),c.F cb->w.heap[cb]?=some o->w'.heap[cb]?=some o
 shape:∀(cb:Nat)(C:Array Value)(e:TypeId)(fr:Nat×Nat),w.heap[cb]?=some (.cells C e fr)->∃(C':Array Value)(fr':Nat×Nat),w'.heap[cb]?=some (.cells C' e fr')/\C'.size=C.size
theorem Evo.ext{c c':Ctx ok}(E:Evo c w c' w')(b:∀cb,c.F cb->¬c.O cb):Ext c w c' w':=⟨E.rho,E.frz,fun _ _ a h=>E.heapF b a h,E.shape⟩
theorem TyAt.mono{c c':Ctx ok}(E:Ext c w c' w')(h:TyAt w t n v):TyAt w' t n v:=by
 rcases h with⟨b,C,i,h1,f,k⟩|h;·obtain⟨C',a,d,g⟩:=E.shape _ _ _ _ f;exact .inl ⟨b,C',a,h1,d,by omega⟩
 exact .inr h
mutual theorem VRel.mono{c c':Ctx ok}{w w':World}(E:Ext c w c' w'):∀(x:AV)(v:Value),VRel c w x v->VRel c' w' x v
 |.any,_,_=>by simp[VRel]|.bool b,_,h=>by simpa[VRel]using h|.int k n,_,h=>by simpa[VRel]using h|.str s,_,h=>by simpa[VRel]using h|.agg cs,v,h=>by simp only[VRel]at h⊢;obtain⟨vs,rfl,h⟩:=h;exact⟨vs,rfl,VRels.mono E cs _ h⟩|.tup cs,v,h=>by simp only[VRel]at h⊢;obtain⟨vs,rfl,h⟩:=h;exact⟨vs,rfl,VRels.mono E cs _ h⟩|.nilptr,_,h=>by simpa[VRel]using h|.ptr b g off,v,h=>by simp only[VRel]at h⊢;obtain⟨cb,base,h1,h2⟩:=h;exact⟨cb,base,E.rho _ _ _ h1,h2⟩|.fptr cs,v,h=>by simp only[VRel]at h⊢;obtain⟨cb,off,C,e,fr,h1,h2,h3,h4⟩:=h;exact⟨cb,off,C,e,fr,h1,E.frz _ h2,E.heap _ _ h2 h3,VPre.mono E cs _ h4⟩|.nilsl,_,h=>by simpa[VRel]using h|.sl b g off len sz,v,h=>by
  simp only[VRel]at h⊢;rcases h with⟨h1,h2⟩|⟨cb,base,o,cap,C,e,fr,h1,h2,h3,h4,h5⟩;·exact .inl ⟨E.rho _ _ _ h1,h2⟩
  ·obtain⟨C',fr',h6,h7⟩:=E.shape _ _ _ _ h4;exact .inr ⟨cb,base,o,cap,C',e,fr',E.rho _ _ _ h1,h2,h3,h6,by rw[h7];exact h5⟩|.fsl cs len sz,v,h=>by
  simp only[VRel]at h⊢;rcases h with h|⟨cb,off,cap,C,e,fr,h1,h2,h3,h4,h5,h6⟩;·exact .inl h
  ·exact .inr ⟨cb,off,cap,C,e,fr,h1,h2,h3,E.frz _ h4,E.heap _ _ h4 h5,VPre.mono E cs _ h6⟩|.esl,_,h=>by simpa[VRel]using h|.nsl,_,h=>by simpa[VRel]using h|.nilmap,_,h=>by simpa[VRel]using h|.map b g,v,h=>by simp only[VRel]at h⊢;obtain⟨cb,h1,h2⟩:=h;exact⟨cb,E.rho _ _ _ h1,h2⟩|.fmap ks vs,v,h=>by simp only[VRel]at h⊢;obtain⟨mb,es,clock,h1,h2,h3,h4,h5,h6,h7⟩:=h;exact⟨mb,es,clock,h1,E.frz _ h2,E.heap _ _ h2 h3,h4,h5,VRels.mono E ks _ h6,VRels.mono E vs _ h7⟩|.nilfn,_,h=>by simpa[VRel]using h|.fn f x y,v,h=>by simp only[VRel]at h⊢;obtain⟨x',y',h1,h2,h3⟩:=h;exact⟨x',y',h1,VRels.mono E x _ h2,VRels.mono E y _ h3⟩|.yld b g,v,h=>by simp only[VRel]at h⊢;obtain⟨cb,h1,h2⟩:=h;exact⟨cb,E.rho _ _ _ h1,h2⟩|.nilif,_,h=>by simpa[VRel]using h|.ifc t x,v,h=>by simp only[VRel]at h⊢;obtain⟨x',h1,h2⟩:=h;exact⟨x',h1,VRel.mono E x _ h2⟩|.typed t n x,v,h=>by simp only[VRel]at h⊢;exact⟨h.1.mono E,VRel.mono E x _ h.2⟩theorem VRels.mono{c c':Ctx ok}{w w':World}(E:Ext c w c' w'):∀(x:List AV)(v:List Value),VRels c w x v->VRels c' w' x v|[],_,h=>by simpa[VRels]using h|x::xs,v,h=>by simp only[VRels]at h⊢;obtain⟨u,us,h1,h2,h3⟩:=h;exact⟨u,us,h1,VRel.mono E x _ h2,VRels.mono E xs _ h3⟩theorem VPre.mono{c c':Ctx ok}{w w':World}(E:Ext c w c' w'):∀(x:List AV)(v:List Value),VPre c w x v->VPre c' w' x v|[],_,_=>by simp[VPre]|x::xs,v,h=>by simp only[VPre]at h⊢;obtain⟨u,us,h1,h2,h3⟩:=h;exact⟨u,us,h1,VRel.mono E x _ h2,VPre.mono E xs _ h3⟩end
theorem MRel.mono{c c':Ctx ok}(E:Ext c w c' w'):∀(x:List (AV×AV))(es:List MapEntry)(clock:Nat),MRel c w x es clock->MRel c' w' x es clock|[],_,_,h=>by simpa[MRel]using h|(k,x)::r,es,clock,h=>by simp only[MRel]at h⊢;obtain⟨e,a,h1,i,g,d,b,f⟩:=h;exact⟨e,a,h1,VRel.mono E k _ i,VRel.mono E x _ g,d,b,MRel.mono E r _ _ f⟩
theorem LRel.mono{c c':Ctx ok}(E:Ext c w c' w'){a body}{r}(h:LRel c w N T b a body st r):LRel c' w' N T b a body st r:=⟨h.params,h.size,fun i=>VRel.mono E _ _ (h.tmps i),h.okA,h.okB,h.state,h.pend⟩
theorem BRel.mono{c c':Ctx ok}(E:Ext c w c' w'){b}(i:∀cb base,(∀k,x≠.dead k)->c.ρ b x.gen=some (.loc cb base)->c'.O cb/\w'.heap[cb]?=w.heap[cb]?)(h:BRel c w b x):BRel c' w' b x:=by
 cases x with|dead g=>trivial|cells g cs=>
  rcases h with⟨h1,f⟩|⟨cb,base,C,e,s,h1,f,m,a,o,q⟩;·exact .inl ⟨E.rho _ _ _ h1,f⟩
  obtain⟨d,n⟩:=i cb base (fun k=>by simp) h1;exact .inr ⟨cb,base,C,e,s,E.rho _ _ _ h1,d,by simp_all,a,o,VPre.mono E _ _ q⟩|map g es=>obtain⟨cb,l,clock,h1,f,m,a⟩:=h;obtain⟨d,n⟩:=i cb 0 (fun k=>by simp) h1;exact⟨cb,l,clock,E.rho _ _ _ h1,d,by simp_all,MRel.mono E _ _ _ a.1,a.2⟩|loop g N T t p body st=>obtain⟨cb,r,h1,f,m,a⟩:=h;obtain⟨d,n⟩:=i cb 0 (fun k=>by simp) h1;exact⟨cb,r,E.rho _ _ _ h1,d,by simp_all,a.mono E⟩
theorem HRel.owned{c:Ctx ok}(H:HRel c h w){b g base}(l:Live h b g)(hp:c.ρ b g=some (.loc cb base)):c.O cb:=by
 obtain⟨x,k,n,m⟩:=l
 have i:=H.blk b x k;subst n;cases x with|dead g=>exact absurd rfl (m g)|cells g cs=>
  rcases i with⟨h1,_⟩|⟨a,f,C,e,s,h1,d,_⟩;·rw[show c.ρ b g=some (.loc cb base)from hp]at h1;cases h1
  rw[show c.ρ b g=some (.loc cb base)from hp]at h1;simp_all|map g es=>obtain⟨a,o,clock,h1,d,_⟩:=i;rw[show c.ρ b g=some (.loc cb base)from hp]at h1;cases h1;exact d|loop g N T q p body st=>obtain⟨a,r,h1,d,_⟩:=i;rw[show c.ρ b g=some (.loc cb base)from hp]at h1;cases h1;exact d
def Ctx.with(c:Ctx ok)(b g:Nat)(p:Place)(cb:Option Nat):Ctx ok:={c with ρ:=fun x y=>if x=b/\y=g then some p else c.ρ x y,O:=fun k=>c.O k\/some k=cb}
theorem HRel.put{c:Ctx ok}(H:HRel c h w){b base}(A:b<lim)(F:∀y,x.gen<y->c.ρ b y=none)(Z:c.ρ b x.gen=none\/c.ρ b x.gen=some (.loc cb base))(s:cb=w.heap.size\/∃B i,Live h b B/\c.ρ b B=some (.loc cb i))(os:w'.os=w.os)(tape:w'.tape=w.tape)(output:w'.output=w.output)(size:w.heap.size<=w'.heap.size)(R:cb<w'.heap.size)(other:∀k,k<w.heap.size->k≠cb->w'.heap[k]?=w.heap[k]?)(shape:∀(C:Array Value)(e:TypeId)(fr:Nat×Nat),w.heap[cb]?=some (.cells C e fr)->∃(C':Array Value)(M:Nat×Nat),w'.heap[cb]?=some (.cells C' e M)/\C'.size=C.size)(hx:Evo c w (c.with b x.gen (.loc cb base) (some cb)) w'->BRel (c.with b x.gen (.loc cb base) (some cb)) w' b x):Evo c w (c.with b x.gen (.loc cb base) (some cb)) w'/\HRel (c.with b x.gen (.loc cb base) (some cb)) (h.set b x) w':=by
 have z:cb<w.heap.size->c.O cb:=by
  intro S;rcases s with e|⟨B,i,K,hp⟩;·omega
  exact H.owned K hp
 have E:Evo c w (c.with b x.gen (.loc cb base) (some cb)) w':=by
  refine⟨os,tape,output,size,?_,?_,?_,fun _ h=>h,fun _ h=>.inl h,?_,rfl⟩;·grind
  ·grind
  ·intro x1 y p hp;show(if x1=b/\y=x.gen then some (Place.loc cb base)else c.ρ x1 y)=some p;grind
  intro k G;rcases G with G|G;·exact .inl G
  grind
 refine⟨E,?_⟩;have n:∀b2 x2,b2≠b->h.get b2=some x2->(∀k,x2≠.dead k)->∀d a,c.ρ b2 x2.gen=some (.loc d a)->c.O d/\d≠cb:=by
  intro b2 x2 f g m d a hp;have v:Live h b2 x2.gen:=⟨x2,g,rfl,m⟩;have l:=H.owned v hp;refine⟨l,fun t=>?_⟩;subst t;rcases s with t|⟨B,i,K,I⟩;·have:=H.inO _ l;omega
  exact f (H.inj _ _ _ _ _ _ _ v K hp I)
 refine⟨?_,?_,?_,?_,?_,?_,?_⟩
 ·intro b2 g y;rw[Tr.QaW h A]at g;split at g;·cases g
  rename_i f;show(if b2=b/\y=x.gen then some (Place.loc cb base)else c.ρ b2 y)=none;rw[if_neg (fun e=>f e.1)];exact H.fresh b2 g y
 ·intro b2 x2 g y T;rw[Tr.QaW h A]at g;show(if b2=b/\y=x.gen then some (Place.loc cb base)else c.ρ b2 y)=none;split at g;·grind
  rename_i f;rw[if_neg (fun e=>f e.1)];exact H.later b2 x2 g y T
 ·intro b2 x2 g;rw[Tr.QaW h A]at g;split at g;·simp_all
  rename_i f;refine BRel.mono (E.ext H.disj) ?_ (H.blk b2 x2 g);intro d a m hp;obtain⟨Q,V⟩:=n b2 x2 f g m d a hp;exact⟨.inl Q,other d (H.inO _ Q) V⟩
 ·intro X g1 b2 g2 d L a Y U J N;obtain⟨x1,q,rfl,O⟩:=Y;obtain⟨x2,o,rfl,m⟩:=U;rw[Tr.QaW h A]at q o;simp only[Ctx.with]at J N;by_cases t:X=b;·grind
  rw[if_neg t]at q;rw[if_neg (fun e=>t e.1)]at J;by_cases P:b2=b;·grind
  rw[if_neg P]at o;rw[if_neg (fun e=>P e.1)]at N;exact H.inj _ _ _ _ _ _ _ ⟨x1,q,rfl,O⟩ ⟨x2,o,rfl,m⟩ J N
 ·intro k u l;rcases l with l|l;·exact H.disj k u l
  cases l;exact H.disj _ u (z (H.inF _ u))
 ·intro k u;exact Zbb (H.inF k u) size
 intro k l;rcases l with l|l;·exact Zbb (H.inO k l) size
 simp_all
theorem HRel.grow{c:Ctx ok}(H:HRel c h w)(os:w'.os=w.os)(tape:w'.tape=w.tape)(output:w'.output=w.output)(size:w.heap.size<=w'.heap.size)(other:∀k,k<w.heap.size->w'.heap[k]?=w.heap[k]?):Evo c w c w'/\HRel c h w':=by have E:Evo c w c w':=⟨os,tape,output,size,fun k C e g a=>⟨C,g,by grind,rfl⟩,fun k a _=>other k a,fun _ _ _ h=>h,fun _ h=>h,fun _ h=>.inl h,fun _ h=>.inl h,rfl⟩;refine⟨E,H.fresh,H.later,fun b x d=>?_,H.inj,H.disj,fun k a=>Zbb (H.inF k a) size,fun k a=>Zbb (H.inO k a) size⟩;refine BRel.mono (E.ext H.disj) (fun i base l hp=>?_) (H.blk b x d);have f:=H.owned ⟨x,d,rfl,l⟩ hp;exact⟨f,other i (H.inO _ f)⟩
theorem HRel.frozen{c:Ctx ok}(H:HRel c h w)(F':Nat->Prop)(h1:∀k,c.F k->F' k)(d:∀k,F' k->¬c.O k/\k<w.heap.size):HRel ({c with F:=F'}:Ctx ok) h w:=by refine⟨H.fresh,H.later,fun b x f=>?_,H.inj,fun k a=>(d k a).1,fun k a=>(d k a).2,H.inO⟩;refine BRel.mono (c:=c) (c':={c with F:=F'}) (w:=w) (w':=w) ⟨fun _ _ _ h=>h,h1,fun _ _ _ h=>h,fun _ C _ g h=>⟨C,g,h,rfl⟩⟩ (fun l base i hp=>?_) (H.blk b x f);exact⟨H.owned ⟨x,f,rfl,i⟩ hp,rfl⟩
end Go.AM
theorem _root_.Go.AM.Zcl:type_of%@Go.AM.Tr.QaW:=@Go.AM.Tr.QaW
theorem _root_.Go.AM.Zcm:type_of%@Go.AM.VRel.mono:=@Go.AM.VRel.mono
theorem _root_.Go.AM.Zcn:type_of%@Go.AM.VRels.mono:=@Go.AM.VRels.mono
theorem _root_.Go.AM.Zco:type_of%@Go.AM.BRel.mono:=@Go.AM.BRel.mono
namespace Go.AM
inductive HM(α:Type)where|ret(a:α)|fail|look(b:Nat)(k:Option Blk->HM α)|put(b:Nat)(x:Blk)(k:HM α)
def HM.run{α}:HM α->Heap->Option (α×Heap)|.ret a,h=>some (a,h)|.fail,_=>none|.look b k,h=>(k (h.get b)).run h|.put b x k,h=>bif Nat.blt b lim then k.run (h.set b x)else none
def HM.bind{α β}:HM α->(α->HM β)->HM β|.ret a,f=>f a|.fail,_=>.fail|.look b k,f=>.look b fun x=>(k x).bind f|.put b x k,f=>.put b x (k.bind f)
def HM.opt{α}:Option α->HM α|some a=>.ret a|none=>.fail
def HM.cells{α}(b g:Nat)(k:List AV->HM α):HM α:=.look b fun x=>match x with|some (.cells a cs)=>bif Nat.beq a g then k cs else .fail|_=>.fail
def HM.new{α}(s:Site)(i:Nat)(x:Nat->Blk)(k:Nat->Nat->HM α):HM α:=match s with
 |.dyn=>.look i fun y=>match y with|none=>.put i (x 0) (k i 0)|some _=>.fail
 |.st b=>.look b fun y=>match y with|none=>.put b (x 0) (k b 0)|some z=>.put b (x (z.gen+1)) (k b (z.gen+1))
def AV.one:AV->Bool|.any|.agg _|.tup _=>false|_=>true
def AV.boxable:AV->Bool|.any|.tup _=>false|_=>true
def AV.cells:AV->List AV|.agg cs=>cs|v=>[v]
def putR(cs:List AV)(off:Nat)(vs:List AV):List AV:=match vs with|[v]=>cs.set off v|_=>cs.take off++vs++cs.drop (off+vs.length)
def lo:IntKind->Int|.i8=>-128|.i16=>-32768|.i32=>-2147483648|.i64=>-9223372036854775808|.u8|.u16|.u32|.u64=>0
def hi:IntKind->Int|.i8=>127|.i16=>32767|.i32=>2147483647|.i64=>9223372036854775807|.u8=>255|.u16=>65535|.u32=>4294967295|.u64=>18446744073709551615
def wr(k:IntKind)(n:Int):Int:=if lo k<=n/\n<=hi k then n else k.wrap n
theorem wr_of{k}{n}(h1:lo k<=n)(a:n<=hi k):wr k n=n:=if_pos ⟨h1,a⟩
theorem wr_eq(k)(n):wr k n=k.wrap n:=by
 unfold wr;split;·rename_i h;obtain⟨h1,a⟩:=h;cases k<;>simp only[lo,hi]at h1 a<;>simp only[IntKind.wrap,IntKind.bits,IntKind.signed,Zai,ZbQ]<;>(repeat' split)<;>simp_all<;>omega
 rfl
def up:Tmps->Nat->AV->Tmps|[],i,v=>[(i,v)]|(j,u)::r,i,v=>bif Nat.beq j i then(j,v)::r else(j,u)::up r i v
def rm:Tmps->List Nat->Tmps|[],_=>[]|(j,u)::r,l=>bif l.any (Nat.beq j)then rm r l else(j,u)::rm r l
def ev(T:Tmps):Opd->AV|.t i=>lk T i|.c v=>v|.f n=>.fn n [] []|.g _=>.any
def aBin(op:BinOp)(x y:AV):Option AV:=match x,y with
 |.int k a,.int c b=>match op with|.shl=>if b<0 then none else some (.int k (wr k (a*2^(min b.toNat k.bits))))|.shr=>if b<0 then none else some (.int k (a.fdiv (2^(min b.toNat k.bits))))|_=>if k=c then match op with|.add=>some (.int k (wr k (a+b)))|.sub=>some (.int k (wr k (a-b)))|.mul=>some (.int k (wr k (a*b)))|.quo=>if b=0 then none else some (.int k (wr k (a.tdiv b)))|.rem=>if b=0 then none else some (.int k (a.tmod b))|.and=>some (.int k (wr k (BitVec.ofInt k.bits a&&&BitVec.ofInt k.bits b).toNat))|.or=>some (.int k (wr k (BitVec.ofInt k.bits a|||BitVec.ofInt k.bits b).toNat))|.xor=>some (.int k (wr k (BitVec.ofInt k.bits a^^^BitVec.ofInt k.bits b).toNat))|.andNot=>some (.int k (wr k (BitVec.ofInt k.bits a&&&~~~BitVec.ofInt k.bits b).toNat))|.eql=>some (.bool (decide (a=b)))|.neq=>some (.bool (!decide (a=b)))|.lss=>some (.bool (decide (a<b)))|.leq=>some (.bool (decide (a<=b)))|.gtr=>some (.bool (decide (b<a)))|.geq=>some (.bool (decide (b<=a)))|_=>none else none
 |.str a,.str b=>match op with|.add=>if a.length+b.length<=140737488355328 then some (.str (a++b))else none|.eql=>some (.bool (decide (a=b)))|.neq=>some (.bool (!decide (a=b)))|.lss=>some (.bool (Op.bytesLess a b))|.leq=>some (.bool (Op.bytesLess a b||decide (a=b)))|.gtr=>some (.bool (!(Op.bytesLess a b||decide (a=b))))|.geq=>some (.bool (!Op.bytesLess a b))|_=>none
 |_,_=>none
def aUn(op:UnOp)(x:AV):Option AV:=match op,x with|.neg,.int k n=>some (.int k (wr k (0-n)))|.xor,.int k n=>some (.int k (wr k (BitVec.ofInt k.bits (if k.signed then-1 else hi k)^^^BitVec.ofInt k.bits n).toNat))|.not,.bool b=>some (.bool (!b))|_,_=>none
def eqCell:LK->AV->AV->Option Bool|.i,.int k a,.int c b=>if k=c then some (decide (a=b))else none|.b,.bool a,.bool b=>some (decide (a=b))|.s,.str a,.str b=>some (decide (a=b))|_,_,_=>none
def ZE:List LK->List AV->List AV->Option Bool
 |[],[],[]=>some true|k::ks,x::xs,y::c=>match eqCell k x y,ZE ks xs c with|some a,some b=>some (a&&b)|_,_=>none
 |_,_,_=>none
def isNil:AV->Option (Bool×Nat)
 |.nilptr=>some (true,1)|.ptr ..|.fptr _=>some (false,1)|.nilsl=>some (true,2)|.fsl cs _ _=>match cs with|[]=>none|_::_=>some (false,2)
 |.sl _ _ _ len _=>match len with|0=>none|_+1=>some (false,2)
 |.nsl=>some (false,2)|.nilmap=>some (true,3)|.map ..=>some (false,3)|.fmap ..=>some (false,3)|.nilfn=>some (true,4)|.fn ..=>some (false,4)|.yld ..=>some (false,4)|.nilif=>some (true,5)|.ifc ..=>some (false,5)|.typed _ _ (.ptr ..)=>some (false,1)|.typed _ _ (.sl ..)=>some (false,2)|_=>none
def aEq(k:EqK)(neg:Bool)(x y:AV):Option AV:=match k with
 |.flat row ks=>match row,x,y with
  |true,.agg xs,.agg f=>match ZE ks xs f with|some b=>some (.bool (b !=neg))|none=>none
  |false,.bool a,.bool b=>some (.bool (decide (a=b)!=neg))|_,_,_=>none
 |.nil kind=>match isNil x,isNil y with|some (b,c),some (true,d)=>if c=kind/\d=kind then some (.bool (b !=neg))else none|_,_=>none
def aLoad(n:Option Nat)(x:AV):HM AV:=match x with
 |.ptr b g off=>.cells b g fun cs=>match n with|none=>.opt cs[off]?|some n=>if off+n<=cs.length then .ret (.agg ((cs.drop off).take n))else .fail
 |.fptr cs=>match n with|none=>.opt cs.head?|some n=>if n<=cs.length then .ret (.agg (cs.take n))else .fail
 |_=>.fail
def aStore(n:Nat)(x v:AV):HM AV:=match x with|.ptr b g off=>.cells b g fun cs=>if v.cells.length=n/\off+n<=cs.length/\v.cells.all AV.one=true then .put b (.cells g (putR cs off v.cells)) (.ret .any)else .fail|_=>.fail
def fillA(cs:List AV):List (Nat×Nat×AV)->Option (List AV)|[]=>some cs|(off,size,v)::r=>if v.cells.length=size/\off+size<=cs.length/\v.boxable=true then fillA (putR cs off v.cells) r else none
def aBox(s:Site)(i:Nat)(x:AV):HM AV:=if x.boxable then .new s i (fun g=>.cells g x.cells) fun b g=>.ret (.ptr b g 0)else .fail
def aBuild(zero:List AV)(parts:List (Nat×Nat×AV)):Option AV:=match fillA zero parts with|some cs=>some (.agg cs)|none=>none
def aBuildSlice(frozen:Bool)(s:Site)(i:Nat)(sz len:Nat)(zero:List AV)(parts:List (Nat×Nat×AV)):HM AV:=match fillA zero parts with|some cs=>if cs.length=len*sz then(if frozen then(if cs.all AV.one=true then .ret (.fsl cs len sz)else .fail)else .new s i (fun g=>.cells g cs) fun b g=>.ret (.sl b g 0 len sz))else .fail|none=>.fail
def bnd(d:Int):Option AV->Option Int|none=>some d|some (.int _ n)=>some n|some _=>none
def aSlice(x:AV)(l h m:Option AV):Option AV:=match bnd 0 l with|none=>none|some lw=>match m with
 |some (.int _ c)=>match h with|some (.int _ a)=>if lw=0/\a=0/\c=0 then(match x with|.sl ..|.fsl ..|.nilsl|.esl=>some .esl|_=>none)else(match x with|.sl b g off len sz=>if 0<=lw/\lw<=a/\a<=c/\c<=len then some (.sl b g (off+lw.toNat*sz) (a.toNat-lw.toNat) sz)else none|.fsl cs len sz=>if 0<=lw/\lw<=a/\a<=c/\c<=len then some (.fsl ((cs.drop (lw.toNat*sz)).take ((a.toNat-lw.toNat)*sz)) (a.toNat-lw.toNat) sz)else none|_=>none)|_=>none
 |some _=>none|none=>match x with
  |.sl b g off len sz=>match bnd len h with|none=>none|some a=>if 0<=lw/\lw<=a/\a<=len/\(0<len\/0<off+1)then some (.sl b g (off+lw.toNat*sz) (a.toNat-lw.toNat) sz)else none
  |.fsl cs len sz=>match bnd len h with|none=>none|some a=>if 0<=lw/\lw<=a/\a<=len then some (.fsl ((cs.drop (lw.toNat*sz)).take ((a.toNat-lw.toNat)*sz)) (a.toNat-lw.toNat) sz)else none
  |.nilsl=>match bnd 0 h with|none=>none|some a=>if lw=0/\a=0 then some .nilsl else none
  |.esl=>match bnd 0 h with|none=>none|some a=>if lw=0/\a=0 then some .esl else none
  |.str s=>match bnd s.length h with|none=>none|some a=>if 0<=lw/\lw<=a/\a<=s.length then some (.str ((s.drop lw.toNat).take (a.toNat-lw.toNat)))else none
  |_=>none
def aField(n:Option Nat)(off:Nat)(x:AV):Option AV:=match x with
 |.agg cs=>match n with|none=>cs[off]?|some n=>if off+n<=cs.length then some (.agg ((cs.drop off).take n))else none
 |_=>none
def aFAddr(off:Nat)(x:AV):Option AV:=match x with|.ptr b g o=>some (.ptr b g (o+off))|.fptr cs=>some (.fptr (cs.drop off))|.typed _ _ (.ptr b g o)=>some (.ptr b g (o+off))|_=>none
def aIAddr(arr:Option Nat)(sz:Nat)(x i:AV):Option AV:=match i with
 |.int _ i=>match arr,x with|none,.sl b g off len s=>if 0<=i/\i<len/\s=sz then some (.ptr b g (off+i.toNat*sz))else none|none,.fsl cs len s=>if 0<=i/\i<len/\s=sz then some (.fptr (cs.drop (i.toNat*sz)))else none|some n,.ptr b g o=>if 0<=i/\i<n then some (.ptr b g (o+i.toNat*sz))else none|some n,.fptr cs=>if 0<=i/\i<n then some (.fptr (cs.drop (i.toNat*sz)))else none|_,_=>none
 |_=>none
def aIndex(arr:Option (Nat×Nat×Bool))(x i:AV):Option AV:=match i with
 |.int _ i=>match arr,x with|some (n,sz,row),.agg cs=>if 0<=i/\i<n then(if row then(if i.toNat*sz+sz<=cs.length then some (.agg ((cs.drop (i.toNat*sz)).take sz))else none)else cs[i.toNat*sz]?)else none|none,.str s=>if 0<=i then(match s[i.toNat]? with|some b=>some (.int .u8 b.toNat)|none=>none)else none|_,_=>none
 |_=>none
def aLen(x:AV):HM AV:=match x with
 |.str s=>.ret (.int .i64 s.length)|.sl _ _ _ len _=>.ret (.int .i64 len)|.fsl _ len _=>.ret (.int .i64 len)|.typed _ _ (.sl _ _ _ len _)=>.ret (.int .i64 len)|.nilsl|.esl|.nsl|.nilmap=>.ret (.int .i64 0)|.fmap ks _=>.ret (.int .i64 ks.length)|.map b g=>.look b fun y=>match y with|some (.map a es)=>bif Nat.beq a g then .ret (.int .i64 es.length)else .fail|_=>.fail
 |_=>.fail
def aSrc(sz:Nat)(x:AV)(k:List AV->Nat->HM AV):HM AV:=match x with|.sl b g off len s=>if s=sz then .cells b g fun cs=>if off+len*sz<=cs.length then k ((cs.drop off).take (len*sz)) len else .fail else .fail|.fsl cs len s=>if s=sz then k cs len else .fail|.nilsl|.esl|.nsl=>k [] 0|.str s=>if sz=1 then k (s.map fun b=>.int .u8 b.toNat) s.length else .fail|_=>.fail
def slLen:AV->Nat|.sl _ _ _ len _=>len|_=>0
def aAppend(s:Site)(i:Nat)(sz bytes:Nat)(x y:AV):HM AV:=aSrc sz y fun a n=>if(slLen x+n)*bytes<=140737488355328/\slLen x+n<=140737488355328/\a.all AV.one=true then match x with
 |.nilsl=>match n with|0=>.ret .nilsl|n+1=>.new s i (fun g=>.cells g a) fun b g=>.ret (.sl b g 0 (n+1) sz)
 |.esl=>match n with|0=>.ret .esl|n+1=>.new s i (fun g=>.cells g a) fun b g=>.ret (.sl b g 0 (n+1) sz)
 |.fsl cs len c=>match n with|0=>.ret (.fsl cs len c)|_+1=>.fail
 |.sl b g off len c=>if c=sz then .cells b g fun cs=>if off+len*sz<=cs.length then .put b (.cells (g+1) ((cs.drop off).take (len*sz)++a)) (.ret (.sl b (g+1) 0 (len+n) sz))else .fail else .fail|.typed t (m+1) (.sl b g off len c)=>if c=sz/\0<m/\len+n<=m then .cells b g fun cs=>if off+(len+n)*sz<=cs.length then .put b (.cells g (putR cs (off+len*sz) a)) (.ret (.typed t (m+1) (.sl b g off (len+n) sz)))else .fail else .fail|_=>.fail else .fail
def aSliceK(sz:Nat)(x:AV)(l h:Option AV):Option AV:=match x with
 |.sl b g off len s=>match bnd 0 l,bnd len h with|some lw,some a=>if s=sz/\0<=lw/\lw<=a/\a<=len/\lw<len then some (.typed 0 (len-lw.toNat+1) (.sl b g (off+lw.toNat*sz) (a.toNat-lw.toNat) sz))else none|_,_=>none
 |.typed _ (m+1) (.sl b g off len s)=>match bnd 0 l,bnd len h with|some lw,some a=>if s=sz/\0<=lw/\lw<=a/\a<=m/\lw<m then some (.typed 0 (m-lw.toNat+1) (.sl b g (off+lw.toNat*sz) (a.toNat-lw.toNat) sz))else none|_,_=>none
 |_=>none
def aMakeSlice(s:Site)(i:Nat)(sz bytes:Nat)(zero:List AV)(l c:AV):HM AV:=match l,c with|.int _ l,.int _ c=>if 0<=l/\l<=c/\bytes*c<=140737488355328/\c<=140737488355328 then .new s i (fun g=>.cells g (List.replicate c.toNat zero).flatten) fun b g=>.ret (.sl b g 0 l.toNat sz)else .fail|_,_=>.fail
def aExtract(i:Nat)(x:AV):Option AV:=match x with|.tup a=>a[i]?|_=>none
end Go.AM
theorem Go.AM.bPh3M{p:Prop}(h:p:=by
 refine⟨[],0,[],⟨by simp[VRels],by simp,fun w1=>by simp[Builtin.lenOf],fun w1 m hm' _=>?_⟩,hm⟩;obtain rfl:m=0:=by omega
 cases a<;>simp[Builtin.firstCells,loadCells,loadCellsFrom]):p:=h
namespace Go.AM
variable{P:Program}{ok:Okc}{c:Ctx ok}{w:World}{h:Heap}
variable{v x:AV}{f g:Array (Nat×Value)}{C:Array Value}{h':Heap}{parts:List (Nat×Nat×AV)}{cs xs:List AV}{us vs:List Value}{b cb i n o off:Nat}{place:Nat->Option (Nat×Nat)}{a:Nat×Nat}{p:Place}{s:Site}{α:Type}{t:TypeId}{d:TypeInfo}{cv u y z:Value}{k:Nat->Nat->HM α}
theorem QaE:∀{xs:List AV}{vs:List Value},VRels c w xs vs->xs.length=vs.length|[],vs,a=>by simp_all[VRels]|x::xs,vs,a=>by simp only[VRels]at a;obtain⟨v,d,rfl,_,b⟩:=a;simp[QaE b]
theorem Qa4:∀{xs:List AV}{vs:List Value},VRels c w xs vs->VPre c w xs vs|[],vs,b=>by simp[VPre]|x::xs,vs,b=>by simp only[VRels]at b;obtain⟨v,a,rfl,h1,d⟩:=b;simp only[VPre];exact⟨v,a,rfl,h1,Qa4 d⟩
theorem Qbq:∀{xs:List AV}{vs:List Value},VPre c w xs vs->xs.length<=vs.length|[],vs,a=>by simp|x::xs,vs,a=>by simp only[VPre]at a;obtain⟨v,d,rfl,_,b⟩:=a;have:=Qbq b;simp;omega
theorem QdA:∀{xs:List AV}{vs:List Value}(i:Nat){x:AV},VPre c w xs vs->xs[i]?=some x->∃v,vs[i]?=some v/\VRel c w x v|[],vs,i,x,a,hi=>by simp at hi|y::xs,vs,i,x,a,hi=>by simp only[VPre]at a;obtain⟨v,d,rfl,h1,b⟩:=a;cases i with|zero=>simp at hi;subst hi;exact⟨v,by simp,h1⟩|succ i=>simp at hi;simpa using QdA i b hi
theorem QcE(i:Nat)(a:VRels c w xs vs)(hi:xs[i]?=some x):∃v,vs[i]?=some v/\VRel c w x v:=QdA i (Qa4 a) hi
theorem Qbn:∀(n:Nat){xs:List AV}{vs:List Value},VPre c w xs vs->VPre c w (xs.drop n) (vs.drop n)|0,xs,vs,a=>by simpa using a|n+1,[],vs,a=>by simp[VPre]|n+1,x::xs,vs,a=>by simp only[VPre]at a;obtain⟨v,d,rfl,h1,b⟩:=a;simpa using Qbn n b
theorem Qco:∀(n:Nat){xs:List AV}{vs:List Value},VPre c w xs vs->VPre c w (xs.take n) vs|0,xs,vs,a=>by simp[VPre]|n+1,[],vs,a=>by simp[VPre]|n+1,x::xs,vs,a=>by simp only[VPre]at a;obtain⟨v,b,rfl,h1,d⟩:=a;simp only[Zbc,VPre];exact⟨v,b,rfl,h1,Qco n d⟩
theorem Qe3:∀{xs:List AV}{vs:List Value},VPre c w xs vs->VRels c w xs (vs.take xs.length)|[],vs,a=>by simp[VRels]|x::xs,vs,a=>by simp only[VPre]at a;obtain⟨v,d,rfl,h1,b⟩:=a;simp only[ZaD,Zbc,VRels];exact⟨v,_,rfl,h1,Qe3 b⟩
theorem Qfe:∀{xs ys:List AV}{us vs:List Value},VRels c w xs us->VPre c w ys vs->VPre c w (xs++ys) (us++vs)|[],ys,us,vs,h1,a=>by simp_all[VRels]|x::xs,ys,us,vs,h1,a=>by simp only[VRels]at h1;obtain⟨v,d,rfl,f,b⟩:=h1;simp only[ZaW,VPre];exact⟨v,_,rfl,f,Qfe b a⟩
theorem QbC:∀{xs ys:List AV}{us vs:List Value},VRels c w xs us->VRels c w ys vs->VRels c w (xs++ys) (us++vs)|[],ys,us,vs,h1,a=>by simp_all[VRels]|x::xs,ys,us,vs,h1,a=>by simp only[VRels]at h1;obtain⟨v,d,rfl,f,b⟩:=h1;simp only[ZaW,VRels];exact⟨v,_,rfl,f,QbC b a⟩
theorem Qig(h1:VRels c w xs us):VPre c w xs (us++vs):=by have:=Qfe (ys:=[]) (vs:=vs) h1 (by simp[VPre]);simp_all
theorem QaK(a:VPre c w xs vs)(off n)(b:off+n<=xs.length):VRels c w ((xs.drop off).take n) ((vs.drop off).take n):=by have h1:=Qco n (Qbn off a);have d:=Qe3 h1;grind
theorem Qdk{v}(a:VRel c w x v)(ho:(x.cells.all AV.one)=true):VRels c w x.cells v.cells.toList/\∀u∈v.cells.toList,u.oneCell'=true:=by
 have one:∀(x:AV)(v:Value),VRel c w x v->x.one=true->v.oneCell'=true/\(∀cs,x≠.agg cs):=by intro x v a ho;cases x<;>simp only[AV.one]at ho<;>first|(exact absurd ho (by decide))|(simp only[VRel]at a;refine⟨?_,fun cs=>by simp⟩;first
  |(subst a;rfl)|(rcases a with⟨_,_,_,rfl⟩|⟨_,_,_,_,_,_,_,_,rfl,_⟩<;>rfl)|(rcases a with⟨⟨_,rfl⟩,_⟩|⟨_,_,_,_,_,_,rfl,_⟩<;>rfl)|(obtain⟨_,_,_,rfl⟩:=a;rfl)|(obtain⟨_,_,_,_,_,rfl,_⟩:=a;rfl)|(obtain⟨_,_,_,rfl,_⟩:=a;rfl)|(obtain⟨_,rfl⟩:=a;rfl)|(obtain⟨_,_,rfl⟩:=a;rfl)|(obtain⟨_,_,rfl,_⟩:=a;rfl)|(obtain⟨_,rfl,_⟩:=a;rfl)
  | (rcases a.1 with⟨_,_,_,h1,_⟩|⟨_,_,_,_,rfl,_⟩;·rcases h1 with rfl|⟨_,_,_,rfl⟩<;>rfl
     ·rfl))
 by_cases b:∃cs,x=.agg cs
 ·obtain⟨cs,rfl⟩:=b;simp only[VRel]at a;obtain⟨l,rfl,a⟩:=a;refine⟨by grind[AV.cells,Value.cells],fun u g=>?_⟩;simp only[Value.cells]at g;obtain⟨i,hi,rfl⟩:=Zcd.1 g;have m:=QaE a;have d:i<cs.length:=by omega
  obtain⟨v,h,k⟩:=QcE i a (Zak d);grind[AV.cells]
 have e:x.cells=[x]:=by cases x<;>first|rfl|exact absurd ⟨_,rfl⟩ b
 rw[e]at ho⊢;have f:x.one=true:=by simpa using ho
 obtain⟨h1,n⟩:=one x v a f;have ev:v.cells=#[v]:=by cases v<;>first|rfl|simp[Value.oneCell']at h1
 simp_all[VRels]
theorem Qeq{e}(b:w.heap[cb]?=some (.cells C e a)):w.cell? ⟨cb,o,none⟩=C[o]?:=by simp[World.cell?,b]
theorem Qb3(cb o j):Addr.add ⟨cb,o,none⟩ j=⟨cb,o+j,none⟩:=by simp_all[Addr.add]
theorem QbL{e}(d:w.heap[cb]?=some (.cells C e a))(b:n=0\/o+n<=C.size):(loadCells ⟨cb,o,none⟩ n).run P w=.ok ((C.toList.drop o).take n).toArray w:=by have:=run_loadCells_list (P:=P) w ⟨cb,o,none⟩ ((C.toList.drop o).take n) (fun j v c=>by grind[Qb3,Qeq]);grind
def Sound(P:Program)(c:Ctx ok)(w:World)(s:Sem Value)(v:AV)(h':Heap):Prop:=∃d b a,s.run P w=.ok d a/\Evo c w b a/\HRel b h' a/\VRel b a v d
theorem Sound.here(H:HRel c h w){s}(b:s.run P w=.ok cv w)(a:VRel c w v cv):Sound P c w s v h:=⟨cv,c,w,b,.refl c w,H,a⟩
def rowT(P:Program)(t:TypeId)(n:Option Nat):Bool:=match P.underlying t,P.info? t with|some (.struct _),some i=>n==some i.size|some (.array _ _),some i=>n==some i.size|some _,some _=>n==none|_,_=>false
theorem QaN{i}(hi:P.info? t=some i)(w):(sizeOf t).run P w=.ok i.size w:=by simp[sizeOf,typeInfo,hi]
theorem Qc9(a:rowT P t none=true)(w):(isAgg t).run P w=.ok false w:=by unfold rowT at a;unfold isAgg;cases b:P.underlying t with|none=>simp[b]at a|some d=>simp only[Sem.run_bind,run_underlying b,Result.andThen_ok];cases hi:P.info? t with|none=>cases d<;>simp[b,hi]at a|some i=>cases d<;>simp[b,hi]at a<;>rfl
theorem Qda(a:rowT P t (some n)=true)(w):(isAgg t).run P w=.ok true w/\(sizeOf t).run P w=.ok n w:=by unfold rowT at a;unfold isAgg;cases b:P.underlying t with|none=>simp[b]at a|some d=>simp only[Sem.run_bind,run_underlying b,Result.andThen_ok];cases hi:P.info? t with|none=>cases d<;>simp[b,hi]at a|some i=>rw[QaN hi];cases d<;>simp[b,hi]at a<;>subst a<;>exact⟨rfl,rfl⟩
theorem Qbm{g}{k}{r:α×Heap}(hm:(HM.cells b g k).run h=some r):∃cs,h.get b=some (.cells g cs)/\(k cs).run h=some r:=by
 simp only[HM.cells,HM.run]at hm;split at hm;·rename_i a cs c;cases e:Nat.beq a g with|false=>rw[e]at hm;simp[HM.run]at hm|true=>
  rw[e]at hm;have:a=g:=by simpa using e
  subst this;exact⟨cs,c,hm⟩
 grind[HM.run]
theorem HRel.here(H:HRel c h w){g}(i:h.get b=some (.cells g cs)){base}(hp:c.ρ b g=some (.loc cb base)):∃C e d,c.O cb/\w.heap[cb]?=some (.cells C e d)/\Unfrozen d C.size/\base<=C.size/\VPre c w cs (C.toList.drop base):=by
 rcases H.blk b _ i with⟨h1,_⟩|⟨f,a,C,e,d,h1,n,l,o,k,m⟩;·simp_all
 grind
theorem Qqc{n}(H:HRel c h w)(i:VRel c w x y)(k:rowT P t n=true)(hm:(aLoad n x).run h=some (v,h')):Sound P c w (Instr.loadAt t y) v h':=by
 cases x<;>simp only[aLoad,HM.run]at hm<;>try(cases hm;done)
 case ptr b g off=>obtain⟨cs,B,hm⟩:=Qbm hm;simp only[VRel]at i;obtain⟨F,base,hp,rfl⟩:=i;obtain⟨C,e,A,I,f,E,z,a⟩:=H.here B hp;cases n with
  |none=>cases l:cs[off]? with|none=>simp[l,HM.opt,HM.run]at hm|some u=>simp only[l,HM.opt,HM.run,Zab,Zal]at hm;obtain⟨rfl,rfl⟩:=hm;obtain⟨q,d,o⟩:=QdA off a l;rw[ZbN,ZaY]at d;exact .here H (cv:=q) (by simp[Instr.loadAt,Instr.sureAddr,loadVar,Qc9 k,Qeq f,d]) o
  |some n=>
   simp only at hm;split at hm;·rename_i s;simp only[HM.run,Zab,Zal]at hm;obtain⟨rfl,rfl⟩:=hm;obtain⟨p,m⟩:=Qda k w;have hlen:=Qbq a;simp at hlen;refine .here H (cv:=.agg ((C.toList.drop (base+off)).take n).toArray) (by simp[Instr.loadAt,Instr.sureAddr,loadVar,p,m,QbL (P:=P) (n:=n) (o:=base+off) f (by omega)]) ?_;simp only[VRel];refine⟨_,rfl,?_⟩;have:=QaK a off n s;simp_all
   simp[HM.run]at hm
 case fptr cs=>simp only[VRel]at i;obtain⟨F,off,C,e,A,rfl,G,f,a⟩:=i;cases n with
  |none=>cases cs with|nil=>simp[HM.opt,HM.run]at hm|cons u cs=>simp only[HM.opt,Zbs,HM.run,Zab,Zal]at hm;obtain⟨rfl,rfl⟩:=hm;obtain⟨q,d,o⟩:=QdA 0 a (x:=u) rfl;rw[ZbN,ZaY]at d;exact .here H (cv:=q) (by simp[Instr.loadAt,Instr.sureAddr,loadVar,Qc9 k,Qeq f];simp_all) o
  |some n=>
   simp only at hm;split at hm;·rename_i s;simp only[HM.run,Zab,Zal]at hm;obtain⟨rfl,rfl⟩:=hm;obtain⟨p,m⟩:=Qda k w;have hlen:=Qbq a;simp at hlen;refine .here H (cv:=.agg ((C.toList.drop off).take n).toArray) (by simp[Instr.loadAt,Instr.sureAddr,loadVar,p,m,QbL (P:=P) (n:=n) (o:=off) f (by omega)]) ?_;simp only[VRel];refine⟨_,rfl,?_⟩;have:=QaK a 0 n (by simpa using s);simp_all
   simp[HM.run]at hm
def upd(w:World)(cb:Nat)(o:Obj):World:={w with heap:=w.heap.setIfInBounds cb o}
theorem QdB{o}(a:cb<w.heap.size):(upd w cb o).heap[cb]?=some o:=by simp[upd,a]
theorem Qgm{k}{o}(a:k≠cb):(upd w cb o).heap[k]?=w.heap[k]?:=by grind[upd]
theorem Quo{o o'}:upd (upd w cb o) cb o'=upd w cb o':=by simp[upd]
def putL(C:List Value)(o:Nat)(vs:List Value):List Value:=C.take o++vs++C.drop (o+vs.length)
theorem Qff{C}(a:o+vs.length<=C.length):(putL C o vs).length=C.length:=by simp[putL];omega
theorem Qih{C}:putL C o []=C:=by simp[putL]
theorem QkL{C}{v}(a:o<C.length):putL (C.set o v) (o+1) vs=putL C o (v::vs):=by
 simp only[putL,ZaD];rw[List.take_set,List.drop_set,if_pos (by omega)];rw[show o+1+vs.length=o+(vs.length+1)by omega];have:(C.take (o+1)).set o v=C.take o++[v]:=by apply ZbG;grind
 rw[this];simp
theorem Qor{e}(b:w.heap[cb]?=some (.cells C e a))(v):w.setCell ⟨cb,o,none⟩ v=upd w cb (.cells (C.setIfInBounds o v) e a):=by have c:=Qbk b;unfold World.setCell upd;congr 1;grind
theorem QdC{e}{d}:∀(vs:List Value)(i:Nat)(w:World)(C:Array Value),w.heap[cb]?=some (.cells C e d)->Unfrozen d C.size->o+i+vs.length<=C.size->(∀v∈vs,v.oneCell'=true)->(storeCells ⟨cb,o,none⟩ vs i).run P w=.ok () (upd w cb (.cells (putL C.toList (o+i) vs).toArray e d))
 |[],i,w,C,f,_,_,_=>by
  simp only[storeCells,Sem.run_pure,Qih];have m:upd w cb (.cells C e d)=w:=by show({w with heap:=_}:World)={w with heap:=w.heap};congr 1;grind
  simp_all|v::vs,i,w,C,f,c,k,a=>by
  simp only[ZaD]at k;have b:w.cell? ⟨cb,o+i,none⟩=some C[o+i]:=by rw[Qeq f];simp_all
  have h:w.frozen? ⟨cb,o+i,none⟩=false:=by have:=c (o+i) (by omega);simp_all[World.frozen?]
  have g:=Qbk f;simp only[storeCells,Sem.run_bind,Qb3];rw[run_store P w _ v _ (a v (by simp)),b,h];simp only[Zat,if_false,Result.andThen_ok];rw[Qor f,QdC vs (i+1) _ (C.setIfInBounds (o+i) v) (QdB g) (by simpa using c) (by simp;omega) (fun u l=>a u (by simp[l]))];grind[Quo,QkL]
theorem QdD(cs)(off)(vs)(a:off+vs.length<=cs.length):putR cs off vs=cs.take off++vs++cs.drop (off+vs.length):=by
 unfold putR;split;·rename_i v;simp only[ZbM]at a⊢;rw[List.set_eq_take_append_cons_drop,if_pos (by omega)];simp
 rfl
theorem QhA(cs)(off)(vs)(a:off+vs.length<=cs.length):(putR cs off vs).length=cs.length:=by grind[QdD]
theorem Qml{cs vs}{C us}{base off}(hp:VPre c w cs (C.drop base))(d:VRels c w vs us)(f:off+vs.length<=cs.length):VPre c w (putR cs off vs) ((putL C (base+off) us).drop base):=by
 have hlen:=QaE d;have a:=Qbq hp;simp at a;rw[QdD _ _ _ f];by_cases g:vs=[];·simp_all[VRels,Qih]
 have b:0<vs.length:=List.length_pos_iff.2 g;have e:(putL C (base+off) us).drop base=((C.drop base).take off++us)++(C.drop base).drop (off+us.length):=by unfold putL;rw[ZaQ,List.drop_append,ZaQ];grind[Za1]
 rw[e];refine Qfe ?_ ?_;·refine QbC ?_ d;have:=QaK hp 0 off (by omega);simp_all
 grind[Qbn]
theorem Qa7{g}{cb}:(c.with b g p cb).ρ b g=some p:=by simp[Ctx.with]
theorem QdE(H:HRel c h w){g}{vs}{base}(i:h.get b=some (.cells g cs))(f:b<lim)(hp:c.ρ b g=some (.loc cb base))(x:off+vs.length<=cs.length)(t:VRels c w vs us)(d:∀u∈us,u.oneCell'=true):∃c' w',(storeCells ⟨cb,base+off,none⟩ us).run P w=.ok () w'/\Evo c w c' w'/\HRel c' (h.set b (.cells g (putR cs off vs))) w':=by
 obtain⟨C,e,s,G,q,o,z,a⟩:=H.here i hp;have n:=Qbk q;have hlen:=QaE t;have l:=Qbq a;simp at l;have hbound:base+off+us.length<=C.size:=by omega
 have p:=QdC (P:=P) (cb:=cb) (o:=base+off) us 0 w C q o (by omega) d;have B:(putL C.toList (base+off) us).length=C.size:=by simp_all[Qff]
 have:=H.put (b:=b) (cb:=cb) (base:=base) (x:=.cells g (putR cs off vs)) (w':=upd w cb (.cells (putL C.toList (base+off) us).toArray e s)) f (fun y A=>H.later b _ i y A) (.inr hp) (.inr ⟨g,base,⟨_,i,rfl,fun k=>by simp⟩,hp⟩) rfl rfl rfl (by simp[upd]) (by simp_all[upd]) (fun k _ m=>Qgm m) (fun C2 F v I=>by simp_all[QdB]) (fun E=>.inr ⟨cb,base,_,e,s,Qa7,.inr rfl,QdB n,by simp_all,by simp_all,by have:=Qml (base:=base) a t x;simpa using VPre.mono (E.ext H.disj) _ _ this⟩);grind
theorem Qa5{x}{k:HM α}{r}(hm:(HM.put b x k).run h=some r):b<lim/\k.run (h.set b x)=some r:=by simp only[HM.run]at hm;cases e:Nat.blt b lim with|false=>rw[e]at hm;cases hm|true=>rw[e]at hm;exact⟨by simp_all,hm⟩
def SoundU(P:Program)(c:Ctx ok)(w:World)(s:Sem Unit)(h':Heap):Prop:=∃b a,s.run P w=.ok () a/\Evo c w b a/\HRel b h' a
theorem Qos{r}{i}(H:HRel c h w)(k:VRel c w x i)(o:VRel c w v cv)(B:∀w,(sizeOf t).run P w=.ok n w)(hm:(aStore n x v).run h=some (r,h')):SoundU P c w (Instr.storeAt t i cv) h':=by
 cases x<;>simp only[aStore,HM.run]at hm<;>try(cases hm;done)
 case ptr b g off=>
  obtain⟨cs,p,hm⟩:=Qbm hm;split at hm
  ·rename_i a;obtain⟨h1,E,y⟩:=a;obtain⟨d,hm⟩:=Qa5 hm;simp only[HM.run,Zab,Zal]at hm;obtain⟨_,rfl⟩:=hm;simp only[VRel]at k;obtain⟨C,base,hp,rfl⟩:=k;obtain⟨f,q⟩:=Qdk o y;obtain⟨u,s,A,l,m⟩:=QdE (P:=P) H p d hp (vs:=v.cells) (off:=off) (by omega) f q;refine⟨u,s,?_,l,m⟩;have z:cv.cells.size=n:=by have:=QaE f;simp_all
   simp_all[Instr.storeAt,Instr.sureAddr,storeVar]
  grind[HM.run]
theorem QdF{x}{r}(hm:(HM.new s i x k).run h=some r):∃b g,b<lim/\(h.get b=none/\g=0\/∃z,h.get b=some z/\g=z.gen+1)/\(k b g).run (h.set b (x g))=some r:=by
 cases s with|dyn=>
  simp only[HM.new,HM.run]at hm;split at hm;·rename_i c;obtain⟨h1,a⟩:=Qa5 hm;exact⟨i,0,h1,.inl ⟨c,rfl⟩,a⟩
  simp[HM.run]at hm|st b=>
  simp only[HM.new,HM.run]at hm;split at hm;·rename_i c;obtain⟨h1,a⟩:=Qa5 hm;exact⟨b,0,h1,.inl ⟨c,rfl⟩,a⟩
  rename_i z c;obtain⟨h1,a⟩:=Qa5 hm;exact⟨b,z.gen+1,h1,.inr ⟨z,c,rfl⟩,a⟩
theorem HRel.newCells(H:HRel c h w){g}(f:b<lim)(q:h.get b=none/\g=0\/∃z,h.get b=some z/\g=z.gen+1){e}(d:VPre c w cs C.toList):∃c',c'.ρ b g=some (.loc w.heap.size 0)/\Evo c w c' (w.alloc (.cells C e))/\HRel c' (h.set b (.cells g cs)) (w.alloc (.cells C e)):=by
 have a:∀y,g<=y->c.ρ b y=none:=by
  intro y m;rcases q with⟨h1,n⟩|⟨z,h1,n⟩;·exact H.fresh b h1 y
  exact H.later b z h1 y (by omega)
 have l:(w.alloc (.cells C e)).heap[w.heap.size]?=some (.cells C e):=by show(w.heap.push _)[w.heap.size]?=_;simp
 have:=H.put (b:=b) (cb:=w.heap.size) (base:=0) (x:=.cells g cs) (w':=w.alloc (.cells C e)) f (fun y m=>a y (Nat.le_of_lt m)) (.inl (a g (Zar _))) (.inl rfl) rfl rfl rfl (by simp) (by simp) (fun k o _=>Go.RowKit.Below.heap_alloc w _ k o) (fun C2 s p n=>by simp_all) (fun E=>.inr ⟨w.heap.size,0,C,e,(0,0),Qa7,.inr rfl,l,fun i _=>by omega,by omega,by simpa using VPre.mono (E.ext H.disj) _ _ d⟩);exact⟨_,Qa7,this.1,this.2⟩
theorem VRel_cells'{v}(b:VRel c w x v)(ho:x.boxable=true):VRels c w x.cells v.cells.toList:=by
 by_cases a:∃cs,x=.agg cs;·obtain⟨cs,rfl⟩:=a;simp only[VRel]at b;obtain⟨d,rfl,b⟩:=b;grind[AV.cells,Value.cells]
 refine(Qdk b ?_).1;cases x<;>first|rfl|(simp[AV.boxable]at ho;done)|exact absurd ⟨_,rfl⟩ a
theorem QkM{e}{d}(H:HRel c h w)(m:VRel c w x d)(hm:(aBox s i x).run h=some (v,h')):Sound P c w (Instr.box e d) v h':=by
 unfold aBox at hm;split at hm
 ·rename_i o;obtain⟨b,g,a,n,hm⟩:=QdF hm;simp only[HM.run,Zab,Zal]at hm;obtain⟨rfl,rfl⟩:=hm;obtain⟨k,hp,l,f⟩:=H.newCells a n (C:=d.cells) (e:=e) (Qa4 (VRel_cells' m o));refine⟨.pointer (some ⟨w.heap.size,0,none⟩),k,_,?_,l,f,?_⟩;·simp[Instr.box,newVar,newRow]
  simp_all[VRel]
 grind[HM.run]
mutual def cOK:AV->Value->Bool|.any,_=>true|.bool b,.bool b'=>b==b'|.int k n,.int k' n'=>k==k'&&n==n'|.str s,.string bs=>s==bs.data.toList|.nilptr,.pointer none=>true|.nilsl,.slice none 0 0=>true|.nilmap,.map none=>true|.nilfn,.nilFunc=>true|.nilif,.nilIface=>true|.agg cs,.agg vs=>cOKs cs vs.toList|.tup cs,.tuple vs=>cOKs cs vs.toList|_,_=>false termination_by structural x=>x def cOKs:List AV->List Value->Bool|[],[]=>true|x::xs,v::vs=>cOK x v&&cOKs xs vs|_,_=>false termination_by structural x=>x end
mutual theorem Qer:∀(x:AV)(v:Value),cOK x v=true->VRel c w x v|.any,_,_=>by simp[VRel]|.bool b,v,hh=>by cases v<;>simp_all[cOK,VRel]|.int k n,v,hh=>by cases v<;>simp_all[cOK,VRel]|.str s,v,hh=>by cases v<;>simp_all[cOK,VRel]|.agg cs,v,hh=>by cases v<;>simp only[cOK,Zat]at hh;simp only[VRel];exact⟨_,rfl,Qct cs _ hh⟩|.tup cs,v,hh=>by cases v<;>simp only[cOK,Zat]at hh;simp only[VRel];exact⟨_,rfl,Qct cs _ hh⟩|.nilptr,v,hh=>by grind[cOK,VRel]|.nilsl,v,hh=>by grind[cOK,VRel]|.nilmap,v,hh=>by grind[cOK,VRel]|.nilfn,v,hh=>by grind[cOK,VRel]|.nilif,v,hh=>by grind[cOK,VRel]|.ptr _ _ _,v,hh=>by simp[cOK]at hh|.fptr _,v,hh=>by simp[cOK]at hh|.sl _ _ _ _ _,v,hh=>by simp[cOK]at hh|.fsl _ _ _,v,hh=>by simp[cOK]at hh|.esl,v,hh=>by simp[cOK]at hh|.nsl,v,hh=>by simp[cOK]at hh|.map _ _,v,hh=>by simp[cOK]at hh|.fmap _ _,v,hh=>by simp[cOK]at hh|.fn _ _ _,v,hh=>by simp[cOK]at hh|.ifc _ _,v,hh=>by simp[cOK]at hh theorem Qct:∀(xs:List AV)(vs:List Value),cOKs xs vs=true->VRels c w xs vs|[],vs,hh=>by grind[cOKs,VRels]|x::xs,[],hh=>by simp[cOKs]at hh|x::xs,v::vs,hh=>by simp only[cOKs,Zac]at hh;simp only[VRels];exact⟨v,vs,rfl,Qer x v hh.1,Qct xs vs hh.2⟩end
theorem Qot{z}{b}{a}(H:HRel c h w)(hi:P.info? t=some b)(k:b.zero=some a)(hc:cOK z a=true)(hm:(aBox s i z).run h=some (v,h')):Sound P c w (Instr.alloc t true (.tuple #[])) v h':=by have:=QkM (P:=P) (e:=t) H (Qer (c:=c) (w:=w) z a hc) hm;obtain⟨g,f,d,l,h1⟩:=this;refine⟨g,f,d,?_,h1⟩;simp_all[Instr.alloc,Instr.box,zeroValue,typeInfo]
theorem QkN(off):∀(l:List Value)(k:Nat)(cells:Array Value),off+k+l.length<=cells.size->((l.zipIdx k).foldl (fun(cs:Array Value)(p:Value×Nat)=>cs.setIfInBounds (off+p.2) p.1) cells).toList=putL cells.toList (off+k) l|[],k,cells,_=>by simp[Qih]|v::l,k,cells,a=>by simp only[ZaD]at a;simp only[List.zipIdx_cons,ZaS];rw[QkN off l (k+1) _ (by simp;omega),Array.toList_setIfInBounds,<-Nat.add_assoc,QkL (by simp;omega)]
theorem QqP{vs}{C}(hp:VRels c w cs C)(b:VRels c w vs us)(d:off+vs.length<=cs.length):VRels c w (putR cs off vs) (putL C off us):=by have h1:=Qml (base:=0) (by simpa using Qa4 hp) b d;have f:=Qe3 h1;have hlen:=QaE hp;have a:=QaE b;simp_all[QhA,ZaM,Qff]
def PartsRel(c:Ctx ok)(w:World)(place:Nat->Option (Nat×Nat)):List (Nat×Nat×AV)->List (Nat×Value)->Prop|[],b=>b=[]|(off,size,x)::r,b=>∃i v a,b=(i,v)::a/\place i=some (off,size)/\VRel c w x v/\PartsRel c w place r a
theorem QfH:∀(parts:List (Nat×Nat×AV))(g:List (Nat×Value))(cs b:List AV)(cells:Array Value),PartsRel c w place parts g->VRels c w cs cells.toList->fillA cs parts=some b->∃a,Instr.fill place cells g=some a/\VRels c w b a.toList
 |[],g,cs,b,cells,hp,hc,hf=>by simp only[PartsRel]at hp;subst hp;simp only[fillA,Zab]at hf;subst hf;exact⟨cells,rfl,hc⟩|(off,size,x)::r,g,cs,b,cells,hp,hc,hf=>by
  simp only[PartsRel]at hp;obtain⟨i,v,h,rfl,n,s,o⟩:=hp;simp only[fillA]at hf;split at hf;·rename_i d;obtain⟨z,u,q⟩:=d;have f:=VRel_cells' s q;have hlen:=QaE f;have k:=QaE hc;simp at hlen k;have l:=QkN off v.cells.toList 0 cells (by simp;omega);have m:=QqP (off:=off) hc f (by omega);obtain⟨a,y,t⟩:=QfH r h _ b (v.cells.zipIdx.foldl (fun cs(p:Value×Nat)=>cs.setIfInBounds (off+p.2) p.1) cells) o (by grind[Array.toList_zipIdx]) hf;simp_all[Instr.fill]
  cases hf
def placeOf(P:Program)(t:TypeId)(i:Nat):Option (Nat×Nat):=match P.underlying t with
 |some (.array _ e)=>match P.info? e with|some b=>some (i*b.size,b.size)|none=>none
 |some (.struct fields)=>match fields.toList.mapM (fun f=>(P.info? f.type).map fun i=>(f.offset,i.size))with|some a=>a[i]?|none=>none
 |_=>none
def zeroOf(P:Program)(t:TypeId):Option Value:=(P.info? t).bind (·.zero)
theorem Qou{zero:List AV}{o:Value}(H:HRel c h w)(d:zeroOf P t=some o)(hc:cOKs zero o.cells.toList=true)(q:(∃n e k,P.underlying t=some (.array n e)/\P.info? e=some k)\/(∃fields a,P.underlying t=some (.struct fields)/\fields.toList.mapM (fun f=>(P.info? f.type).map fun i=>(f.offset,i.size))=some a))(hp:PartsRel c w (placeOf P t) parts g.toList)(hm:aBuild zero parts=some v):Sound P c w (Instr.build t g) v h:=by unfold aBuild at hm;cases hf:fillA zero parts with|none=>simp[hf]at hm|some cs=>simp only[hf,Zab]at hm;subst hm;obtain⟨b,h1,u⟩:=QfH (place:=placeOf P t) parts g.toList zero cs o.cells hp (Qct _ _ hc) hf;refine .here H (cv:=.agg b) (run_build w t g b ?_) (by simp only[VRel];simp_all);unfold zeroOf at d;cases hi:P.info? t with|none=>simp[hi]at d|some it=>
 simp only[hi,Option.bind_some]at d;unfold Program.built;rcases q with⟨n,e,k,p,m⟩|⟨fields,a,p,l⟩
 ·simp only[hi,p,d,m];have s:placeOf P t=fun i=>some (i*k.size,k.size):=by grind[placeOf]
  simp_all
 simp only[hi,p,d,l];have s:placeOf P t=fun i=>a.toArray[i]?:=by grind[placeOf]
 simp_all
theorem Qfl(H:HRel c h w){e:TypeId}{len cap sz:Nat}{run:Sem Value}(f:VPre c w cs C.toList)(k:len<=cap)(a:cap=0\/cap*sz<=C.size)(m:run.run P w=.ok (.slice (some ⟨w.heap.size,0,none⟩) len cap) (w.alloc (.cells C e)))(hm:(HM.new s i (fun g=>.cells g cs) fun b g=>.ret (.sl b g 0 len sz)).run h=some (v,h')):Sound P c w run v h':=by obtain⟨b,g,d,q,hm⟩:=QdF hm;simp only[HM.run,Zab,Zal]at hm;obtain⟨rfl,rfl⟩:=hm;obtain⟨p,hp,l,o⟩:=H.newCells d q (C:=C) (e:=e) f;refine⟨_,p,_,m,l,o,?_⟩;simp only[VRel];refine .inr ⟨_,0,0,cap,C,e,(0,0),hp,rfl,k,?_,a.imp id (fun n=>⟨by simp,by simpa using n⟩)⟩;show(w.heap.push _)[w.heap.size]?=_;simp
theorem QiU(H:HRel c h w){e}{len cap sz}{run}(b:VPre c w cs C.toList)(d:len<=cap)(g:cs.length=len*sz)(i:run.run P w=.ok (.slice (some ⟨w.heap.size,0,none⟩) len cap) (w.alloc (.cells C e))):Sound P c w run (.fsl cs len sz) h:=by
 obtain⟨E,H1⟩:=H.grow (w':=w.alloc (.cells C e)) rfl rfl rfl (by simp) (fun k a=>Go.RowKit.Below.heap_alloc w _ k a);have H2:=H1.frozen (fun k=>c.F k\/k=w.heap.size) (fun k a=>.inl a) (fun k a=>by
  rcases a with a|a;·exact⟨H.disj k a,by have:=H.inF k a;simp;omega⟩
  subst a;exact⟨fun f=>by have:=H.inO _ f;omega,by simp⟩);have E2:Evo c w {c with F:=fun k=>c.F k\/k=w.heap.size} (w.alloc (.cells C e)):=⟨E.os,E.tape,E.output,E.size,E.shape,E.keep,E.rho,fun k a=>.inl a,fun k a=>a.imp id (fun h=>.inr (Nat.le_of_eq h.symm)),E.own,rfl⟩;refine⟨_,_,_,i,E2,H2,?_⟩;simp only[VRel];refine .inr ⟨_,0,cap,C,e,(0,0),rfl,d,g,.inr rfl,?_,?_⟩;·show(w.heap.push _)[w.heap.size]?=_;simp
 simpa using VPre.mono (E2.ext H.disj) _ _ b
def zeroRow(z:Array Value)(n:Nat):Array Value:=(Array.range n).map (z[·%z.size]!)
theorem run_buildSlice'(w)(t e)(len)(parts)(cells)(a)(z)(f:P.underlying t=some (.slice e))(b:P.info? e=some a)(g:a.zero=some z)(c:len*a.size<=16777216)(hf:Instr.fill (fun i=>some (i*a.size,a.size)) (zeroRow z.cells (len*a.size)) parts.toList=some cells):(Instr.buildSlice t len parts).run P w=.ok (.slice (some ⟨w.heap.size,0,none⟩) len len) (w.alloc (.cells cells e)):=by
 have h:¬16777216<len*a.size:=by omega
 by_cases d:len*a.size=0
 ·rw[d]at hf;have:zeroRow z.cells 0=#[]:=by simp[zeroRow]
  rw[this]at hf;simp only[Instr.buildSlice,Sem.run_bind,run_underlying f,Result.andThen_ok,QaN b];simp only[d];simp_all[Array.range,newRow]
 unfold zeroRow at hf;simp[Instr.buildSlice,run_underlying f,sizeOf,typeInfo,zeroValue,b,g,h,d,hf,newRow]
theorem Qii{e}{frozen}{sz len}{zero}(H:HRel c h w)(p:P.underlying t=some (.slice e))(l:P.info? e=some d)(k:d.size=sz)(o:d.zero=some z)(a:len*sz<=16777216)(hc:cOKs zero (zeroRow z.cells (len*sz)).toList=true)(hp:PartsRel c w (fun i=>some (i*sz,sz)) parts f.toList)(hm:(aBuildSlice frozen s i sz len zero parts).run h=some (v,h')):Sound P c w (Instr.buildSlice t len f) v h':=by subst k;unfold aBuildSlice at hm;cases hf:fillA zero parts with|none=>simp[hf,HM.run]at hm|some cs=>
 simp only[hf]at hm;split at hm
 ·rename_i n;obtain⟨b,h1,g⟩:=QfH parts f.toList zero cs (zeroRow z.cells (len*d.size)) hp (Qct _ _ hc) hf;have hlen:=QaE g;simp at hlen;have m:=run_buildSlice' (P:=P) w t e len f b d z p l o a h1;split at hm
  ·split at hm;·simp only[HM.run,Zab,Zal]at hm;obtain⟨rfl,rfl⟩:=hm;exact QiU H (Qa4 g) (Zar _) n m
   grind[HM.run]
  exact Qfl H (Qa4 g) (Zar _) (.inr (by omega)) m hm
 simp[HM.run]at hm
theorem Qov(s k)(f:Nat->Value)(hf:∀i,f (i+s)=f i):(List.range (s+k)).map f=(List.range s).map f++(List.range k).map f:=by simp_all[List.range_add,Nat.add_comm]
theorem QcX{zero}{z}(a:VRels c w zero z.toList):∀k,VRels c w (List.replicate k zero).flatten (zeroRow z (k*z.size)).toList
 |0=>by simp[zeroRow,VRels]|k+1=>by
  have b:=QcX a k;have e:(zeroRow z ((k+1)*z.size)).toList=z.toList++(zeroRow z (k*z.size)).toList:=by simp only[zeroRow,Array.toList_map,Array.toList_range];rw[show(k+1)*z.size=z.size+k*z.size by rw[Zbn];omega];rw[Qov z.size _ (fun i=>z[i%z.size]!) (fun i=>by simp)];congr 1;apply ZbG;grind[Nat.mod_eq_of_lt]
  simp_all[Za7,QbC]
theorem QiV{e}{sz bytes}{zero}{l n}(H:HRel c h w)(x:VRel c w l u)(B:VRel c w n y)(E:P.underlying t=some (.slice e))(b:P.info? e=some d)(p:d.size=sz)(o:d.bytes=bytes)(I:d.zero=some z)(K:z.cells.size=sz)(hc:cOKs zero z.cells.toList=true)(hm:(aMakeSlice s i sz bytes zero l n).run h=some (v,h')):Sound P c w (Instr.makeSlice t u y) v h':=by
 subst p;subst o;unfold aMakeSlice at hm;split at hm
 ·rename_i M k Q a;split at hm
  ·rename_i f;obtain⟨h1,O,L,N⟩:=f;simp only[VRel]at x B;subst x;subst B;have C:IntKind.i64.wrap k=k:=by rw[<-wr_eq];grind[wr_of,lo,hi]
   have G:IntKind.i64.wrap a=a:=by rw[<-wr_eq];grind[wr_of,lo,hi]
   have g:VRels c w (List.replicate a.toNat zero).flatten (zeroRow z.cells (a.toNat*d.size)).toList:=by grind[QcX,Qct]
   refine Qfl H (cap:=a.toNat) (C:=zeroRow z.cells (a.toNat*d.size)) (e:=e) (Qa4 g) (by omega) (.inr (by simp[zeroRow])) ?_ hm;have q:¬a<0:=by omega
   have b2:¬281474976710656<(d.bytes:Int)*a:=by omega
   have F:¬k<0:=by omega
   have A:¬a<k:=by omega
   by_cases m:a.toNat*d.size=0
   ·have J:zeroRow z.cells 0=#[]:=by simp[zeroRow]
    simp only[Instr.makeSlice,Sem.run_bind,run_underlying E,Result.andThen_ok,asInt,asIntOf,Sem.run_pure,typeInfo,run_program,b,C,G,QaN b];simp only[q,b2,F,A,m,gt_iff_lt,decide_false,Bool.or_self,Zat,if_false,Sem.run_bind,Sem.run_pure,run_askRoom,Result.andThen_ok,Nat.reducePow,Int.reducePow,J];simp[newRow,QaN b,m,Array.range_zero']
   simp only[Instr.makeSlice,Sem.run_bind,run_underlying E,Result.andThen_ok,asInt,asIntOf,Sem.run_pure,typeInfo,run_program,b,C,G,QaN b];simp only[q,b2,F,A,m,gt_iff_lt,decide_false,Bool.or_self,Zat,if_false,Sem.run_bind,Sem.run_pure,run_askRoom,Result.andThen_ok,Nat.reducePow,Int.reducePow,zeroValue,typeInfo,run_program,b,I];simp_all[newRow,zeroRow,QaN]
  grind[HM.run]
 grind[HM.run]
end Go.AM
namespace Go.AM
variable{P:Program}{ok:Okc}{c:Ctx ok}{w:World}{h:Heap}
variable{y:AV}{h':Heap}{cs ys:List AV}{k:List AV->Nat->HM AV}{C us:List Value}{b g n:Nat}{s:Site}{d2:TypeDesc}{t t2 ty:TypeId}{F i:TypeInfo}{z:Value}
theorem HRel.drew(H:HRel c h w):Evo c w c w.drew/\HRel c h w.drew:=H.grow rfl rfl rfl (Zar _) (fun _ _=>rfl)
theorem QqQ{base off}(a:base+off<=C.length):(putL C (base+off) us).drop base=((C.drop base).take off++us)++(C.drop base).drop (off+us.length):=by unfold putL;rw[ZaQ,List.drop_append,ZaQ];grind[Za1]
theorem HRel.putNil(H:HRel c h w)(v:b<lim)(u:∀y,g<y->c.ρ b y=none)(L:c.ρ b g=none\/c.ρ b g=some .nil):Evo c w (c.with b g .nil none) w/\HRel (c.with b g .nil none) (h.set b (.cells g [])) w:=by
 have E:Evo c w (c.with b g .nil none) w:=by
  refine⟨rfl,rfl,rfl,Zar _,fun _ C _ I h=>⟨C,I,h,rfl⟩,fun _ _ _=>rfl,?_,fun _ h=>h,fun _ h=>.inl h,?_,rfl⟩;·intro x1 y p hp;show(if x1=b/\y=g then some Place.nil else c.ρ x1 y)=some p;grind
  intro k l;rcases l with l|l;·exact .inl l
  cases l
 have F:∀k,(c.with b g .nil none).O k->c.O k:=fun k l=>l.elim id (fun e=>by cases e);refine⟨E,?_,?_,?_,?_,fun k J A=>H.disj k J (F k A),H.inF,fun k l=>H.inO k (F k l)⟩
 ·intro b2 a y;rw[Zcl h v]at a;split at a;·cases a
  rename_i i;show(if b2=b/\y=g then some Place.nil else c.ρ b2 y)=none;rw[if_neg (fun e=>i e.1)];exact H.fresh b2 a y
 ·intro b2 x2 a y M;rw[Zcl h v]at a;show(if b2=b/\y=g then some Place.nil else c.ρ b2 y)=none;split at a;·grind[Blk.gen]
  rename_i i;rw[if_neg (fun e=>i e.1)];exact H.later b2 x2 a y M
 ·intro b2 x2 a;rw[Zcl h v]at a;split at a;·rename_i o;subst o;cases a;exact .inl ⟨Qa7,rfl⟩
  rename_i i;refine Zco (E.ext H.disj) ?_ (H.blk b2 x2 a);intro z n m hp;exact⟨.inl (H.owned ⟨x2,a,rfl,m⟩ hp),rfl⟩
 intro K P b2 O z x n N G q s;obtain⟨x1,f,rfl,B⟩:=N;obtain⟨x2,d,rfl,m⟩:=G;rw[Zcl h v]at f d;simp only[Ctx.with]at q s;by_cases o:K=b;·rw[if_pos o]at f;cases f;rw[if_pos ⟨o,rfl⟩]at q;cases q
 rw[if_neg o]at f;rw[if_neg (fun e=>o e.1)]at q;by_cases t:b2=b;·rw[if_pos t]at d;cases d;rw[if_pos ⟨t,rfl⟩]at s;cases s
 rw[if_neg t]at d;rw[if_neg (fun e=>t e.1)]at s;exact H.inj _ _ _ _ _ _ _ ⟨x1,f,rfl,B⟩ ⟨x2,d,rfl,m⟩ q s
structure SrcRel(P:Program)(c:Ctx ok)(w:World)(sz:Nat)(cy:Value)(ys:List AV)(n:Nat)(us:List Value):Prop where
 rels:VRels c w ys us
 len:ys.length=n*sz
 lenOf:∀w1,(Builtin.lenOf cy).run P w1=.ok n w1
 firstm:∀w1 m,m<=n->w1.heap=w.heap->(Builtin.firstCells sz m cy).run P w1=.ok (us.take (m*sz)).toArray w1
theorem SrcRel.first{sz}{cy}(S:SrcRel P c w sz cy ys n us):∀a,a.heap=w.heap->(Builtin.firstCells sz n cy).run P a=.ok us.toArray a:=by intro a hw;have h1:=S.firstm a n (Zar _) hw;have b:=QaE S.rels;have d:=S.len;simp_all
theorem Qfg{off len sz}{cy}(H:HRel c h w)(p:VRel c w (.sl b g off len sz) cy)(t:h.get b=some (.cells g cs))(u:off+len*sz<=cs.length):∃us,SrcRel P c w sz cy ((cs.drop off).take (len*sz)) len us:=by
 simp only[VRel]at p;rcases p with⟨hp,rfl,rfl,rfl⟩|⟨I,base,o,cap,C,e,E,hp,rfl,B,x,d⟩;·refine⟨[],⟨by simp[VRels],by simp,fun i=>by simp[Builtin.lenOf],fun i m _ _=>by simp[Builtin.firstCells]⟩⟩
 obtain⟨C',G,v,F,f,z,y,a⟩:=H.here t hp;rw[x]at f;cases f;by_cases q:len*sz=0
 ·refine⟨[],⟨by simp[q,VRels],by simp[q],fun i=>by simp[Builtin.lenOf],fun i m hm _=>?_⟩⟩;have l:m*sz=0:=by grind[Nat.mul_eq_zero]
  simp[Builtin.firstCells,l,loadCells,loadCellsFrom]
 have n:=Qbq a;simp at n;have k:cap≠0:=by grind
 obtain⟨rfl,s⟩:=d.resolve_left k;refine⟨(C.toList.drop (base+off)).take (len*sz),⟨?_,by simp;omega,fun i=>by simp[Builtin.lenOf],fun i m hm A=>?_⟩⟩;·have :=QaK a off (len*sz) u;simp_all
 grind[Zbe,QbL,Builtin.firstCells]
theorem Qdb{sz}{cy}{r}(H:HRel c h w)(hy:VRel c w y cy)(hm:(aSrc sz y k).run h=some r):∃ys n us,SrcRel P c w sz cy ys n us/\(k ys n).run h=some r:=by
 cases y<;>simp only[aSrc]at hm<;>try(cases hm;done)
 case sl b g off len s=>
  split at hm
  ·rename_i e;subst e;obtain⟨cs,hb,hm⟩:=Qbm hm;split at hm;·rename_i hl;obtain⟨us,hs⟩:=Qfg (P:=P) H hy hb hl;grind
   grind[HM.run]
  grind[HM.run]
 case fsl cs len s=>
  split at hm
  ·rename_i e;subst e;simp only[VRel]at hy;rcases hy with⟨⟨a,rfl⟩,rfl,rfl⟩|⟨cb,off,cap,C,e,fr,rfl,hlc,hlen,hF,hC,hpre⟩
   ·exact bPh3M
   ·have hcl:=Qbq hpre;simp at hcl;refine⟨cs,len,(C.toList.drop off).take cs.length,⟨Qe3 hpre,hlen,fun w1=>by simp[Builtin.lenOf],fun w1 m hm' hw1=>?_⟩,hm⟩;grind[Zbe,QbL,Builtin.firstCells]
  grind[HM.run]
 case nilsl=>simp only[VRel]at hy;subst hy;exact⟨[],0,[],⟨by simp[VRels],by simp,fun w1=>by simp[Builtin.lenOf],fun w1 m _ _=>by simp[Builtin.firstCells]⟩,hm⟩
 case esl=>
  simp only[VRel]at hy;obtain⟨a,rfl⟩:=hy;exact bPh3M
 case nsl=>
  simp only[VRel]at hy;obtain⟨a,k,rfl⟩:=hy;refine⟨[],0,[],⟨by simp[VRels],by simp,fun w1=>by simp[Builtin.lenOf],fun w1 m hm' _=>?_⟩,hm⟩;obtain rfl:m=0:=by omega
  simp[Builtin.firstCells,loadCells,loadCellsFrom]
 case str s=>
  split at hm
  ·rename_i e;subst e;simp only[VRel]at hy;subst hy;refine⟨_,_,s.map fun b=>Value.int .u8 b.toNat,⟨?_,by simp,fun w1=>by simp[Builtin.lenOf,ByteArray.size],fun w1 m hm' _=>?_⟩,hm⟩
   ·have :∀l:List UInt8,VRels c w (l.map fun b=>AV.int .u8 b.toNat) (l.map fun b=>Value.int .u8 b.toNat):=by intro l;induction l with|nil=>simp[VRels]|cons a l ih=>simp only[ZaL,VRels];exact⟨_,_,rfl,by simp[VRel],ih⟩
    exact this s
   simp_all[Builtin.firstCells]
  grind[HM.run]
theorem QiW{need old bytes}(a:old<need)(c:need*bytes<=140737488355328):Builtin.nextslicecap need old*bytes<=281474976710656:=by have:=nextslicecap_le a;have b:Builtin.nextslicecap need old*bytes<=2*need*bytes:=Zbe _ this;grind
theorem Qcu{e:TypeId}{dlen dcap:Nat}{base:Option Addr}{cy:Value}{olds:List Value}(l:P.underlying t=some (.slice e))(g:P.underlying t2=some d2)(h:∀k,d2≠.int k)(hi:P.info? e=some i)(o:i.zero=some z)(hlen:∀a,(Builtin.lenOf cy).run P a=.ok n a)(b:∀a,a.heap=w.heap->(Builtin.firstCells i.size n cy).run P a=.ok us.toArray a)(hold:∀a,a.heap=w.heap->(Builtin.firstCells i.size dlen (.slice base dlen dcap)).run P a=.ok olds.toArray a)(q:dcap<dlen+n)(s:(dlen+n)*i.bytes<=140737488355328)(m:dlen+n<=9223372036854775807):(Builtin.append_ #[t,t2] ty #[.slice base dlen dcap,cy]).run P w=.ok (.slice (some ⟨w.heap.size,0,none⟩) (dlen+n) (grownCap w (dlen+n) dcap e)) (w.drew.alloc (.cells (olds++us++(Builtin.zeroCells z.cells (grownCap w (dlen+n) dcap e-(dlen+n))).toList).toArray e)):=by
 have p:¬(dlen+n<=dcap):=by omega
 have c:¬(9223372036854775807<((dlen:Int)+(n:Int))):=by omega
 have d:¬(281474976710656<Builtin.nextslicecap (dlen+n) dcap*i.bytes):=by simp_all[QiW]
 have hf:=b w.drew rfl;have f:=hold w.drew rfl;have hm:(d2 matches .int _)=false:=by cases d2<;>first|rfl|exact absurd rfl (h _)
 simp only[Builtin.append_,ZaY,List.getElem?_toArray,Zbi,Zbx,Sem.run_bind,run_underlying l,run_underlying g,Result.andThen_ok,QaN hi,Sem.run_pure,hm];simp[typeInfo,zeroValue,hi,o,hlen,p,c,d,Question.forced,hf,f,newRow,grownCap];congr 2;simp_all
theorem Qij(w){need old}(e):need<=grownCap w need old e:=by unfold grownCap;exact Nat.le_add_right _ _
theorem Qbw{e:TypeId}{dlen dcap:Nat}{base:Option Addr}{cy:Value}(g:P.underlying t=some (.slice e))(d:P.underlying t2=some d2)(c:∀k,d2≠.int k)(hi:P.info? e=some i)(hlen:∀f,(Builtin.lenOf cy).run P f=.ok n f)(b:(Builtin.firstCells i.size n cy).run P w=.ok us.toArray w)(h:dlen+n<=dcap):(Builtin.append_ #[t,t2] ty #[.slice base dlen dcap,cy]).run P w=(match base with|some a=>((storeCells (a.add (dlen*i.size)) us).run P w).andThen fun _ w'=>.ok (.slice base (dlen+n) dcap) w'|none=>.ok (.slice base (dlen+n) dcap) w):=by
 have hm:(d2 matches .int _)=false:=by cases d2<;>first|rfl|exact absurd rfl (c _)
 simp only[Builtin.append_,ZaY,List.getElem?_toArray,Zbi,Zbx,Sem.run_bind,run_underlying g,run_underlying d,Result.andThen_ok,QaN hi,Sem.run_pure,hm];cases base<;>simp[hlen,h,b]
structure AppT(P:Program)(t t2 e:TypeId)(sz bytes:Nat)(i:TypeInfo)(z:Value):Prop where
 ht:P.underlying t=some (.slice e)ht2:∃d2,P.underlying t2=some d2/\∀k,d2≠.int k
 hi:P.info? e=some i
 hz:i.zero=some z
 hsz:i.size=sz
 hby:i.bytes=bytes
 hzs:z.cells.size=sz
theorem QcQ(z)(n):(Builtin.zeroCells z n).size=n*z.size:=by simp[Builtin.zeroCells]
theorem QfI(H:HRel c h w)(a:b<lim)(i:h.get b=none/\g=0\/∃z,h.get b=some z/\g=z.gen+1){rest}{e}(l:VRels c w cs us){len cap sz}(d:len<=cap)(f:cap*sz<=(us++rest).length):∃c',Evo c w c' (w.drew.alloc (.cells (us++rest).toArray e))/\HRel c' (h.set b (.cells g cs)) (w.drew.alloc (.cells (us++rest).toArray e))/\VRel c' (w.drew.alloc (.cells (us++rest).toArray e)) (.sl b g 0 len sz) (.slice (some ⟨w.heap.size,0,none⟩) len cap):=by obtain⟨E1,H1⟩:=H.drew;have k:=Zcn (E1.ext H.disj) _ _ l;obtain⟨c',hp,E2,H2⟩:=H1.newCells a i (cs:=cs) (C:=(us++rest).toArray) (e:=e) (by grind[Qig]);refine⟨c',E1.trans E2,H2,?_⟩;simp only[VRel];refine .inr ⟨_,0,0,cap,(us++rest).toArray,e,(0,0),hp,rfl,d,?_,.inr ⟨by simp,by simp_all⟩⟩;show(w.heap.push _)[w.heap.size]?=_;simp
theorem QeA{e}{i sz bytes}{x v}{cx cy}(H:HRel c h w)(J:VRel c w x cx)(hy:VRel c w y cy)(T:AppT P t t2 e sz bytes F z)(hm:(aAppend s i sz bytes x y).run h=some (v,h')):Sound P c w (Builtin.append_ #[t,t2] ty #[cx,cy]) v h':=by
 obtain⟨X,⟨d2,q,A⟩,hi,hz,rfl,rfl,hzs⟩:=T;replace hm:=Qdb (P:=P) H hy hm;obtain⟨R,n,us,S,hm⟩:=hm;have hul:=QaE S.rels;have hyl:=S.len;by_cases K:(slLen x+n)*F.bytes<=140737488355328/\slLen x+n<=140737488355328/\R.all AV.one=true;case pos=>
  rw[if_pos K]at hm;obtain⟨hb,hb2,hone⟩:=K;have M:∀u∈us,u.oneCell'=true:=by
   intro u hu;obtain⟨j,hj,rfl⟩:=Zcd.1 hu;obtain⟨v',hv',hr⟩:=QcE j S.rels (Zak (by omega:j<R.length));rw[Zak hj]at hv';cases hv';have h1:(R[j]).one=true:=by simp_all
   have h2:=Qdk (x:=R[j]) hr (by cases hh:R[j]<;>simp_all[AV.one,AV.cells]);have:(us[j]).cells=#[us[j]]\/∃a,us[j]=.agg a:=by cases us[j]<;>simp[Value.cells]
   rcases this with h3|⟨a,h3⟩;·simp_all
   rw[h3]at hr;exfalso;cases hh:R[j]<;>rw[hh]at hr h1<;>simp[AV.one]at h1<;>simp[VRel]at hr;rcases hr.1 with⟨_,_,_,k1,_⟩|⟨_,_,_,_,k1,_⟩<;>simp_all
  have fresh:∀(base:Option Addr)(hold:∀Q,(Builtin.firstCells F.size 0 (.slice base 0 0)).run P Q=.ok #[] Q)(b g:Nat),b<lim->(h.get b=none/\g=0\/∃z,h.get b=some z/\g=z.gen+1)->0<n->n*F.bytes<=140737488355328->n<=9223372036854775807->Sound P c w (Builtin.append_ #[t,t2] ty #[.slice base 0 0,cy]) (.sl b g 0 n F.size) (h.set b (.cells g R)):=by intro base hold b g f hg hpos hbn h63;have hr:=Qcu (P:=P) (w:=w) (ty:=ty) (t:=t) (t2:=t2) (dlen:=0) (dcap:=0) (base:=base) (cy:=cy) (olds:=[]) (us:=us) X q A hi hz S.lenOf S.first (fun Q _=>hold Q) (by omega) (by simpa using hbn) (by simpa using h63);simp only[ZbS,ZaT]at hr;have hgl:=Qij w (need:=n) (old:=0) e;obtain⟨c',E',H',V'⟩:=QfI H f hg (e:=e) (rest:=(Builtin.zeroCells z.cells (grownCap w n 0 e-n)).toList) S.rels (len:=n) (cap:=grownCap w n 0 e) (sz:=F.size) hgl (by have O:=QcQ z.cells (grownCap w n 0 e-n);rw[hzs]at O;simp only[Zag,Array.length_toList,O,<-hul,hyl];rw[<-ZbP];simp_all);exact⟨_,c',_,hr,E',H',V'⟩
  cases x<;>(try simp only at hm)<;>try(simp[HM.run]at hm;done)
  case nilsl=>simp only[VRel]at J;subst J;cases n with|zero=>simp only[HM.run,Zab,Zal]at hm;obtain⟨rfl,rfl⟩:=hm;exact .here H (by simpa using Qbw (P:=P) (ty:=ty) (base:=none) (dlen:=0) (dcap:=0) X q A hi S.lenOf (S.first w rfl) (by omega)) (by simp[VRel])|succ n=>obtain⟨b,g,f,hg,hm⟩:=QdF hm;simp only[HM.run,Zab,Zal]at hm;obtain⟨rfl,rfl⟩:=hm;simp only[slLen,ZbS]at hb hb2;exact fresh none (fun Q=>by simp[Builtin.firstCells]) b g f hg (by omega) hb (by omega)
  case esl=>
   simp only[VRel]at J;obtain⟨base,rfl⟩:=J;have hold:∀Q,(Builtin.firstCells F.size 0 (.slice base 0 0)).run P Q=.ok #[] Q:=by intro Q;cases base<;>simp[Builtin.firstCells,loadCells,loadCellsFrom]
   cases n with|zero=>
    simp only[HM.run,Zab,Zal]at hm;obtain⟨rfl,rfl⟩:=hm;have G:us=[]:=by grind
    have:=Qbw (P:=P) (ty:=ty) (base:=base) (dlen:=0) (dcap:=0) X q A hi S.lenOf (S.first w rfl) (by omega);rw[G]at this;refine .here H (cv:=.slice base 0 0) ?_ (by simp[VRel]);rw[this];cases base<;>simp[storeCells]|succ n=>obtain⟨b,g,f,hg,hm⟩:=QdF hm;simp only[HM.run,Zab,Zal]at hm;obtain⟨rfl,rfl⟩:=hm;simp only[slLen,ZbS]at hb hb2;exact fresh base hold b g f hg (by omega) hb (by omega)
  case fsl cs len s'=>cases n with|zero=>
   simp only[HM.run,Zab,Zal]at hm;obtain⟨rfl,rfl⟩:=hm;have G:us=[]:=by grind
   have hx':=J;simp only[VRel]at J;rcases J with⟨⟨a,rfl⟩,_,_⟩|⟨I,off,cap,C,Y,fr,rfl,hlc,_⟩;·refine .here H (cv:=.slice a 0 0) ?_ hx';rw[Qbw (P:=P) (ty:=ty) (base:=a) (dlen:=0) (dcap:=0) X q A hi S.lenOf (S.first w rfl) (by omega),G];cases a<;>simp[storeCells]
   refine .here H (cv:=.slice (some ⟨I,off,none⟩) len cap) ?_ hx';rw[Qbw (P:=P) (ty:=ty) (dlen:=len) (dcap:=cap) X q A hi S.lenOf (S.first w rfl) (by omega),G];simp[storeCells]|succ n=>simp[HM.run]at hm
  case sl b g off len s'=>
   simp only[slLen]at hb hb2;split at hm
   ·rename_i e1;subst e1;obtain⟨cs,p,hm⟩:=Qbm hm;split at hm
    ·rename_i hl;obtain⟨f,hm⟩:=Qa5 hm;simp only[HM.run,Zab,Zal]at hm;obtain⟨rfl,rfl⟩:=hm;have l:∀y,g<y->c.ρ b y=none:=fun y hy=>H.later b _ p y hy;have hxx:=J;simp only[VRel]at J;rcases J with⟨hp,rfl,rfl,rfl⟩|⟨I,base,o,cap,C,Y,fr,hp,rfl,hlc,hC,N⟩
     ·have hcs:cs=[]:=by
       rcases H.blk b _ p with⟨_,h2⟩|⟨_,_,_,_,_,h1,_⟩;·exact h2
       simp_all
      subst hcs;simp only[ZbS,Zcf,List.drop_nil,List.take_nil,ZaT];by_cases hn:n=0
      ·subst hn;have hys:R=[]:=by grind
       have G:us=[]:=by grind
       subst hys;obtain⟨E,H'⟩:=H.putNil (b:=b) (g:=g+1) f (fun y hy=>l y (by omega)) (.inl (l _ (by omega)));refine⟨.slice none 0 0,_,w,?_,E,H',?_⟩;·rw[Qbw (P:=P) (ty:=ty) (base:=none) (dlen:=0) (dcap:=0) X q A hi S.lenOf (S.first w rfl) (by omega)]
       simp_all[VRel,Qa7]
      exact fresh none (fun Q=>by simp[Builtin.firstCells]) b (g+1) f (.inr ⟨_,p,rfl⟩) (by omega) (by simpa using hb) (by omega)
     obtain⟨C',e2,fr',hO,V,hfr,hbs,Z⟩:=H.here p hp;rw[hC]at V;cases V;have hlt:=Qbk hC;have hcl:=Qbq Z;simp at hcl;have L:=QaK Z off (len*F.size) hl;rw[Za1]at L;by_cases B:len+n<=cap
     ·have d:=Qbw (P:=P) (w:=w) (ty:=ty) (base:=some ⟨I,o,none⟩) (dlen:=len) (dcap:=cap) X q A hi S.lenOf (S.first w rfl) B;simp only[Qb3]at d;by_cases hc0:cap=0
      ·have hl0:len=0:=by omega
       have hn0:n=0:=by omega
       subst hl0;subst hn0;subst hc0;have hys:R=[]:=by grind
       have G:us=[]:=by grind
       subst hys;subst G;simp only[Zcf,Zb5,ZaT,storeCells,Sem.run_pure,Result.andThen_ok]at d⊢;have:=H.put (b:=b) (cb:=I) (base:=base) (x:=.cells (g+1) []) (w':=w) f (fun y hy=>l y (by grind[Blk.gen])) (.inl (l _ (by simp[Blk.gen]))) (.inr ⟨g,base,⟨_,p,rfl,fun k=>by simp⟩,hp⟩) rfl rfl rfl (Zar _) hlt (fun _ _ _=>rfl) (fun C2 e2 fr2 h2=>⟨C2,fr2,h2,rfl⟩) (fun E=>.inr ⟨I,base,C,Y,fr,Qa7,.inr rfl,hC,hfr,hbs,by simp[VPre]⟩);refine⟨_,_,_,d,this.1,this.2,?_⟩;simp only[VRel];exact .inr ⟨I,base,o,0,C,Y,fr,Qa7,rfl,by omega,hC,.inl rfl⟩
      obtain⟨rfl,hbnd⟩:=N.resolve_left hc0;have hmul:(len+n)*F.size<=cap*F.size:=Zbe _ B;rw[ZbP]at hmul;have U:=QdC (P:=P) (cb:=I) (o:=base+off+len*F.size) us 0 w C hC hfr (by omega) M;simp only[Nat.add_zero]at U;rw[U]at d;simp only[Result.andThen_ok]at d;have hpl:(putL C.toList (base+off+len*F.size) us).length=C.size:=by grind[Qff]
      have:=H.put (b:=b) (cb:=I) (base:=base+off) (x:=.cells (g+1) (List.take (len*F.size) (List.drop off cs)++R)) (w':=upd w I (.cells (putL C.toList (base+off+len*F.size) us).toArray Y fr)) f (fun y hy=>l y (by grind[Blk.gen])) (.inl (l _ (by simp[Blk.gen]))) (.inr ⟨g,base,⟨_,p,rfl,fun k=>by simp⟩,hp⟩) rfl rfl rfl (by simp[upd]) (by simp_all[upd]) (fun k _ hne=>Qgm hne) (fun C2 e2 fr2 h2=>by simp_all[QdB]) (fun E=>.inr ⟨I,base+off,_,Y,fr,Qa7,.inr rfl,QdB hlt,by simp_all,by grind,by have e5:=QqQ (C:=C.toList) (us:=us) (base:=base+off) (off:=len*F.size) (by simp;omega);rw[List.toList_toArray,e5];exact Qig (QbC (Zcn (E.ext H.disj) _ _ L) (Zcn (E.ext H.disj) _ _ S.rels))⟩);refine⟨_,_,_,d,this.1,this.2,?_⟩;simp only[VRel];exact .inr ⟨I,base+off,base+off,cap,_,Y,fr,Qa7,rfl,B,QdB hlt,.inr ⟨by omega,by simp_all⟩⟩
     obtain⟨olds,So⟩:=Qfg (P:=P) H hxx p hl;have d:=Qcu (P:=P) (w:=w) (ty:=ty) (t:=t) (t2:=t2) (dlen:=len) (dcap:=cap) (base:=some ⟨I,o,none⟩) (cy:=cy) (olds:=olds) (us:=us) X q A hi hz S.lenOf S.first So.first (by omega) hb (by omega);have hgl:=Qij w (need:=len+n) (old:=cap) e;have hol:=QaE So.rels;have hol2:=So.len;obtain⟨c',E',H',V'⟩:=QfI H f (.inr ⟨_,p,rfl⟩:h.get b=none/\g+1=0\/∃z,h.get b=some z/\g+1=z.gen+1) (e:=e) (rest:=(Builtin.zeroCells z.cells (grownCap w (len+n) cap e-(len+n))).toList) (QbC So.rels S.rels) (len:=len+n) (cap:=grownCap w (len+n) cap e) (sz:=F.size) hgl (by have O:=QcQ z.cells (grownCap w (len+n) cap e-(len+n));rw[hzs]at O;simp only[Zag,Array.length_toList,O,<-hul,hyl,<-hol,hol2];rw[<-ZbP,<-ZbP];simp_all);exact⟨_,c',_,d,E',H',V'⟩
    grind[HM.run]
   grind[HM.run]
  case typed tt mm y=>cases mm with|zero=>simp[HM.run]at hm|succ m=>
   cases y<;>try(simp[HM.run]at hm;done)
   rename_i b g off len s';dsimp only at hm;split at hm
   ·rename_i hc;obtain⟨rfl,hpos,B⟩:=hc;obtain⟨cs,p,hm⟩:=Qbm hm;split at hm
    ·rename_i hl;obtain⟨f,hm⟩:=Qa5 hm;simp only[HM.run,Zab,Zal]at hm;obtain⟨rfl,rfl⟩:=hm;simp only[VRel]at J;obtain⟨hty,J⟩:=J;rcases J with⟨hp,rfl,rfl,rfl⟩|⟨I,base,o,cap,C,Y,fr,hp,rfl,hlc,hC,N⟩;·have :=hty.room;omega
     have hcm:=hty.room;obtain⟨rfl,hbd⟩:=N.resolve_left (by omega);have d:=Qbw (P:=P) (ty:=ty) (base:=some ⟨I,base+off,none⟩) (dlen:=len) (dcap:=cap) X q A hi S.lenOf (S.first w rfl) (by omega);simp only[Qb3,Nat.add_assoc]at d;obtain⟨c',w',U,E,H'⟩:=QdE (P:=P) (off:=off+len*F.size) H p f hp (by rw[hyl,Nat.add_assoc,<-ZbP];exact hl) S.rels M;rw[U]at d;simp only[Result.andThen_ok]at d;obtain⟨C',fr',V,hsz⟩:=E.shape _ _ _ _ hC;refine⟨_,c',w',d,E,H',?_⟩;simp only[VRel];exact⟨.inr ⟨by omega,_,_,_,rfl,by omega⟩,.inr ⟨I,base,_,cap,C',Y,fr',E.rho _ _ _ hp,rfl,by omega,V,.inr ⟨rfl,by omega⟩⟩⟩
    simp[HM.run]at hm
   simp[HM.run]at hm
 simp_all[if_neg,HM.run]
end Go.AM
theorem Go.AM.bgfo7{p:Prop}(h:p:=by
 obtain⟨_,rfl⟩:=s;exact⟨fun d=>by simp[Op.equalIn,run_underlying i],rfl,rfl,fun{op ox cv}=>by cases op<;>rfl⟩):p:=h
theorem Go.AM.bcgY5{p:Prop}(h:p:=by
 exact⟨fun d=>by simp[Op.equalIn,run_underlying i],rfl,rfl,fun{op ox cv}=>by cases op<;>rfl⟩):p:=h
theorem Go.AM.bsdiK{p:Prop}(h:p:=by
 obtain⟨_,_,_,rfl⟩:=s;exact⟨fun d=>by simp[Op.equalIn,run_underlying i],rfl,rfl,fun{op ox cv}=>by cases op<;>rfl⟩):p:=h
theorem Go.AM.bl1dC{p:Prop}(h:p:=by
 exact .here H (cv:=goInt len) (by simp[Builtin.len_,run_underlying hu]) (by simp[VRel,goInt])):p:=h
theorem Go.AM.bmmt7{p:Prop}(h:p:=by
 split at hm;·rename_i i x hf;simp only[HM.run,Zab,Zal]at hm;obtain⟨rfl,rfl⟩:=hm;obtain⟨r',h1,h2⟩:=QbP (P:=P) (w:=w) T hkey hR hf;cases r' with|none=>simp[FoundRel]at h2|some r'=>
  obtain⟨i',xv⟩:=r';simp only[FoundRel]at h2;refine .here H (cv:=if ok then .tuple #[xv,.bool true]else xv) ?_ ?_;·simp[Instr.lookup,run_underlying T.hu,QbY hC,hck,h1]
  ·grind[VRel,VRels]
 ·rename_i hf;simp only[HM.run,Zab,Zal]at hm;obtain⟨rfl,rfl⟩:=hm;obtain⟨r',h1,h2⟩:=QbP (P:=P) (w:=w) T hkey hR hf;have:r'=none:=by grind[FoundRel]
  subst this;refine .here H (cv:=if ok then .tuple #[zv,.bool false]else zv) ?_ ?_;·simp[Instr.lookup,run_underlying T.hu,QbY hC,hck,h1,zeroValue,typeInfo,hi,hz]
  grind[VRel,VRels]
 grind[HM.run]):p:=h
namespace Go.AM
variable{P:Program}{ok:Okc}{c:Ctx ok}{w:World}{h:Heap}
variable{v x y:AV}{cs:Array Value}{b neg:Bool}{k:EqK}{ks:List LK}{d g:Nat}{s:Sem Value}{α:Type}{t:TypeId}{i:TypeInfo}{m:Value}
def Pure(P:Program)(c:Ctx ok)(w:World)(s:Sem Value)(v:AV):Prop:=∃a,s.run P w=.ok a w/\VRel c w v a
theorem Pure.sound(H:HRel c h w)(p:Pure P c w s v):Sound P c w s v h:=let⟨_,h1,a⟩:=p;.here H h1 a
theorem QdG[BEq α][LawfulBEq α][DecidableEq α](a b:α):(a==b)=decide (a=b):=by grind
theorem Qup[BEq α][LawfulBEq α][DecidableEq α](a b:α):(a !=b)=!decide (a=b):=by grind
theorem QqR{op}{h cy}(f:VRel c w x h)(g:VRel c w y cy)(hm:aBin op x y=some v):Pure P c w (binOp op t h cy) v:=by
 unfold aBin at hm;split at hm
 ·rename_i k a m b;simp only[VRel]at f g;subst f;subst g;split at hm
  ·split at hm;·cases hm
   rename_i d;cases hm;exact⟨_,by simp[binOp,Op.shift,d];rfl,by simp[VRel,wr_eq]⟩
  ·split at hm;·cases hm
   rename_i d;cases hm;exact⟨_,by simp[binOp,Op.shift,d];rfl,by simp[VRel]⟩
  split at hm;·rename_i l;subst l;split at hm<;>first
   | (by_cases d:b=0;·rw[if_pos d]at hm;cases hm
      ·rw[if_neg d]at hm;cases hm;refine⟨?_,?_,?_⟩;rotate_left;·simp[binOp,Op.intDiv,d];rfl
       grind[VRel,wr_eq])
   | (cases hm;refine⟨.bool (a==b),?_,?_⟩;·simp[binOp,Op.intCmp];done
      ·grind[VRel])
   | (cases hm;refine⟨.bool (a !=b),?_,?_⟩;·simp[binOp,Op.intCmp];done
      ·grind[VRel])
   | (cases hm;refine⟨?_,?_,?_⟩;rotate_left;·simp[binOp,Op.intCmp];rfl
      ·simp[VRel];done)
   | (cases hm;refine⟨?_,?_,?_⟩;rotate_left;·simp[binOp,Op.intArith];rfl
      ·simp[VRel,wr_eq];done)
   | (cases hm;refine⟨?_,?_,?_⟩;rotate_left;·simp[binOp,Op.intBits];rfl
      ·simp[VRel,wr_eq];done)|cases hm
  cases hm
 ·rename_i a b;simp only[VRel]at f g;subst f;subst g;split at hm
  ·split at hm
   ·rename_i n;cases hm;have i:¬(9223372036854775807<(a.length:Int)+(b.length:Int)):=by omega
    exact⟨.string ⟨(a++b).toArray⟩,by simp[binOp,Op.stringOp,ByteArray.size,i];rfl,by simp[VRel]⟩
   cases hm
  all_goals first|(cases hm;exact⟨_,by simp[binOp,Op.stringOp];rfl,by simp[VRel,QdG,Qup]⟩)|cases hm
 cases hm
theorem Qtd{op}{b}(a:VRel c w x b)(hm:aUn op x=some v):Pure P c w (Op.unary op b) v:=by
 unfold aUn at hm;split at hm;·simp only[VRel]at a;subst a;cases hm;exact⟨_,by simp[Op.unary,Op.intArith];rfl,by simp[VRel,wr_eq]⟩
 ·simp only[VRel]at a;subst a;cases hm;rename_i k n;refine⟨_,by simp[Op.unary,Op.intBits];rfl,?_⟩;simp only[VRel,wr_eq];cases k<;>rfl
 ·simp only[VRel]at a;subst a;cases hm;exact⟨_,by simp[Op.unary];rfl,by simp[VRel]⟩
 cases hm
def flatF(P:Program)(rec:TypeId->Option (List LK)):List Field->Nat->Option (List LK)|[],_=>some []|f::fs,off=>if f.name= "_"\/f.offset≠off then none else match rec f.type with|some ks=>if P.cellsOf f.type=ks.length then(match flatF P rec fs (off+ks.length)with|some r=>some (ks++r)|none=>none)else none|none=>none
def flatK(P:Program):Nat->TypeId->Option (List LK)|0,_=>none|d+1,t=>match P.underlying t with
 |some .bool=>some [.b]|some (.int _)=>some [.i]|some .string=>some [.s]|some (.struct fs)=>if P.stoodInHeld t then none else flatF P (flatK P d) fs.toList 0|some (.array n e)=>match flatK P d e with|some ks=>if P.cellsOf e=ks.length then some (List.replicate n ks).flatten else none|none=>none
 |_=>none
def rowB(P:Program)(t:TypeId):Bool:=match P.underlying t with|some (.struct _)|some (.array _ _)=>true|_=>false
def asVal(row:Bool)(vs:List Value):Value:=if row then .agg vs.toArray else vs.headD undef
theorem QcR:∀{ks:List LK}{xs ys:List AV}{b:Bool},ZE ks xs ys=some b->xs.length=ks.length/\ys.length=ks.length
 |[],[],[],_,_=>by simp|[],x::xs,ys,_,c=>by simp[ZE]at c|[],[],y::ys,_,c=>by simp[ZE]at c|k::ks,[],ys,_,c=>by simp[ZE]at c|k::ks,x::xs,[],_,c=>by simp[ZE]at c|k::ks,x::xs,y::ys,b,c=>by
  simp only[ZE]at c;split at c;·rename_i a f h1 d;have:=QcR d;simp[this]
  cases c
theorem Qcy:∀{ks ks':List LK}{xs ys:List AV}{b:Bool},ZE (ks++ks') xs ys=some b->∃d b2,ZE ks (xs.take ks.length) (ys.take ks.length)=some d/\ZE ks' (xs.drop ks.length) (ys.drop ks.length)=some b2/\b=(d&&b2)
 |[],ks',xs,ys,b,c=>⟨true,b,by simp[ZE],by simpa using c,by simp⟩|k::ks,ks',[],ys,b,c=>by simp[ZE]at c|k::ks,ks',x::xs,[],b,c=>by simp[ZE]at c|k::ks,ks',x::xs,y::ys,b,c=>by
  simp only[ZaW,ZE]at c;split at c;·rename_i a i h1 f;obtain⟨d,b2,l,g,h⟩:=Qcy f;simp_all[Bool.and_assoc,ZE]
  cases c
theorem QdH{off n}(w){d}(b:P.underlying t=some d)(hi:P.info? t=some i)(f:i.size=n)(c:rowB P t=false->n=1)(g:off+n<=cs.size):(part t cs off).run P w=.ok (asVal (rowB P t) ((cs.toList.drop off).take n)) w:=by
 subst f;unfold part isAgg;have key:rowB P t=false->cs[off]?=some (((cs.toList.drop off).take i.size).headD undef):=by grind[List.take_one,ZbC]
 have agg:.agg (cs.extract off (off+i.size))=(Value.agg ((cs.toList.drop off).take i.size).toArray):=by congr 1;grind
 cases d<;>first
  | (have a:rowB P t=true:=by simp[rowB,b]
     simp only[Sem.run_bind,run_underlying b,Result.andThen_ok,Sem.run_pure,if_true,QaN hi,a,asVal];rw[agg])
  | (have a:rowB P t=false:=by simp[rowB,b]
     simp only[Sem.run_bind,run_underlying b,Result.andThen_ok,Sem.run_pure,Zat,if_false,key a,a,asVal])
theorem Qbx{d}(a:P.underlying t=some d):∃i,P.info? t=some i:=by unfold Program.underlying at a;grind
theorem Qcp(a:flatK P d t=some ks)(b:rowB P t=false):ks.length=1:=by cases d with|zero=>simp[flatK]at a|succ d=>unfold flatK at a;unfold rowB at b;split at a<;>first|(simp_all;done)|(cases a;rfl)|(rename_i c;simp[c]at b)
theorem Qcg(a:flatK P d t=some ks):∃u,P.underlying t=some u:=by cases d with|zero=>simp[flatK]at a|succ d=>unfold flatK at a;cases b:P.underlying t with|none=>simp[b]at a|some u=>exact⟨u,rfl⟩
def EqRun(P:Program)(c:Ctx ok)(w:World)(d:Nat):Prop:=∀(t:TypeId)(ks:List LK),flatK P d t=some ks->∀(xs a:List AV)(us f:List Value)(b:Bool),VRels c w xs us->VRels c w a f->ZE ks xs a=some b->∀D,d<=D->(Op.equalIn D t (asVal (rowB P t) us) (asVal (rowB P t) f)).run P w=.ok b w
theorem Qgn(F:EqRun P c w d):∀(fs:List Field)(off:Nat)(ks:List LK),flatF P (flatK P d) fs off=some ks->∀(xs ys:List AV)(us vs:Array Value)(b:Bool),VRels c w xs (us.toList.drop off)->VRels c w ys (vs.toList.drop off)->ZE ks xs ys=some b->off+ks.length<=us.size->off+ks.length<=vs.size->∀D,d<=D->(Op.eqFields D us vs fs).run P w=.ok b w
 |[],off,ks,a,xs,ys,us,vs,b,p,o,z,_,_,D,t=>by simp only[flatF,Zab]at a;subst a;cases xs<;>cases ys<;>simp[ZE]at z;simp_all[Op.eqFields]|f::fs,off,ks,a,xs,ys,us,vs,b,p,o,z,L,J,D,t=>by
  simp only[flatF]at a;split at a;·cases a
  rename_i I;have v:f.name≠ "_":=fun e=>I (.inl e);have x:f.offset=off:=by omega
  split at a
  ·rename_i g h;split at a
   ·rename_i hc;split at a
    ·rename_i r G;cases a;simp only[Zag]at L J;obtain⟨E,b2,K,H,rfl⟩:=Qcy z;obtain⟨u,k⟩:=Qcg h;obtain⟨i,hi⟩:=Qbx k;have m:i.size=g.length:=by simp_all[Program.cellsOf]
     have y:=QaE p;have A:=QaE o;simp at y A;have C:=QdH (P:=P) (cs:=us) (off:=off) w k hi m (Qcp h) (by omega);have s:=QdH (P:=P) (cs:=vs) (off:=off) w k hi m (Qcp h) (by omega);have n:=QaK (Qa4 p) 0 g.length (by omega);have l:=QaK (Qa4 o) 0 g.length (by omega);simp only[Za5]at n l;have h1:=F f.type g h _ _ _ _ E n l K D t;have B:VRels c w (xs.drop g.length) (us.toList.drop (off+g.length)):=by have:=QaK (Qa4 p) g.length (xs.length-g.length) (by omega);grind[ZaM,Za1]
     have q:VRels c w (ys.drop g.length) (vs.toList.drop (off+g.length)):=by have:=QaK (Qa4 o) g.length (ys.length-g.length) (by omega);grind[ZaM,Za1]
     have M:=Qgn F fs (off+g.length) r G _ _ us vs b2 B q H (by omega) (by omega) D t;simp only[Op.eqFields,ne_eq,v,not_false_eq_true,if_true,Sem.run_bind,x,C,s,Result.andThen_ok,h1];cases E<;>simp[M]
    cases a
   cases a
  cases a
def eqElems(D:Nat)(e:TypeId)(n:Nat)(xs ys:Array Value):List Nat->Sem Bool|[]=>pure true|i::is=>do let a<-part e xs (i*n)let b<-part e ys (i*n)let r<-Op.equalIn D e a b if(!r)=true then pure false else eqElems D e n xs ys is
theorem Qhz(D)(t e)(len n)(xs ys)(w)(h:P.underlying t=some (.array len e))(m:∀w,(sizeOf e).run P w=.ok n w):(Op.equalIn (D+1) t (.agg xs) (.agg ys)).run P w=(eqElems D e n xs ys (List.range' 0 len)).run P w:=by simp only[Op.equalIn,Sem.run_bind,run_underlying h,Result.andThen_ok,m,Std.Legacy.Range.forIn_eq_forIn_range',Std.Legacy.Range.size,Nat.sub_zero,ZbU,Nat.div_one];generalize List.range' 0 len=l;induction l generalizing w with|nil=>simp[eqElems]|cons i l p=>simp only[List.forIn_cons,eqElems,Sem.run_bind,Sem.run_ite];generalize(part e xs (i*n)).run P w=g;cases g with
 |ok a c=>simp only[Result.andThen_ok];generalize(part e ys (i*n)).run P c=f;cases f with
  |ok b d=>simp only[Result.andThen_ok];generalize(Op.equalIn D e a b).run P d=o;cases o with
   |ok r k=>
    cases r;·simp_all
    simp_all|halt x k=>simp[Result.andThen]
  |halt x d=>simp[Result.andThen]
 |halt x c=>simp[Result.andThen]
theorem QhB(B:EqRun P c w d){e}(k:flatK P d e=some ks)(hc:P.cellsOf e=ks.length):∀(m s:Nat)(xs ys:List AV)(us vs:Array Value)(b:Bool),VRels c w xs (us.toList.drop (s*ks.length))->VRels c w ys (vs.toList.drop (s*ks.length))->ZE (List.replicate m ks).flatten xs ys=some b->(s+m)*ks.length<=us.size->(s+m)*ks.length<=vs.size->∀D,d<=D->(eqElems D e ks.length us vs (List.range' s m)).run P w=.ok b w
 |0,s,xs,ys,us,vs,b,n,o,l,_,_,D,q=>by cases xs<;>cases ys<;>simp[ZE]at l;simp_all[eqElems]|m+1,s,xs,ys,us,vs,b,n,o,l,H,G,D,q=>by
  rw[Za7,Zbw]at l;obtain⟨A,b2,C,F,rfl⟩:=Qcy l;obtain⟨u,a⟩:=Qcg k;obtain⟨i,hi⟩:=Qbx a;have f:i.size=ks.length:=by simp_all[Program.cellsOf]
  have v:=QaE n;have y:=QaE o;simp at v y;have J:(s+(m+1))*ks.length=s*ks.length+ks.length+m*ks.length:=by grind
  have I:(s+1)*ks.length=s*ks.length+ks.length:=Zbn _ _;have t:=QdH (P:=P) (cs:=us) (off:=s*ks.length) w a hi f (Qcp k) (by omega);have x:=QdH (P:=P) (cs:=vs) (off:=s*ks.length) w a hi f (Qcp k) (by omega);have h:=QaK (Qa4 n) 0 ks.length (by omega);have g:=QaK (Qa4 o) 0 ks.length (by omega);simp only[Za5]at h g;have h1:=B e ks k _ _ _ _ A h g C D q;have z:VRels c w (xs.drop ks.length) (us.toList.drop ((s+1)*ks.length)):=by have:=QaK (Qa4 n) ks.length (xs.length-ks.length) (by omega);grind[ZaM,Za1]
  have p:VRels c w (ys.drop ks.length) (vs.toList.drop ((s+1)*ks.length)):=by have:=QaK (Qa4 o) ks.length (ys.length-ks.length) (by omega);grind[ZaM,Za1]
  have E:=QhB B k hc m (s+1) _ _ us vs b2 z p F (by grind) (by grind) D q;simp only[Zcg,eqElems,Sem.run_bind,t,x,Result.andThen_ok,h1];cases A<;>simp[E]
theorem eqRun:∀d,EqRun P c w d
 |0=>fun t ks g=>by simp[flatK]at g|d+1=>by
  intro t ks g xs q us C b p m f D L;obtain⟨D',rfl⟩:∃D',D=D'+1:=⟨D-1,by omega⟩;have I:=QaE p;have J:=QaE m;obtain⟨K,G⟩:=QcR f;unfold flatK at g;split at g
  ·rename_i h;cases g;have l:rowB P t=false:=by simp[rowB,h]
   match xs,q,f with|[x],[y],f=>simp only[ZE]at f;split at f<;>cases f;rename_i a E h1 s;cases s;cases x<;>cases y<;>simp only[eqCell,reduceCtorEq]at h1;cases h1;simp only[VRels,VRel]at p m;obtain⟨_,_,rfl,rfl,rfl⟩:=p;obtain⟨_,_,rfl,rfl,rfl⟩:=m;simp[l,asVal,Op.equalIn,run_underlying h,QdG]
  ·rename_i k h;cases g;have l:rowB P t=false:=by simp[rowB,h]
   match xs,q,f with
   |[x],[y],f=>
    simp only[ZE]at f;split at f<;>cases f;rename_i a E h1 s;cases s;cases x<;>cases y<;>simp only[eqCell,reduceCtorEq]at h1;split at h1;·rename_i B;cases h1;subst B;simp only[VRels,VRel]at p m;obtain⟨_,_,rfl,rfl,rfl⟩:=p;obtain⟨_,_,rfl,rfl,rfl⟩:=m;simp[l,asVal,Op.equalIn,run_underlying h];rw[QdG]
    ·cases h1
  ·rename_i h;cases g;have l:rowB P t=false:=by simp[rowB,h]
   match xs,q,f with|[x],[y],f=>simp only[ZE]at f;split at f<;>cases f;rename_i a E h1 s;cases s;cases x<;>cases y<;>simp only[eqCell,reduceCtorEq]at h1;cases h1;simp only[VRels,VRel]at p m;obtain⟨_,_,rfl,rfl,rfl⟩:=p;obtain⟨_,_,rfl,rfl,rfl⟩:=m;simp[l,asVal,Op.equalIn,run_underlying h,beq_toListBytes,QdG]
  ·rename_i fs h;split at g;·cases g
   rename_i z;have l:rowB P t=true:=by simp[rowB,h]
   have hf:P.fieldsOf t=fs:=by simp[Program.fieldsOf,h]
   simp only[l,asVal,if_true];rw[run_equalIn_struct w D' t _ _ (by simp_all) (by simpa using z),hf];exact Qgn (eqRun d) fs.toList 0 ks g xs q us.toArray C.toArray b (by simpa using p) (by simpa using m) f (by simp;omega) (by simp;omega) D' (by omega)
  ·rename_i n e h;split at g
   ·rename_i o v;split at g
    ·rename_i hc;cases g;have l:rowB P t=true:=by simp[rowB,h]
     obtain⟨u,A⟩:=Qcg v;obtain⟨i,hi⟩:=Qbx A;have F:i.size=o.length:=by simp_all[Program.cellsOf]
     simp only[l,asVal,if_true];rw[Qhz D' t e n o.length _ _ w h (fun w=>by simp_all[QaN])];have H:(List.replicate n o).flatten.length=n*o.length:=by simp
     exact QhB (eqRun d) v hc n 0 xs q us.toArray C.toArray b (by simpa using p) (by simpa using m) f (by simp;omega) (by simp;omega) D' (by omega)
    cases g
   cases g
  cases g
def kindT(P:Program)(t:TypeId):Nat:=match P.underlying t with|some (.pointer _)=>1|some (.slice _)=>2|some (.map _ _)=>3|some (.func _ _ _)=>4|some (.interface _)=>5|_=>0
def eqT(P:Program)(t:TypeId):EqK->Bool
 |.flat row ks=>match row with|true=>rowB P t&&!P.eqGuardType P.depth t&&(match flatK P 40 t with|some a=>ks.length==a.length&&(ks.zip a).all (fun p=>match p with|(.b,.b)|(.i,.i)|(.s,.s)=>true|_=>false)|none=>false)|false=>match P.underlying t with|some .bool=>true|_=>false
 |.nil kind=>kindT P t==kind
theorem lk_eq:∀{ks ks':List LK},(ks.length==ks'.length&&(ks.zip ks').all (fun p=>match p with|(.b,.b)|(.i,.i)|(.s,.s)=>true|_=>false))=true->ks=ks'|[],[],_=>rfl|[],_::_,a=>by simp at a|_::_,[],a=>by simp at a|k::ks,c::ks',a=>by simp only[ZaD,List.zip_cons_cons,Zcb,Zac,beq_iff_eq]at a;have b:=lk_eq (ks:=ks) (ks':=ks') (by simp_all);grind
theorem QvV(b):(b !=false)=b:=by cases b<;>rfl
theorem QvW(b):(b !=true)=!b:=by cases b<;>rfl
theorem QqS{op}{x y}(a:op=if neg then .neq else .eql)(h1:binOp .eql t x y=(do pure (.bool (<-Op.equal t x y))))(g:binOp .neq t x y=(do pure (.bool (!(<-Op.equal t x y)))))(f:∀d,(Op.equalIn (d+1) t x y).run P w=.ok b w):(binOp op t x y).run P w=.ok (.bool (b !=neg)) w:=by
 have c:(Op.equal t x y).run P w=.ok b w:=f 9999;subst a;cases neg;·simp_all
 simp_all
theorem QvX{h cy}(h1:isNil x=some (b,g))(q:isNil y=some (true,g))(p:VRel c w x h)(E:VRel c w y cy)(A:kindT P t=g):(∀d,(Op.equalIn (d+1) t h cy).run P w=.ok b w)/\binOp .eql t h cy=(do pure (.bool (<-Op.equal t h cy)))/\binOp .neq t h cy=(do pure (.bool (!(<-Op.equal t h cy))))/\∀{op:BinOp}{ox:Operand}{cv:Value},(eqGuard op t ox (.const cv) h cy).run P w=.ok () w:=by
 unfold kindT at A;have B:(cy=.pointer none/\g=1)\/(cy=.slice none 0 0/\g=2)\/(cy=.map none/\g=3)\/(cy=.nilFunc/\g=4)\/(cy=.nilIface/\g=5):=by
  unfold isNil at q;split at q<;>try simp only[Zab,Zal,reduceCtorEq,Zat,false_and,true_and]at q
  all_goals first|(subst q;simp only[VRel]at E;subst E;simp;done)|(split at q<;>simp at q;done)|(exfalso;simp at q;done)
 have z:(b=true/\h=.pointer none/\g=1)\/(b=false/\g=1/\∃a,h=.pointer (some a))\/(b=true/\h=.slice none 0 0/\g=2)\/(b=false/\g=2/\∃a n m,h=.slice (some a) n m)\/(b=true/\h=.map none/\g=3)\/(b=false/\g=3/\∃a,h=.map (some a))\/(b=true/\h=.nilFunc/\g=4)\/(b=false/\g=4/\∃f u v,h=.func f u v)\/(b=true/\h=.nilIface/\g=5)\/(b=false/\g=5/\∃u v,h=.iface u v):=by
  unfold isNil at h1;split at h1<;>try simp only[Zab,Zal,reduceCtorEq]at h1
  all_goals try(split at h1)
  all_goals try(simp only[Zab,Zal,reduceCtorEq]at h1)
  all_goals try(cases h1;done)
  all_goals obtain⟨rfl,rfl⟩:=h1;simp only[VRel]at p
  ·subst p;simp
  ·grind
  ·grind
  ·subst p;simp
  ·grind
  ·grind
  ·grind
  ·subst p;simp
  ·grind
  ·grind
  ·subst p;simp
  ·grind
  ·grind
  ·subst p;simp
  ·grind
  ·grind
  obtain⟨⟨I,C,G,h1|⟨_,l,k,rfl⟩,_⟩|⟨F,_,_,_,rfl,H⟩,p⟩:=p;·simp_all
  ·simp
  rcases p with⟨hp,rfl,rfl,h1⟩|⟨I,base,o,cap,C,K,G,hp,h1,J⟩;·cases h1;omega
  cases h1;simp
 rcases B with⟨rfl,rfl⟩|⟨rfl,rfl⟩|⟨rfl,rfl⟩|⟨rfl,rfl⟩|⟨rfl,rfl⟩<;>simp only[Nat.reduceEqDiff,and_false,false_and,or_false,false_or,and_true,true_and,reduceCtorEq]at z<;>(split at A<;>first|(simp at A;done)|skip)<;>rename_i i<;>rcases z with⟨rfl,rfl⟩|⟨rfl,s⟩;·exact⟨fun d=>by simp[Op.equalIn,run_underlying i],rfl,rfl,fun{op ox cv}=>by cases op<;>rfl⟩
 ·exact bgfo7
 ·exact bcgY5
 ·exact bsdiK
 ·exact bcgY5
 ·exact bgfo7
 ·exact bcgY5
 ·exact bsdiK
 ·exact⟨fun d=>by simp[Op.equalIn,run_underlying i],rfl,rfl,fun{op ox cv}=>by cases op<;>cases ox<;>rfl⟩
 obtain⟨_,_,rfl⟩:=s;exact bcgY5
theorem Qmm{op}{ox oy:Operand}{cy}(f:op=if neg then .neq else .eql)(h:VRel c w x m)(g:VRel c w y cy)(i:eqT P t k=true)(hc:(∀kind,k=.nil kind->∃v,oy=.const v))(hm:aEq k neg x y=some v):Pure P c w (do eqGuard op t ox oy m cy;binOp op t m cy) v:=by unfold aEq at hm;cases k with
 |flat row ks=>cases row with
  |true=>
   cases x<;>try(simp at hm;done)
   cases y<;>try(simp at hm;done)
   rename_i xs p;simp only at hm;split at hm
   ·rename_i b u;cases hm;simp only[VRel]at h g;obtain⟨us,rfl,h⟩:=h;obtain⟨B,rfl,g⟩:=g;simp only[eqT,Zac,Zbh]at i;obtain⟨⟨s,o⟩,l⟩:=i;split at l
    ·rename_i F n;have:=lk_eq l;subst this;have h1:=eqRun (P:=P) (c:=c) (w:=w) 40 t ks n xs p us.toList B.toList b h g u 10000 (by omega);simp only[s,asVal,if_true,Array.toArray_toList]at h1;subst f;cases neg;·exact⟨_,by simp[run_eqGuard_agg,o,run_eql_struct,h1];rfl,by simp[VRel,QvV]⟩
     exact⟨_,by simp[run_eqGuard_agg,o,run_neq_struct,h1];rfl,by simp[VRel,QvW]⟩
    simp at l
   cases hm|false=>
   cases x<;>try(simp at hm;done)
   cases y<;>try(simp at hm;done)
   rename_i a b;simp only[Zab]at hm;subst hm;simp only[VRel]at h g;subst h;subst g;simp only[eqT]at i;split at i
   ·rename_i E;have:=QqS (P:=P) (w:=w) (t:=t) (x:=.bool a) (y:=.bool b) (b:=(a==b)) f rfl rfl (fun d=>run_equalIn_bool' w d t a b E);refine⟨.bool ((a==b)!=neg),?_,?_⟩;·simp_all[eqGuard]
    grind[VRel]
   cases i
 |nil kind=>
  obtain⟨J,rfl⟩:=hc kind rfl;simp only at hm;split at hm
  ·rename_i b I H h1 G;split at hm;·rename_i l;cases hm;simp only[eqT,beq_iff_eq]at i;obtain⟨A,z,C,q⟩:=QvX (P:=P) (w:=w) (t:=t) (by rw[l.1]at h1;exact h1) (by simp_all) h g i;refine⟨.bool (b !=neg),?_,by simp[VRel]⟩;rw[Sem.run_bind,q];exact QqS f z C A
   cases hm
  cases hm
end Go.AM
namespace Go.AM
variable{P:Program}{ok:Okc}{c:Ctx ok}{w:World}{h:Heap}
variable{v x:AV}{ats:Array TypeId}{d:Array Value}{h':Heap}{i lw:Int}{k:IntKind}{xs ys:List AV}{us:List Value}{off y:Nat}{arr:Option (Nat×Nat×Bool)}{l:Option AV}{n:Option Nat}{B a g:Option Value}{s src t ty:TypeId}{ti:TypeInfo}{I b ci cx q:Value}
def ORel(c:Ctx ok)(w:World):Option AV->Option Value->Prop|none,none=>True|some x,some v=>VRel c w x v|_,_=>False
theorem Qb0{code}(a:0<=i)(h1:i<=y):(Instr.sliceBound (.int k i) y code).run P w=.ok i.toNat w:=by simp[Instr.sliceBound,asIntOf,a,h1]
theorem Qd1(b:ORel c w l a)(d)(el:bnd d l=some lw):a=none/\lw=d\/∃k,a=some (.int k lw):=by cases l with
 |none=>cases a with|none=>cases el;exact .inl ⟨rfl,rfl⟩|some v=>simp[ORel]at b
 |some x=>cases x<;>simp only[bnd,reduceCtorEq,Zab]at el;cases a with|none=>simp[ORel]at b|some v=>simp only[ORel,VRel]at b;subst el;exact .inr ⟨_,by rw[b]⟩
theorem Qca{isSlice}{len cap:Nat}{h}{ch}{a}(m:ORel c w l g)(b:ORel c w h ch)(el:bnd 0 l=some lw)(k:bnd len h=some a)(n:0<=lw)(h1:lw<=a)(i:a<=cap):(Instr.sliceBounds isSlice len cap g ch none).run P w=.ok (lw.toNat,a.toNat,cap) w:=by
 have f:=Qd1 m 0 el;have d:=Qd1 b len k;rcases f with⟨rfl,rfl⟩|⟨o,rfl⟩<;>rcases d with⟨rfl,rfl⟩|⟨p,rfl⟩;·simp[Instr.sliceBounds]
 ·simp_all[Instr.sliceBounds,Qb0]
 ·simp_all[Qb0,Instr.sliceBounds]
 have q:((a.toNat:Nat):Int)=a:=by omega
 have:=Qb0 (P:=P) (w:=w) (k:=o) (y:=a.toNat) (code:=.sliceB) n (by omega);simp[Instr.sliceBounds,Qb0 (P:=P) (w:=w) (by omega:0<=a) i,this]
def sliceT(P:Program)(t:TypeId)(sz:Option Nat):Bool:=match P.underlying t,sz with|some (.slice e),some n=>(match P.info? e with|some i=>i.size==n|none=>false)|some .string,none=>true|_,_=>false
theorem QcY{sz}{hi mx}{cl ch cm}(p:VRel c w x cx)(K:ORel c w l cl)(I:ORel c w hi ch)(T:ORel c w mx cm)(ht:sliceT P t sz=true)(X:∀b g off len s,x=.sl b g off len s->sz=some s)(M:∀cs len s,x=.fsl cs len s->sz=some s)(hst:(∃s,x=.str s)->sz=none)(Q:(∃s,x=.str s)\/sz≠none)(hm:aSlice x l hi mx=some v):Pure P c w (Instr.sliceAt t cx cl ch cm) v:=by
 unfold aSlice at hm;simp only at hm;split at hm;·cases hm
 rename_i lw el;have h:sz≠none->∃e i n,P.underlying t=some (.slice e)/\P.info? e=some i/\sz=some n/\i.size=n:=by intro hne;unfold sliceT at ht;grind
 cases mx with
 |some m=>cases m<;>simp only[reduceCtorEq]at hm;rename_i km q;cases cm with|none=>simp[ORel]at T|some cmv=>simp only[ORel,VRel]at T;subst T;cases hi with|none=>simp at hm|some hv=>cases hv<;>simp only[reduceCtorEq]at hm;rename_i Z f;cases ch with|none=>simp[ORel]at I|some chv=>
  simp only[ORel,VRel]at I;subst I;split at hm
  ·rename_i d;obtain⟨rfl,rfl,rfl⟩:=d;have O:∀len cap,(Instr.sliceBounds true len cap cl (some (.int Z 0)) (some (.int km 0))).run P w=.ok (0,0,0) w:=by
    intro len cap;have b1:=Qb0 (P:=P) (w:=w) (k:=km) (i:=0) (y:=cap) (code:=.slice3Acap) (by omega) (by omega);have b2:=Qb0 (P:=P) (w:=w) (k:=Z) (i:=0) (y:=0) (code:=.slice3B) (by omega) (by omega);rcases Qd1 K 0 el with⟨rfl,_⟩|⟨k1,rfl⟩;·simp[Instr.sliceBounds,b1,b2]
    simp_all[Qb0,Instr.sliceBounds]
   cases x<;>simp only[reduceCtorEq,Zab]at hm;all_goals subst hm;obtain⟨e,i,n,S,z,J,hin⟩:=h (Q.resolve_left (by simp));simp only[VRel]at p
   ·subst p;exact⟨.slice none 0 0,by simp_all[Instr.sliceAt,Instr.slice,run_underlying,QaN],by simp[VRel]⟩
   ·rcases p with⟨hp,rfl,rfl,rfl⟩|⟨k,base,o,cap,C,H,G,hp,rfl,B,A,y⟩;·exact⟨.slice none 0 0,by simp_all[Instr.sliceAt,Instr.slice,run_underlying,QaN],by simp[VRel]⟩
    exact⟨.slice (some ⟨k,o,none⟩) 0 0,by simp_all[Instr.sliceAt,Instr.slice,run_underlying,QaN],by simp[VRel]⟩
   ·rcases p with⟨⟨Y,rfl⟩,rfl,rfl⟩|⟨k,off,cap,C,H,G,rfl,B,hlen,U,A,u⟩;·exact⟨.slice Y 0 0,by simp_all[Instr.sliceAt,Instr.slice,run_underlying,QaN],by simp[VRel]⟩
    exact⟨.slice (some ⟨k,off,none⟩) 0 0,by simp_all[Instr.sliceAt,Instr.slice,run_underlying,QaN],by simp[VRel]⟩
   obtain⟨a,rfl⟩:=p;exact⟨.slice a 0 0,by simp_all[Instr.sliceAt,Instr.slice,run_underlying,QaN],by simp[VRel]⟩
  rename_i hne0;have O:∀(len cap:Nat),0<=lw->lw<=f->f<=q->q<=cap->(Instr.sliceBounds true len cap cl (some (.int Z f)) (some (.int km q))).run P w=.ok (lw.toNat,f.toNat,q.toNat) w:=by
   intro len cap q1 q2 q3 q4;have b1:=Qb0 (P:=P) (w:=w) (k:=km) (i:=q) (y:=cap) (code:=.slice3Acap) (by omega) (by omega);have b2:=Qb0 (P:=P) (w:=w) (k:=Z) (i:=f) (y:=q.toNat) (code:=.slice3B) (by omega) (by omega);rcases Qd1 K 0 el with⟨rfl,e0⟩|⟨k1,rfl⟩;·simp_all[Instr.sliceBounds]
   have b3:=Qb0 (P:=P) (w:=w) (k:=k1) (i:=lw) (y:=f.toNat) (code:=.slice3C) (by omega) (by omega);simp_all[Instr.sliceBounds]
  cases x<;>simp only[reduceCtorEq]at hm;case sl b g off len s=>
   split at hm
   ·rename_i d;obtain⟨F,h1,R,h3⟩:=d;cases hm;obtain⟨e,i,n,S,z,J,hin⟩:=h (by simp_all);have:=X _ _ _ _ _ rfl;rw[J]at this;cases this;subst hin;simp only[VRel]at p;rcases p with⟨hp,rfl,rfl,rfl⟩|⟨k,base,o,cap,C,H,G,hp,rfl,B,A,y⟩;·omega
    have L:=O len cap F h1 R (by omega);refine⟨.slice (if q.toNat=lw.toNat then some ⟨k,o,none⟩else some (Addr.add ⟨k,o,none⟩ (lw.toNat*i.size))) (f.toNat-lw.toNat) (q.toNat-lw.toNat),?_,?_⟩;·simp_all[Instr.sliceAt,Instr.slice,run_underlying,QaN]
    simp only[VRel];refine .inr ?_;by_cases hc:q.toNat=lw.toNat;·rw[if_pos hc];grind
    rw[if_neg hc,Qb3];have N:cap≠0:=by omega
    obtain⟨rfl,hbd⟩:=y.resolve_left N;refine⟨k,base,_,q.toNat-lw.toNat,C,H,G,hp,rfl,by omega,A,.inr ⟨by omega,?_⟩⟩;have q1:lw.toNat*i.size+(q.toNat-lw.toNat)*i.size=q.toNat*i.size:=by rw[<-ZbP];congr 1;omega
    have q2:q.toNat*i.size<=cap*i.size:=Zbe _ (by omega);omega
   ·cases hm
  case fsl cs len s=>
   split at hm
   ·rename_i d;obtain⟨F,h1,R,h3⟩:=d;cases hm;obtain⟨e,i,n,S,z,J,hin⟩:=h (by simp_all);have:=M _ _ _ rfl;rw[J]at this;cases this;subst hin;simp only[VRel]at p;rcases p with⟨⟨Y,rfl⟩,rfl,rfl⟩|⟨k,off,cap,C,H,G,rfl,B,hlen,U,A,u⟩;·omega
    have L:=O len cap F h1 R (by omega);have a1:lw.toNat*i.size+(f.toNat-lw.toNat)*i.size=f.toNat*i.size:=by rw[<-ZbP];congr 1;omega
    have a2:f.toNat*i.size<=len*i.size:=Zbe _ (by omega);refine⟨.slice (if q.toNat=lw.toNat then some ⟨k,off,none⟩else some (Addr.add ⟨k,off,none⟩ (lw.toNat*i.size))) (f.toNat-lw.toNat) (q.toNat-lw.toNat),?_,?_⟩;·simp_all[Instr.sliceAt,Instr.slice,run_underlying,QaN]
    simp only[VRel];refine .inr ?_;by_cases hc:q.toNat=lw.toNat
    ·rw[if_pos hc];have V:f.toNat-lw.toNat=0:=by omega
     exact⟨k,off,q.toNat-lw.toNat,C,H,G,rfl,by omega,by simp[V],U,A,by simp[V,VPre]⟩
    rw[if_neg hc,Qb3];refine⟨k,_,q.toNat-lw.toNat,C,H,G,rfl,by omega,by simp;omega,U,A,?_⟩;have:=Qco ((f.toNat-lw.toNat)*i.size) (Qbn (lw.toNat*i.size) u);simp_all
   ·cases hm
 |none=>
  have hcm:cm=none:=by grind[ORel]
  subst hcm;simp only at hm;cases x<;>simp only at hm<;>try(cases hm;done)
  case sl b g off len s=>
   obtain⟨e,i,n,S,z,J,hin⟩:=h (by simp_all);have:=X _ _ _ _ _ rfl;rw[J]at this;cases this;subst hin;split at hm;·cases hm
   ·rename_i f E;split at hm
    ·rename_i d;obtain⟨F,h1,R,_⟩:=d;cases hm;simp only[VRel]at p;rcases p with⟨hp,rfl,rfl,rfl⟩|⟨k,base,o,cap,C,H,G,hp,rfl,B,A,y⟩
     ·have L:=Qca (P:=P) (w:=w) (isSlice:=true) (cap:=0) K I el E F h1 (by omega);have e1:lw=0:=by omega
      have e2:f=0:=by omega
      subst e1;subst e2;refine⟨.slice none 0 0,?_,by simp_all[VRel]⟩;simp_all[Instr.sliceAt,Instr.slice,run_underlying,QaN]
     have L:=Qca (P:=P) (w:=w) (isSlice:=true) (cap:=cap) K I el E F h1 (by omega);refine⟨.slice (if cap=lw.toNat then some ⟨k,o,none⟩else some (Addr.add ⟨k,o,none⟩ (lw.toNat*i.size))) (f.toNat-lw.toNat) (cap-lw.toNat),?_,?_⟩;·simp_all[Instr.sliceAt,Instr.slice,run_underlying,QaN]
     simp only[VRel];refine .inr ?_;by_cases hc:cap=lw.toNat;·rw[if_pos hc];grind
     rw[if_neg hc,Qb3];have N:cap≠0:=by omega
     obtain⟨rfl,hbd⟩:=y.resolve_left N;refine⟨k,base,_,cap-lw.toNat,C,H,G,hp,rfl,by omega,A,.inr ⟨by omega,?_⟩⟩;have:cap*i.size=lw.toNat*i.size+(cap-lw.toNat)*i.size:=by rw[<-ZbP];congr 1;omega
     omega
    cases hm
  case fsl cs len s=>
   obtain⟨e,i,n,S,z,J,hin⟩:=h (by simp_all);have:=M _ _ _ rfl;rw[J]at this;cases this;subst hin;split at hm;·cases hm
   ·rename_i f E;split at hm
    ·rename_i d;obtain⟨F,h1,R⟩:=d;cases hm;simp only[VRel]at p;rcases p with⟨⟨Y,rfl⟩,rfl,rfl⟩|⟨k,off,cap,C,H,G,rfl,B,hlen,U,A,u⟩
     ·have L:=Qca (P:=P) (w:=w) (isSlice:=true) (cap:=0) K I el E F h1 (by omega);have e1:lw=0:=by omega
      have e2:f=0:=by omega
      subst e1;subst e2;refine⟨.slice Y 0 0,?_,by simp_all[VRel]⟩;simp_all[Instr.sliceAt,Instr.slice,run_underlying,QaN]
     have L:=Qca (P:=P) (w:=w) (isSlice:=true) (cap:=cap) K I el E F h1 (by omega);have a1:lw.toNat*i.size+(f.toNat-lw.toNat)*i.size=f.toNat*i.size:=by rw[<-ZbP];congr 1;omega
     have a2:f.toNat*i.size<=len*i.size:=Zbe _ (by omega);refine⟨.slice (if cap=lw.toNat then some ⟨k,off,none⟩else some (Addr.add ⟨k,off,none⟩ (lw.toNat*i.size))) (f.toNat-lw.toNat) (cap-lw.toNat),?_,?_⟩;·simp_all[Instr.sliceAt,Instr.slice,run_underlying,QaN]
     simp only[VRel];refine .inr ?_;by_cases hc:cap=lw.toNat
     ·rw[if_pos hc];have V:f.toNat-lw.toNat=0:=by omega
      exact⟨k,off,cap-lw.toNat,C,H,G,rfl,by omega,by simp[V],U,A,by simp[V,VPre]⟩
     rw[if_neg hc,Qb3];refine⟨k,_,cap-lw.toNat,C,H,G,rfl,by omega,by simp;omega,U,A,?_⟩;have:=Qco ((f.toNat-lw.toNat)*i.size) (Qbn (lw.toNat*i.size) u);simp_all
    cases hm
  case nilsl=>
   simp only[VRel]at p;subst p;obtain⟨e,i,n,S,z,J,hin⟩:=h (Q.resolve_left (by simp));split at hm;·cases hm
   ·rename_i f E;split at hm;·rename_i d;obtain⟨rfl,rfl⟩:=d;cases hm;have L:=Qca (P:=P) (w:=w) (isSlice:=true) (len:=0) (cap:=0) K I el E (by omega) (by omega) (by omega);refine⟨.slice none 0 0,?_,by simp[VRel]⟩;simp_all[Instr.sliceAt,Instr.slice,run_underlying,QaN]
    cases hm
  case esl=>
   simp only[VRel]at p;obtain⟨a,rfl⟩:=p;obtain⟨e,i,n,S,z,J,hin⟩:=h (Q.resolve_left (by simp));split at hm;·cases hm
   ·rename_i f E;split at hm;·rename_i d;obtain⟨rfl,rfl⟩:=d;cases hm;have L:=Qca (P:=P) (w:=w) (isSlice:=true) (len:=0) (cap:=0) K I el E (by omega) (by omega) (by omega);refine⟨.slice a 0 0,?_,by simp[VRel]⟩;simp_all[Instr.sliceAt,Instr.slice,run_underlying,QaN]
    cases hm
  case str s=>
   simp only[VRel]at p;subst p;have S:P.underlying t=some .string:=by unfold sliceT at ht;grind
   split at hm;·cases hm
   ·rename_i f E;split at hm
    ·rename_i d;obtain⟨F,h1,R⟩:=d;cases hm;have hsize:(ByteArray.mk s.toArray).size=s.length:=by simp[ByteArray.size]
     have L:=Qca (P:=P) (w:=w) (isSlice:=false) (len:=s.length) (cap:=s.length) K I el E F h1 R;refine⟨.string ((ByteArray.mk s.toArray).extract lw.toNat f.toNat),?_,?_⟩;·simp_all[Instr.sliceAt,Instr.slice,run_underlying]
     simp_all[VRel,ByteArray.extract,ByteArray.copySlice]
    cases hm
def fieldT(P:Program)(s:TypeId)(field off:Nat)(n:Option Nat):Bool:=match P.underlying s with|some (.struct fs)=>(match fs[field]? with|some f=>f.offset==off&&rowT P f.type n|none=>false)|_=>false
theorem Qow{field}{d}(b:VRel c w x d)(a:fieldT P s field off n=true)(hm:aField n off x=some v):Pure P c w (Instr.field s d field) v:=by
 unfold aField at hm;cases x<;>simp only[reduceCtorEq]at hm;rename_i cs;simp only[VRel]at b;obtain⟨k,rfl,b⟩:=b;unfold fieldT at a;split at a
 ·rename_i fs p;split at a;·rename_i f hf;simp only[Zac,beq_iff_eq]at a;obtain⟨rfl,h⟩:=a;have hlen:=QaE b;simp at hlen;cases n with|none=>simp only at hm;obtain⟨i,h1,g⟩:=QcE f.offset b hm;rw[ZaY]at h1;exact⟨i,by simp_all[Instr.field,run_underlying,part,Qc9,asAgg],g⟩|some n=>
   simp only at hm;split at hm;·rename_i o;cases hm;obtain⟨m,l⟩:=Qda h w;refine⟨.agg (k.extract f.offset (f.offset+n)),by simp_all[Instr.field,run_underlying,part,asAgg],?_⟩;simp only[VRel];refine⟨_,rfl,?_⟩;simp_all[QaK,Qa4]
   cases hm
  cases a
 cases a
theorem Qmn{sz}{hi}{ch}(d:VRel c w x q)(N:ORel c w l B)(I:ORel c w hi ch)(K:sliceT P t (some sz)=true)(hm:aSliceK sz x l hi=some v):Pure P c w (Instr.sliceAt t q B ch none) v:=by
 obtain⟨e,i,R,Q,hin⟩:∃e i,P.underlying t=some (.slice e)/\P.info? e=some i/\i.size=sz:=by unfold sliceT at K;grind
 subst hin;have core:∀{b g off len m:Nat}{lw f:Int},VRel c w (.sl b g off len i.size) q->(∀a k,q=.slice a len k->m<=k)->bnd 0 l=some lw->bnd len hi=some f->0<=lw->lw<=f->f<=m->lw<m->Pure P c w (Instr.sliceAt t q B ch none) (.typed 0 (m-lw.toNat+1) (.sl b g (off+lw.toNat*i.size) (f.toNat-lw.toNat) i.size)):=by
  intro b g off len m lw f d F el u n h1 z y;simp only[VRel]at d;rcases d with⟨hp,rfl,rfl,rfl⟩|⟨E,base,o,cap,C,G,L,hp,rfl,J,M,p⟩;·have :=F _ _ rfl;omega
  have H:=F _ _ rfl;have T:=Qca (P:=P) (w:=w) (isSlice:=true) (cap:=cap) N I el u n h1 (by omega);refine⟨.slice (if cap=lw.toNat then some ⟨E,o,none⟩else some (Addr.add ⟨E,o,none⟩ (lw.toNat*i.size))) (f.toNat-lw.toNat) (cap-lw.toNat),?_,?_⟩;·simp_all[Instr.sliceAt,Instr.slice,run_underlying,QaN]
  have hc:cap≠lw.toNat:=by omega
  rw[if_neg hc,Qb3];simp only[VRel];obtain⟨rfl,O⟩:=p.resolve_left (by omega);refine⟨.inr ⟨by omega,_,_,_,rfl,by omega⟩,.inr ⟨E,base,_,cap-lw.toNat,C,G,L,hp,rfl,by omega,M,.inr ⟨by omega,?_⟩⟩⟩;have:cap*i.size=lw.toNat*i.size+(cap-lw.toNat)*i.size:=by rw[<-ZbP];congr 1;omega
  omega
 unfold aSliceK at hm;split at hm
 ·rename_i b g off len s;split at hm
  ·rename_i lw f el u;split at hm
   ·rename_i hc;obtain⟨rfl,n,h1,z,y⟩:=hc;cases hm;refine core d (fun a k e=>?_) el u n h1 z y;subst e;simp only[VRel]at d;rcases d with⟨_,_,_,e⟩|⟨_,_,_,_,_,_,_,_,e,h,_⟩;·cases e;omega
    cases e;exact h
   cases hm
  cases hm
 ·rename_i S m b g off len s;split at hm
  ·rename_i lw f el u;split at hm;·rename_i hc;obtain⟨rfl,n,h1,z,y⟩:=hc;cases hm;simp only[VRel]at d;obtain⟨A,d⟩:=d;refine core (by simpa only[VRel]using d) (fun a k e=>?_) el u n h1 z y;subst e;exact A.room
   cases hm
  cases hm
 cases hm
def faddrT(P:Program)(s:TypeId)(field off:Nat):Bool:=match P.underlying s with|some (.struct fs)=>(match fs[field]? with|some f=>f.offset==off&&(match P.info? f.type with|some i=>i.size !=0|none=>false)|none=>false)|_=>false
theorem Qox{field}{k}(a:VRel c w x k)(b:faddrT P s field off=true)(hm:aFAddr off x=some v):Pure P c w (Instr.fieldAt s k field) v:=by
 unfold faddrT at b;split at b
 ·rename_i fs p;split at b
  ·rename_i f hf;simp only[Zac,beq_iff_eq]at b;obtain⟨rfl,m⟩:=b;split at m
   ·rename_i i hi;have g:∀w,(sizeOf f.type).run P w=.ok i.size w:=QaN hi;have d:i.size≠0:=by simpa using m
    have l:∃y,VRel c w y k/\aFAddr f.offset y=some v/\∀t n z,y≠.typed t n z:=by cases x with|typed t n y=>simp only[VRel]at a;cases y<;>simp only[aFAddr,reduceCtorEq]at hm;exact⟨_,a.2,hm,fun _ _ _=>by simp⟩|_=>exact⟨_,a,hm,fun _ _ _=>by simp⟩
    clear a hm;obtain⟨x,a,hm,u⟩:=l;cases x<;>simp only[aFAddr,reduceCtorEq,Zab]at hm<;>try(subst hm;simp only[VRel]at a)
    rotate_right;·simp_all
    ·obtain⟨q,base,hp,rfl⟩:=a;exact⟨_,by simp[Instr.fieldAt,run_underlying p,hf,Instr.sureAddr,fieldPlace,g,d];rfl,by simp_all[VRel,Qb3,Nat.add_assoc]⟩
    obtain⟨q,o,C,e,A,rfl,B,E,h⟩:=a;refine⟨_,by simp[Instr.fieldAt,run_underlying p,hf,Instr.sureAddr,fieldPlace,g,d];rfl,?_⟩;simp only[VRel,Qb3];refine⟨q,_,C,e,A,rfl,B,E,?_⟩;have:=Qbn f.offset h;simp_all
   cases m
  cases b
 cases b
def iaddrT(P:Program)(t:TypeId)(arr:Option Nat)(sz:Nat):Bool:=match P.underlying t,arr with|some (.array n e),some m=>n==m&&(match P.info? e with|some i=>i.size==sz|none=>false)|some (.slice e),none=>(match P.info? e with|some i=>i.size==sz|none=>false)|_,_=>false
theorem Qoy{arr}{sz}{i}(h:VRel c w x I)(hi:VRel c w i ci)(a:iaddrT P t arr sz=true)(hm:aIAddr arr sz x i=some v):Pure P c w (Instr.indexAt t I ci) v:=by
 unfold aIAddr at hm;cases i<;>simp only[reduceCtorEq]at hm;rename_i k i;simp only[VRel]at hi;subst hi;unfold iaddrT at a;split at a
 ·rename_i n e m u;simp only[Zac,beq_iff_eq]at a;obtain⟨rfl,a⟩:=a;split at a
  ·rename_i p l;have f:=QaN l w;have H:p.size=sz:=by simpa using a
   subst H;cases x<;>simp only[reduceCtorEq]at hm
   ·split at hm;·rename_i hc;cases hm;simp only[VRel]at h;obtain⟨y,base,hp,rfl⟩:=h;refine⟨_,by simp[Instr.indexAt,asIntOf,run_underlying u,Instr.sureAddr,hc,f];rfl,?_⟩;simp_all[VRel,Qb3,Nat.add_assoc]
    cases hm
   split at hm;·rename_i hc;cases hm;simp only[VRel]at h;obtain⟨y,o,C,z,B,rfl,E,A,d⟩:=h;refine⟨_,by simp[Instr.indexAt,asIntOf,run_underlying u,Instr.sureAddr,hc,f];rfl,?_⟩;simp only[VRel,Qb3];refine⟨y,_,C,z,B,rfl,E,A,?_⟩;have:=Qbn (i.toNat*p.size) d;simp_all
   cases hm
  cases a
 ·rename_i e u;split at a
  ·rename_i p l;have f:=QaN l w;have H:p.size=sz:=by simpa using a
   subst H;cases x<;>simp only[reduceCtorEq]at hm
   ·split at hm
    ·rename_i b g off len s hc;obtain⟨F,h1,rfl⟩:=hc;cases hm;simp only[VRel]at h;rcases h with⟨hp,rfl,_⟩|⟨y,base,o,cap,C,z,B,hp,rfl,G,A,q⟩;·omega
     obtain⟨rfl,_⟩:=q.resolve_left (by omega);refine⟨_,by simp[Instr.indexAt,asIntOf,run_underlying u,F,h1,f];rfl,?_⟩;simp_all[VRel,Qb3,Nat.add_assoc]
    cases hm
   split at hm
   ·rename_i cs len s hc;obtain⟨F,h1,rfl⟩:=hc;cases hm;simp only[VRel]at h;rcases h with⟨⟨J,rfl⟩,rfl,rfl⟩|⟨y,off,cap,C,z,B,rfl,G,hlen,E,A,d⟩;·omega
    refine⟨_,by simp[Instr.indexAt,asIntOf,run_underlying u,F,h1,f];rfl,?_⟩;simp only[VRel,Qb3];refine⟨y,_,C,z,B,rfl,E,A,?_⟩;have:=Qbn (i.toNat*p.size) d;simp_all
   cases hm
  cases a
 cases a
def indexT(P:Program)(t:TypeId)(arr:Option (Nat×Nat×Bool)):Bool:=match P.underlying t,arr with|some (.array n e),some (m,sz,row)=>n==m&&rowT P e (if row then some sz else none)&&(match P.info? e with|some i=>i.size==sz|none=>false)|some .string,none=>true|_,_=>false
theorem Qoz{i}(hx:VRel c w x cx)(hi:VRel c w i ci)(ht:indexT P t arr=true)(hm:aIndex arr x i=some v):Pure P c w (Instr.index t cx ci) v:=by
 unfold aIndex at hm;cases i<;>simp only[reduceCtorEq]at hm;rename_i k i;simp only[VRel]at hi;subst hi;unfold indexT at ht;split at ht
 ·rename_i n e m sz row hu;simp only[Zac,beq_iff_eq]at ht;obtain⟨⟨rfl,hr⟩,ht⟩:=ht;split at ht
  ·rename_i ti hti;have hsz:=QaN hti w;have e1:ti.size=sz:=by simpa using ht
   subst e1;cases x<;>simp only[reduceCtorEq]at hm;rename_i cs;simp only[VRel]at hx;obtain⟨vs,rfl,hx⟩:=hx;split at hm;·rename_i hc;cases row with
    |true=>
     simp only[if_true]at hm hr;split at hm;·rename_i hl;cases hm;obtain⟨t1,t2⟩:=Qda hr w;refine⟨.agg (vs.extract (i.toNat*ti.size) (i.toNat*ti.size+ti.size)),by simp_all[Instr.index,asIntOf,run_underlying,part],?_⟩;simp only[VRel];refine⟨_,rfl,?_⟩;simp_all[QaK,Qa4]
     ·cases hm|false=>simp only[Zat,if_false]at hm hr;obtain⟨cv,h1,h2⟩:=QcE _ hx hm;rw[ZaY]at h1;exact⟨cv,by simp_all[Instr.index,asIntOf,run_underlying,part,Qc9],h2⟩
   ·cases hm
  ·cases ht
 ·rename_i hu;cases x<;>simp only[reduceCtorEq]at hm;rename_i s;simp only[VRel]at hx;subst hx;split at hm
  ·rename_i h0;split at hm
   ·rename_i b hb;cases hm;refine⟨.int .u8 b.toNat,?_,by simp[VRel]⟩;have:(ByteArray.mk s.toArray)[i.toNat]?=some b:=by
     have hlt:i.toNat<s.length:=by grind
     rw[getElem?_pos (ByteArray.mk s.toArray) i.toNat (by simp_all[ByteArray.size])];rw[Zak hlt]at hb;cases hb;rfl
    simp_all[Instr.index,asIntOf,run_underlying]
   ·cases hm
  ·cases hm
 ·cases ht
def lenT(P:Program)(t:TypeId)(k:Nat):Bool:=match P.underlying t with|some .string=>k==0|some (.slice _)=>k==1|some (.map _ _)=>k==2|_=>false
def lenKind:AV->Nat|.str _=>0|.sl ..|.fsl ..|.nilsl|.esl|.nsl=>1|.typed _ _ (.sl ..)=>1|.nilmap|.map ..|.fmap ..=>2|_=>3
theorem Qb1:∀{xs:List (AV×AV)}{es:List MapEntry}{clock:Nat},MRel c w xs es clock->xs.length=es.length|[],es,_,a=>by simp_all[MRel]|(k,x)::r,es,clock,a=>by simp only[MRel]at a;obtain⟨e,b,rfl,_,_,_,_,d⟩:=a;simp[Qb1 d]
theorem QqT(H:HRel c h w)(hx:VRel c w x cx)(ht:lenT P t (lenKind x)=true)(hm:(aLen x).run h=some (v,h')):Sound P c w (Builtin.len_ #[t] ty #[cx]) v h':=by
 have t0:lenT P t 0=true->P.underlying t=some .string:=by grind[lenT]
 have t1:lenT P t 1=true->∃e,P.underlying t=some (.slice e):=by unfold lenT;grind
 have t2:lenT P t 2=true->∃k e,P.underlying t=some (.map k e):=by unfold lenT;grind
 cases x<;>simp only[aLen]at hm<;>try(cases hm;done)
 case str s=>
  simp only[HM.run,Zab,Zal]at hm;obtain⟨rfl,rfl⟩:=hm;simp only[VRel]at hx;subst hx;have hu:=t0 ht;have hs:(ByteArray.mk s.toArray).size=s.length:=by simp[ByteArray.size]
  exact .here H (cv:=goInt s.length) (by simp[Builtin.len_,run_underlying hu,hs]) (by simp[VRel,goInt])
 case sl b g off len sz=>
  simp only[HM.run,Zab,Zal]at hm;obtain⟨rfl,rfl⟩:=hm;obtain⟨e,hu⟩:=t1 ht;simp only[VRel]at hx;rcases hx with⟨hp,rfl,rfl,rfl⟩|⟨cb,base,o,cap,C,e',fr,hp,rfl,hlc,hC,hcap⟩;·exact .here H (cv:=goInt 0) (by simp[Builtin.len_,run_underlying hu]) (by simp[VRel,goInt])
  ·exact bl1dC
 case typed tt nn y=>
  cases y<;>simp only[aLen]at hm<;>try(cases hm;done)
  rename_i b g off len sz;simp only[HM.run,Zab,Zal]at hm;obtain⟨rfl,rfl⟩:=hm;obtain⟨e,hu⟩:=t1 ht;simp only[VRel]at hx;rcases hx.2 with⟨hp,rfl,rfl,rfl⟩|⟨cb,base,o,cap,C,e',fr,hp,rfl,hlc,hC,hcap⟩;·exact .here H (cv:=goInt 0) (by simp[Builtin.len_,run_underlying hu]) (by simp[VRel,goInt])
  ·exact bl1dC
 case fsl cs len sz=>
  simp only[HM.run,Zab,Zal]at hm;obtain⟨rfl,rfl⟩:=hm;obtain⟨e,hu⟩:=t1 ht;simp only[VRel]at hx;rcases hx with⟨⟨a0,rfl⟩,rfl,rfl⟩|⟨cb,off,cap,C,e',fr,rfl,hlc,hlen,hF,hC,hpre⟩;·exact .here H (cv:=goInt 0) (by simp[Builtin.len_,run_underlying hu]) (by simp[VRel,goInt])
  ·exact bl1dC
 case nilsl=>simp only[HM.run,Zab,Zal]at hm;obtain⟨rfl,rfl⟩:=hm;obtain⟨e,hu⟩:=t1 ht;simp only[VRel]at hx;subst hx;exact .here H (cv:=goInt 0) (by simp[Builtin.len_,run_underlying hu]) (by simp[VRel,goInt])
 case esl=>simp only[HM.run,Zab,Zal]at hm;obtain⟨rfl,rfl⟩:=hm;obtain⟨e,hu⟩:=t1 ht;simp only[VRel]at hx;obtain⟨a,rfl⟩:=hx;exact .here H (cv:=goInt 0) (by simp[Builtin.len_,run_underlying hu]) (by simp[VRel,goInt])
 case nsl=>simp only[HM.run,Zab,Zal]at hm;obtain⟨rfl,rfl⟩:=hm;obtain⟨e,hu⟩:=t1 ht;simp only[VRel]at hx;obtain⟨a,k,rfl⟩:=hx;exact .here H (cv:=goInt 0) (by simp[Builtin.len_,run_underlying hu]) (by simp[VRel,goInt])
 case nilmap=>simp only[HM.run,Zab,Zal]at hm;obtain⟨rfl,rfl⟩:=hm;obtain⟨k,e,hu⟩:=t2 ht;simp only[VRel]at hx;subst hx;exact .here H (cv:=goInt 0) (by simp[Builtin.len_,run_underlying hu]) (by simp[VRel,goInt])
 case fmap ks vs=>
  simp only[HM.run,Zab,Zal]at hm;obtain⟨rfl,rfl⟩:=hm;obtain⟨k,e',hu⟩:=t2 ht;simp only[VRel]at hx;obtain⟨mb,es,clock,rfl,hF,hC,hcl,hst,h6,h7⟩:=hx;have hl:ks.length=es.size:=by have:=QaE h6;simp_all
  have hg:(getObj mb).run P w=.ok (.map es clock) w:=by simp[getObj,Sem.run,hC]
  exact .here H (cv:=goInt es.size) (by simp[Builtin.len_,run_underlying hu,hg]) (by simp[VRel,goInt];omega)
 case map b g=>
  simp only[HM.run]at hm;split at hm;·rename_i g' es hb;cases e:Nat.beq g' g with|false=>rw[e]at hm;simp[HM.run]at hm|true=>
   rw[e]at hm;have:g'=g:=by simpa using e
   subst this;simp only[cond_true,HM.run,Zab,Zal]at hm;obtain⟨rfl,rfl⟩:=hm;obtain⟨k,e',hu⟩:=t2 ht;simp only[VRel]at hx;obtain⟨cb,hp,rfl⟩:=hx;obtain⟨cb',es',clock,h1,hO,hC,hR,_⟩:=H.blk b _ hb;rw[hp]at h1;cases h1;have hl:=Qb1 hR;have hg:(getObj cb).run P w=.ok (.map es' clock) w:=by simp[getObj,Sem.run,hC]
   exact .here H (cv:=goInt es'.size) (by simp[Builtin.len_,run_underlying hu,hg]) (by simp_all[VRel,goInt])
  grind[HM.run]
theorem Qmc{i}(a:VRel c w x b)(hm:aExtract i x=some v):Pure P c w (Instr.extract b i) v:=by unfold aExtract at hm;cases x<;>simp only[reduceCtorEq]at hm;simp only[VRel]at a;obtain⟨g,rfl,a⟩:=a;obtain⟨f,h1,d⟩:=QcE i a hm;rw[ZaY]at h1;exact⟨f,by simp[Instr.extract,h1],d⟩
def aConv(k:IntKind)(x:AV):Option AV:=match x with|.int _ n=>some (.int k (wr k n))|_=>none
def convT(P:Program)(src dst:TypeId)(k:IntKind):Bool:=match P.underlying src,P.underlying dst with|some _,some (.int a)=>k==a|_,_=>false
theorem Qqd{dst}(f:VRel c w x b)(a:convT P src dst k=true)(hm:aConv k x=some v):Pure P c w (convert src dst b) v:=by
 unfold aConv at hm;cases x<;>simp only[reduceCtorEq,Zab]at hm;subst hm;simp only[VRel]at f;subst f;unfold convT at a;split at a
 ·rename_i d h i g;have:k=h:=by simpa using a
  subst this;exact⟨_,by simp[convert,run_underlying i,run_underlying g,Conv.intToInt];rfl,by simp[VRel,wr_eq]⟩
 cases a
def aConvS(x:AV):Option AV:=match x with|.str s=>some (.str s)|.int _ n=>if 0<=n/\n<128 then some (.str [UInt8.ofNat n.toNat])else none|_=>none
def convST(P:Program)(src dst:TypeId):Bool:=match P.underlying src,P.underlying dst with|some _,some .string=>true|_,_=>false
theorem QoA{dst}{h}(b:VRel c w x h)(a:convST P src dst=true)(hm:aConvS x=some v):Pure P c w (convert src dst h) v:=by
 unfold aConvS at hm;cases x<;>simp only[reduceCtorEq,Zab]at hm
 ·rename_i k n;split at hm
  ·rename_i i;cases hm;simp only[VRel]at b;subst b;unfold convST at a;split at a
   ·rename_i d g f;have he:Utf8.encode n=⟨#[UInt8.ofNat n.toNat]⟩:=by grind[Utf8.valid,Utf8.encode]
    exact⟨_,by simp[convert,run_underlying g,run_underlying f,Conv.intToString,he];rfl,by simp[VRel]⟩
   cases a
  cases hm
 subst hm;simp only[VRel]at b;subst b;unfold convST at a;split at a;·rename_i d g f;exact⟨_,by simp[convert,run_underlying g,run_underlying f];rfl,by simp[VRel]⟩
 cases a
def aMax(mn:Bool)(xs:List AV):Option AV:=match xs with|[.int k a,.int _ b]=>some (.int k (if mn then(if b<a then b else a)else(if a<b then b else a)))|_=>none
theorem QkO{mn}(g:VRels c w xs d.toList)(hm:aMax mn xs=some v):Pure P c w (if mn then Builtin.min_ ats ty d else Builtin.max_ ats ty d) v:=by
 unfold aMax at hm;split at hm
 ·rename_i k a h b;cases hm;simp only[VRels,VRel]at g;obtain⟨_,_,f,rfl,_,_,rfl,rfl,rfl⟩:=g;refine⟨_,?_,by simp only[VRel];exact rfl⟩;cases mn;·simp[Builtin.max_,f,Builtin.max2]
  simp[Builtin.min_,f,Builtin.min2]
 cases hm
def aCopy(sz:Nat)(x y:AV):HM AV:=match x with|.sl b g off len s=>if s=sz then aSrc sz y fun a n=>.cells b g fun cs=>if off+min n len*sz<=cs.length/\a.all AV.one=true/\sz≠0 then .put b (.cells g (putR cs off (a.take (min n len*sz)))) (.ret (.int .i64 ((min n len:Nat):Int)))else .fail else .fail|.nilsl=>aSrc sz y fun _ _=>.ret (.int .i64 0)|.esl=>aSrc sz y fun _ _=>.ret (.int .i64 0)|_=>.fail
theorem Quq(i:VRels c w ys us)(f:ys.all AV.one=true):∀u∈us,u.oneCell'=true:=by
 intro u m;obtain⟨j,l,rfl⟩:=Zcd.1 m;have k:=QaE i;obtain⟨p,d,b⟩:=QcE j i (Zak (by omega:j<ys.length));rw[Zak l]at d;cases d;have h1:(ys[j]).one=true:=by simp_all
 have o:=Qdk (x:=ys[j]) b (by cases h:ys[j]<;>simp_all[AV.one,AV.cells]);have:(us[j]).cells=#[us[j]]\/∃a,us[j]=.agg a:=by cases us[j]<;>simp[Value.cells]
 rcases this with g|⟨a,g⟩;·simp_all
 rw[g]at b;exfalso;cases h:ys[j]<;>rw[h]at b h1<;>simp[AV.one]at h1<;>simp[VRel]at b;rcases b.1 with⟨_,_,_,n,_⟩|⟨_,_,_,_,n,_⟩<;>simp_all
theorem Qqe{t2 e:TypeId}{sz:Nat}{y:AV}{cy:Value}(H:HRel c h w)(hx:VRel c w x cx)(hy:VRel c w y cy)(hu:P.underlying t=some (.slice e))(hi:P.info? e=some ti)(hsz:ti.size=sz)(hm:(aCopy sz x y).run h=some (v,h')):Sound P c w (Builtin.copy_ #[t,t2] ty #[cx,cy]) v h':=by
 subst hsz;have hs:=QaN (P:=P) hi;have nilcase:∀(a:Option Addr)(hm:(aSrc ti.size y fun _ _=>.ret (.int .i64 0)).run h=some (v,h')),Sound P c w (Builtin.copy_ #[t,t2] ty #[.slice a 0 0,cy]) v h':=by intro a hm;replace hm:=Qdb (P:=P) H hy hm;obtain⟨ys,n,us,S,hm⟩:=hm;simp only[HM.run,Zab,Zal]at hm;obtain⟨rfl,rfl⟩:=hm;have hf:=S.firstm w 0 (Zaj _) rfl;simp at hf;refine .here H (cv:=goInt 0) ?_ (by simp[VRel,goInt]);cases a<;>simp[Builtin.copy_,run_underlying hu,S.lenOf,hs,hf,storeCells]
 cases x<;>simp only[aCopy]at hm<;>try(cases hm;done)
 case nilsl=>simp_all[VRel]
 case esl=>simp only[VRel]at hx;grind
 case sl b g off len s=>
  split at hm
  ·rename_i e1;subst e1;replace hm:=Qdb (P:=P) H hy hm;obtain⟨ys,n,us,S,hm⟩:=hm;obtain⟨cs,hb,hm⟩:=Qbm hm;split at hm
   ·rename_i hcond;obtain⟨hl,hone,hne⟩:=hcond;obtain⟨hlim,hm⟩:=Qa5 hm;simp only[HM.run,Zab,Zal]at hm;obtain⟨rfl,rfl⟩:=hm;have hul:=QaE S.rels;have hyl:=S.len;have hmin:min n len*ti.size<=n*ti.size:=Zbe _ (Nat.min_le_left _ _);have hf:=S.firstm w (min n len) (Nat.min_le_left _ _) rfl;have hvr:VRels c w (ys.take (min n len*ti.size)) (us.take (min n len*ti.size)):=by have:=QaK (Qa4 S.rels) 0 (min n len*ti.size) (by omega);simp_all
    simp only[VRel]at hx;rcases hx with⟨hp,rfl,rfl,rfl⟩|⟨cb,base,o,cap,C,e',fr,hp,rfl,hlc,hC,hcap⟩
    ·have hcs:cs=[]:=by
      rcases H.blk b _ hb with⟨_,h2⟩|⟨_,_,_,_,_,h1,_⟩;·exact h2
      simp_all
     subst hcs;obtain⟨E,H'⟩:=H.putNil (b:=b) (g:=g) hlim (fun y hy=>H.later b _ hb y hy) (.inr hp);have e0:putR [] 0 (List.take (min n 0*ti.size) ys)=[]:=by simp[putR]
     rw[e0];refine⟨goInt 0,_,w,?_,E,H',by simp[VRel,goInt]⟩;simp at hf;simp[Builtin.copy_,run_underlying hu,S.lenOf,hs,hf]
    ·by_cases h0:min n len=0
     ·have e0:putR cs off (List.take (min n len*ti.size) ys)=cs:=by simp[putR,h0]
      rw[e0];have hst:=QdE (P:=P) H hb hlim hp (vs:=[]) (us:=[]) (off:=0) (by simp) (by simp[VRels]) (by simp);obtain⟨c',w',hr,E,H'⟩:=hst;have e1:putR cs 0 []=cs:=by simp[putR]
      rw[e1]at H';simp only[storeCells,Sem.run_pure]at hr;cases hr;refine⟨goInt 0,c',w,?_,E,H',by simp[VRel,goInt,h0]⟩;simp only[h0,Zcf,Zb5]at hf;simp[Builtin.copy_,run_underlying hu,S.lenOf,hs];rw[show n.min len=0 from h0,hf];simp[storeCells]
     ·obtain⟨rfl,hbd⟩:=hcap.resolve_left (by omega);obtain⟨c',w',hr,E,H'⟩:=QdE (P:=P) H hb hlim hp (vs:=ys.take (min n len*ti.size)) (us:=us.take (min n len*ti.size)) (off:=off) (by simp;omega) hvr (fun u hu=>Quq S.rels hone u (ZaX hu));refine⟨goInt (min n len:Nat),c',w',?_,E,H',by simp[VRel,goInt]⟩;simp[Builtin.copy_,run_underlying hu,S.lenOf,hs];simp_all
   grind[HM.run]
  grind[HM.run]
end Go.AM
namespace Go.AM
variable{P:Program}{ok:Okc}{c:Ctx ok}{w:World}{h:Heap}
variable{k v x:AV}{ms ms':Array MapEntry}{b:Bool}{h':Heap}{es:List (AV×AV)}{ks:List LK}{cb clock clock' g i:Nat}{reserve:Option Value}{s:Site}{α:Type}{d:TypeDesc}{m t:TypeId}{ti:TypeInfo}{a cv f l n u:Value}
def keyEq(row:Bool)(ks:List LK)(k a:AV):Option Bool:=match row with
 |true=>match k,a with|.agg xs,.agg b=>ZE ks xs b|_,_=>none
 |false=>ZE ks [k] [a]
def aFind(row:Bool)(ks:List LK)(k:AV):List (AV×AV)->Nat->Option (Option (Nat×AV))|[],_=>some none|(a,v)::r,i=>match keyEq row ks k a with|some true=>some (some (i,v))|some false=>aFind row ks k r (i+1)|none=>none
def HM.entries{α}(b g:Nat)(k:List (AV×AV)->HM α):HM α:=.look b fun x=>match x with|some (.map a es)=>bif Nat.beq a g then k es else .fail|_=>.fail
def keyOK(row:Bool)(ks:List LK)(k:AV):Bool:=match keyEq row ks k k with|some _=>true|none=>false
def aLookup(row:Bool)(ks:List LK)(zero:AV)(ok:Bool)(x k:AV):HM AV:=if keyOK row ks k then match x with
 |.nilmap=>.ret (if ok then .tup [zero,.bool false]else zero)|.map b g=>.entries b g fun es=>match aFind row ks k es 0 with|some (some (_,v))=>.ret (if ok then .tup [v,.bool true]else v)|some none=>.ret (if ok then .tup [zero,.bool false]else zero)|none=>.fail
 |.fmap a c=>match aFind row ks k (a.zip c) 0 with|some (some (_,v))=>.ret (if ok then .tup [v,.bool true]else v)|some none=>.ret (if ok then .tup [zero,.bool false]else zero)|none=>.fail
 |_=>.fail else .fail
def aMapUpd(row:Bool)(ks:List LK)(x k v:AV):HM AV:=if keyOK row ks k then match x with
 |.map b g=>.entries b g fun es=>match aFind row ks k es 0 with|some (some (i,_))=>.put b (.map g (es.set i (k,v))) (.ret .any)|some none=>.put b (.map g (es++[(k,v)])) (.ret .any)|none=>.fail
 |_=>.fail else .fail
def aMakeMap(s:Site)(i:Nat):HM AV:=.new s i (fun g=>.map g []) fun b g=>.ret (.map b g)
theorem Qgo{row}{f}{g d}(h:keyEq row ks k f=some b)(i:VRel c w k g)(a:VRel c w f d):∃xs ys us vs,g=asVal row us/\d=asVal row vs/\VRels c w xs us/\VRels c w ys vs/\ZE ks xs ys=some b:=by cases row with|true=>cases k<;>cases f<;>simp only[keyEq,reduceCtorEq]at h;simp only[VRel]at i a;obtain⟨us,rfl,h1⟩:=i;obtain⟨vs,rfl,l⟩:=a;exact⟨_,_,us.toList,vs.toList,by simp[asVal],by simp[asVal],h1,l,h⟩|false=>exact⟨[k],[f],[g],[d],by simp[asVal],by simp[asVal],by simp[VRels,i],by simp[VRels,a],h⟩
theorem Qmo{xs ys}(d:ZE ks xs ys=some b):(∃c,ZE ks xs xs=some c)/\∃c,ZE ks ys ys=some c:=by induction ks generalizing xs ys b with|nil=>cases xs<;>cases ys<;>simp[ZE]at d⊢|cons k ks h=>
 cases xs<;>cases ys<;>simp only[ZE,reduceCtorEq]at d⊢;rename_i x xs y ys;split at d
 ·rename_i a c h1 g;obtain⟨⟨m,i⟩,⟨b2,l⟩⟩:=h g;rw[i,l];have:(∃f,eqCell k x x=some f)/\∃f,eqCell k y y=some f:=by cases k<;>cases x<;>cases y<;>simp[eqCell]at h1⊢
  grind
 cases d
theorem Qgp:∀{ks:List LK}{xs ys:List AV}{us vs:List Value},ZE ks xs ys=some true->VRels c w xs us->VRels c w ys vs->us=vs/\∀u∈us,(∃k n,u=.int k n)\/(∃b,u=.bool b)\/∃s,u=.string s
 |[],xs,ys,us,vs,d,f,g=>by cases xs<;>cases ys<;>simp[ZE]at d;simp only[VRels]at f g;simp_all|k::ks,xs,ys,us,vs,d,f,g=>by
  cases xs<;>cases ys<;>simp only[ZE,reduceCtorEq]at d;rename_i x xs y ys;split at d
  ·rename_i a b h1 z;have h:a=true/\b=true:=by simp_all
   obtain⟨rfl,rfl⟩:=h;simp only[VRels]at f g;obtain⟨u,t,rfl,o,l⟩:=f;obtain⟨v,q,rfl,m,i⟩:=g;obtain⟨rfl,p⟩:=Qgp z l i;have:u=v/\((∃k n,u=.int k n)\/(∃b,u=.bool b)\/∃s,u=.string s):=by
    cases k<;>cases x<;>cases y<;>simp only[eqCell,reduceCtorEq,Zab]at h1<;>simp only[VRel]at o m<;>subst o<;>subst m;·simp_all
    ·simp_all
    simp_all
   grind
  cases d
def CkRun(P:Program)(c:Ctx ok)(w:World)(d:Nat):Prop:=∀(t:TypeId)(ks:List LK),flatK P d t=some ks->∀(xs:List AV)(us:List Value)(b:Bool),VRels c w xs us->ZE ks xs xs=some b->∀e D,d<=D->(Instr.checkKey e D t (asVal (rowB P t) us)).run P w=.ok () w
def ckFields(D:Nat)(e:Bool)(us:Array Value):List Field->Sem Unit|[]=>pure ()|f::fs=>if f.name≠ "_"then do let a<-part f.type us f.offset;Instr.checkKey e D f.type a;ckFields D e us fs else ckFields D e us fs
def ckElems(D:Nat)(e:Bool)(t:TypeId)(n:Nat)(us:Array Value):List Nat->Sem Unit|[]=>pure ()|i::is=>do let a<-part t us (i*n)Instr.checkKey e D t a;ckElems D e t n us is
theorem Qmd(D)(e)(t)(us)(fs)(w)(g:P.underlying t=some (.struct fs)):(Instr.checkKey e (D+1) t (.agg us)).run P w=(ckFields D e us fs.toList).run P w:=by simp only[Instr.checkKey,Sem.run_bind,run_underlying g,Result.andThen_ok];rw[<-Array.forIn_toList];generalize fs.toList=l;clear g;induction l generalizing w with|nil=>simp[ckFields]|cons f l i=>
 simp only[List.forIn_cons,ckFields,Sem.run_bind,Sem.run_ite];split;·generalize(part f.type us f.offset).run P w=h;cases h with
  |ok a d=>simp only[Result.andThen_ok];generalize(Instr.checkKey e D f.type a).run P d=k;cases k with|ok b c=>simp only[Result.andThen_ok,Sem.run_pure];exact i c|halt x c=>simp[Result.andThen]
  |halt x d=>simp[Result.andThen]
 simp_all
theorem Qmp(D)(e)(t el)(len n)(us)(w)(h:P.underlying t=some (.array len el))(c:∀w,(sizeOf el).run P w=.ok n w):(Instr.checkKey e (D+1) t (.agg us)).run P w=(ckElems D e el n us (List.range' 0 len)).run P w:=by simp only[Instr.checkKey,Sem.run_bind,run_underlying h,Result.andThen_ok,c,Std.Legacy.Range.forIn_eq_forIn_range',Std.Legacy.Range.size,Nat.sub_zero,ZbU,Nat.div_one];generalize List.range' 0 len=l;induction l generalizing w with|nil=>simp[ckElems]|cons i l k=>simp only[List.forIn_cons,ckElems,Sem.run_bind,c,Result.andThen_ok];generalize(part el us (i*n)).run P w=m;cases m with
 |ok a f=>simp only[Result.andThen_ok];generalize(Instr.checkKey e D el a).run P f=g;cases g with|ok b d=>simp only[Result.andThen_ok,Sem.run_pure];exact k d|halt x d=>simp[Result.andThen]
 |halt x f=>simp[Result.andThen]
theorem Qgq{d}(s:CkRun P c w d):∀(fs:List Field)(off:Nat)(ks:List LK),flatF P (flatK P d) fs off=some ks->∀(xs:List AV)(us:Array Value)(b:Bool),VRels c w xs (us.toList.drop off)->ZE ks xs xs=some b->off+ks.length<=us.size->∀e D,d<=D->(ckFields D e us fs).run P w=.ok () w
 |[],off,ks,a,xs,us,b,m,t,_,e,D,n=>by simp[ckFields]|f::fs,off,ks,a,xs,us,b,m,t,F,e,D,n=>by
  simp only[flatF]at a;split at a;·cases a
  rename_i z;have B:f.name≠ "_":=fun e=>z (.inl e);have C:f.offset=off:=by omega
  split at a
  ·rename_i g h;split at a
   ·rename_i hc;split at a
    ·rename_i r y;cases a;simp only[Zag]at F;obtain⟨v,b2,E,A,rfl⟩:=Qcy t;obtain⟨u,k⟩:=Qcg h;obtain⟨i,hi⟩:=Qbx k;have o:i.size=g.length:=by simp_all[Program.cellsOf]
     have p:=QaE m;simp at p;have x:=QdH (P:=P) (cs:=us) (off:=off) w k hi o (Qcp h) (by omega);have l:=QaK (Qa4 m) 0 g.length (by omega);simp only[Za5]at l;have h1:=s f.type g h _ _ v l E e D n;have q:VRels c w (xs.drop g.length) (us.toList.drop (off+g.length)):=by have:=QaK (Qa4 m) g.length (xs.length-g.length) (by omega);grind[ZaM,Za1]
     have G:=Qgq s fs (off+g.length) r y _ us b2 q A (by omega) e D n;simp_all[ckFields]
    cases a
   cases a
  cases a
theorem QhC{d}(q:CkRun P c w d){el}(h:flatK P d el=some ks)(hc:P.cellsOf el=ks.length):∀(m s:Nat)(xs:List AV)(us:Array Value)(b:Bool),VRels c w xs (us.toList.drop (s*ks.length))->ZE (List.replicate m ks).flatten xs xs=some b->(s+m)*ks.length<=us.size->∀e D,d<=D->(ckElems D e el ks.length us (List.range' s m)).run P w=.ok () w
 |0,s,xs,us,b,g,n,_,e,D,k=>by simp[ckElems]|m+1,s,xs,us,b,g,n,B,e,D,k=>by
  rw[Za7,Zbw]at n;obtain⟨t,b2,v,x,rfl⟩:=Qcy n;obtain⟨u,f⟩:=Qcg h;obtain⟨i,hi⟩:=Qbx f;have o:i.size=ks.length:=by simp_all[Program.cellsOf]
  have p:=QaE g;simp at p;have z:(s+(m+1))*ks.length=s*ks.length+ks.length+m*ks.length:=by grind
  have A:(s+1)*ks.length=s*ks.length+ks.length:=Zbn _ _;have y:=QdH (P:=P) (cs:=us) (off:=s*ks.length) w f hi o (Qcp h) (by omega);have a:=QaK (Qa4 g) 0 ks.length (by omega);simp only[Za5]at a;have h1:=q el ks h _ _ t a v e D k;have l:VRels c w (xs.drop ks.length) (us.toList.drop ((s+1)*ks.length)):=by have:=QaK (Qa4 g) ks.length (xs.length-ks.length) (by omega);grind[ZaM,Za1]
  have C:=QhC q h hc m (s+1) _ us b2 l x (by grind) e D k;simp_all[Zcg,ckElems]
theorem ckRun:∀d,CkRun P c w d
 |0=>fun t ks a=>by simp[flatK]at a|d+1=>by
  intro t ks a xs us b l m e D x;obtain⟨D',rfl⟩:∃D',D=D'+1:=⟨D-1,by omega⟩;have v:=QaE l;obtain⟨p,_⟩:=QcR m;unfold flatK at a;split at a;·simp_all[Instr.checkKey,run_underlying]
  ·simp_all[Instr.checkKey,run_underlying]
  ·simp_all[Instr.checkKey,run_underlying]
  ·rename_i fs h;split at a;·cases a
   have o:rowB P t=true:=by simp[rowB,h]
   simp only[o,asVal,if_true];rw[Qmd D' e t _ fs w h];exact Qgq (ckRun d) fs.toList 0 ks a xs us.toArray b (by simpa using l) m (by simp;omega) e D' (by omega)
  ·rename_i n el h;split at a
   ·rename_i f g;split at a
    ·rename_i hc;cases a;have o:rowB P t=true:=by simp[rowB,h]
     obtain⟨u,k⟩:=Qcg g;obtain⟨i,hi⟩:=Qbx k;have s:i.size=f.length:=by simp_all[Program.cellsOf]
     simp only[o,asVal,if_true];rw[Qmp D' e t el n f.length _ w h (fun w=>by simp_all[QaN])];have q:(List.replicate n f).flatten.length=n*f.length:=by simp
     exact QhC (ckRun d) g hc n 0 xs us.toArray b (by simpa using l) m (by simp;omega) e D' (by omega)
    cases a
   cases a
  cases a
def FoundRel(c:Ctx ok)(w:World):Option (Nat×AV)->Option (Nat×Value)->Prop|none,none=>True|some (a,x),some (b,d)=>a=b/\VRel c w x d|_,_=>False
theorem QkP{d}{row}(i:flatK P 40 d=some ks)(m:rowB P d=row){g}(he:keyEq row ks k g=some b)(h1:VRel c w k f)(n:VRel c w g a):(Op.equal d f a).run P w=.ok b w:=by obtain⟨xs,q,us,p,rfl,rfl,h,l,o⟩:=Qgo he h1 n;have:=eqRun (P:=P) (c:=c) (w:=w) 40 d ks i _ _ _ _ b h l o 10000 (by omega);rw[m]at this;exact this
theorem Qfm{row}(h:flatK P 40 m=some ks)(g:rowB P m=row)(a:VRel c w k n):∀(es:List (AV×AV))(ms:List MapEntry)(clock i:Nat)(r:Option (Nat×AV)),MRel c w es ms clock->aFind row ks k es i=some r->∃b,(Instr.findAsking m n ms i).run P w=.ok b w/\FoundRel c w r b
 |[],ms,clock,i,r,hm,hf=>by simp only[MRel]at hm;subst hm;simp only[aFind,Zab]at hf;subst hf;exact⟨none,by simp[Instr.findAsking],trivial⟩|(q,x)::es,ms,clock,i,r,hm,hf=>by
  simp only[MRel]at hm;obtain⟨e,d,rfl,h1,o,s,t,p⟩:=hm;simp only[aFind]at hf;split at hf;·rename_i f;cases hf;exact⟨some (i,e.val),by simp[Instr.findAsking,QkP h g f a h1],rfl,o⟩
  ·rename_i f;obtain⟨b,l,hrel⟩:=Qfm h g a es d clock (i+1) r p hf;exact⟨b,by simp[Instr.findAsking,QkP h g f a h1,l],hrel⟩
  cases hf
theorem QiX{y:AV}{v:Value}{k:LK}(h:(match k with|.b=>d=.bool|.i=>∃a,d=.int a|.s=>d=.string))(he:eqCell k x y=some b)(g:VRel c w x u)(f:VRel c w y v):Instr.sameNow d u v=some b:=by
 cases k<;>cases x<;>cases y<;>simp only[eqCell,reduceCtorEq,Zab]at he<;>simp only[VRel]at g f<;>subst g<;>subst f<;>simp only at h;·simp_all[Instr.sameNow,QdG]
 ·obtain⟨a,rfl⟩:=h;simp_all[Instr.sameNow,QdG]
 simp_all[Instr.sameNow,beq_toListBytes,QdG]
theorem QhD{lk:LK}(p:(match lk with|.b=>d=.bool|.i=>∃m,d=.int m|.s=>d=.string)){h:Value}(a:VRel c w k h):∀(es:List (AV×AV))(ms:List MapEntry)(clock i:Nat)(r:Option (Nat×AV)),MRel c w es ms clock->aFind false [lk] k es i=some r->∃g,Instr.findNow d h ms i=some g/\FoundRel c w r g
 |[],ms,clock,i,r,hm,hf=>by simp only[MRel]at hm;subst hm;simp only[aFind,Zab]at hf;subst hf;exact⟨none,by simp[Instr.findNow],trivial⟩|(l,x)::es,ms,clock,i,r,hm,hf=>by
  simp only[MRel]at hm;obtain⟨e,f,rfl,h1,s,u,t,o⟩:=hm;simp only[aFind,keyEq]at hf;have one:∀b,ZE [lk] [k] [l]=some b->eqCell lk k l=some b:=by grind[ZE]
  split at hf;·rename_i q;cases hf;exact⟨some (i,e.val),by grind[Instr.findNow,QiX],rfl,s⟩
  ·rename_i q;obtain⟨g,n,hrel⟩:=QhD p a es f clock (i+1) r o hf;grind[Instr.findNow,QiX]
  cases hf
structure MapT(P:Program)(t:TypeId)(row:Bool)(ks:List LK)(kt et:TypeId):Prop where
 hu:P.underlying t=some (.map kt et)hk:flatK P 40 kt=some ks
 hr:rowB P kt=row
theorem QbP{i v}{row}(T:MapT P t row ks i v){d}(b:VRel c w k d){ms}{r}(hm:MRel c w es ms clock)(hf:aFind row ks k es 0=some r):∃l,(Instr.findKey i d ms).run P w=.ok l w/\FoundRel c w r l:=by
 obtain⟨u,n⟩:=Qcg T.hk;have h:(Instr.findKey i d ms).run P w=(match Instr.findNow u d ms 0 with|some r=>.ok r w|none=>(Instr.findAsking i d ms).run P w):=by simp only[Instr.findKey,Sem.run_bind,run_underlying n,Result.andThen_ok];cases Instr.findNow u d ms 0<;>rfl
 rw[h];cases row with|true=>
  have g:Instr.findNow u d ms 0=none\/(ms=[]/\Instr.findNow u d ms 0=some none):=by cases ms with|nil=>exact .inr ⟨rfl,rfl⟩|cons e ms=>left;have f:=T.hr;unfold rowB at f;rw[n]at f;cases u<;>simp at f<;>simp[Instr.findNow,Instr.sameNow]
  rcases g with g|⟨rfl,g⟩;·rw[g];exact Qfm T.hk T.hr b es ms clock 0 r hm hf
  rw[g];have:es=[]:=by cases es with|nil=>rfl|cons a es=>obtain⟨y,x⟩:=a;simp[MRel]at hm
  subst this;simp only[aFind,Zab]at hf;subst hf;exact⟨none,rfl,trivial⟩|false=>
  have m:∃lk,ks=[lk]/\(match lk with|.b=>u=.bool|.i=>∃o,u=.int o|.s=>u=.string):=by have s:=T.hk;have f:=T.hr;unfold rowB at f;rw[n]at f;unfold flatK at s;grind
  obtain⟨lk,rfl,p⟩:=m;obtain⟨l,h1,q⟩:=QhD p b es ms clock 0 r hm hf;rw[h1];exact⟨l,rfl,q⟩
theorem QeB{f l}{row}(T:MapT P t row ks f l){h}(a:VRel c w k h)(d:keyOK row ks k=true)(e):(Instr.checkKey e 10000 f h).run P w=.ok () w:=by
 unfold keyOK at d;split at d;·rename_i b o;obtain⟨xs,u,us,p,h1,q,n,s,i⟩:=Qgo o a a;obtain⟨⟨m,g⟩,_⟩:=Qmo i;have:=ckRun (P:=P) (c:=c) (w:=w) 40 f ks T.hk xs us m n g e 10000 (by omega);rw[T.hr,<-h1]at this;exact this
 cases d
theorem Qcz{b}{k}{r:α×Heap}(hm:(HM.entries b g k).run h=some r):∃es,h.get b=some (.map g es)/\(k es).run h=some r:=by
 simp only[HM.entries,HM.run]at hm;split at hm;·rename_i a es c;cases e:Nat.beq a g with|false=>rw[e]at hm;simp[HM.run]at hm|true=>
  rw[e]at hm;have:a=g:=by simpa using e
  subst this;exact⟨es,c,hm⟩
 grind[HM.run]
theorem HRel.atMap(H:HRel c h w){b}(d:h.get b=some (.map g es)){base}(hp:c.ρ b g=some (.loc cb base)):∃ms clock,c.O cb/\w.heap[cb]?=some (.map ms clock)/\MRel c w es ms.toList clock/\clock=es.length:=by obtain⟨f,a,clock,h1,l,k,i⟩:=H.blk b _ d;rw[hp]at h1;cases h1;exact⟨a,clock,l,k,i⟩
theorem QbY(a:w.heap[cb]?=some (.map ms clock)):(getObj cb).run P w=.ok (.map ms clock) w:=by simp[getObj,Sem.run,a]
theorem QoS:∀{ks vs:List AV}{es:List MapEntry}{clock:Nat},MStamp es clock->VRels c w ks (es.map (·.key))->VRels c w vs (es.map (·.val))->MRel c w (ks.zip vs) es clock|[],vs,es,clock,_,h1,_=>by simp_all[MRel,VRels]|k::ks,[],es,clock,_,h1,a=>by simp_all[VRels]|k::ks,v::vs,es,clock,b,h1,a=>by cases es with|nil=>simp[VRels]at h1|cons e es=>simp only[VRels,ZaL]at h1 a;obtain⟨x,xs,h,h1,d⟩:=h1;obtain⟨y,l,i,a,f⟩:=a;cases h;cases i;simp only[MStamp]at b;have g:=QoS b.2.2 d f;rw[List.zip_cons_cons];refine⟨e,es,rfl,h1,a,b.1,?_,g⟩;have:=Qb1 g;rw[this];exact b.2.1
theorem Qj1:∀{l:List (AV×AV)}{es:List MapEntry}{clock:Nat},MRel c w l es clock->MStamp es clock/\VRels c w (l.map (·.1)) (es.map (·.key))/\VRels c w (l.map (·.2)) (es.map (·.val))
 |[],es,clock,h=>by simp_all[MRel,MStamp,VRels]|(k,x)::r,es,clock,h=>by
  have hlen:=Qb1 h;simp only[MRel]at h;obtain⟨e,f,rfl,h1,n,b,i,a⟩:=h;obtain⟨d,g,m⟩:=Qj1 a;have o:=Qb1 a;refine⟨⟨b,by omega,d⟩,?_,?_⟩;·simp only[ZaL,VRels];grind
  simp only[ZaL,VRels];grind
theorem Qmq{kt et}{row}{zero}{ok}{cx ck zv}(H:HRel c h w)(T:MapT P t row ks kt et)(hx:VRel c w x cx)(hkey:VRel c w k ck)(hi:P.info? et=some ti)(hz:ti.zero=some zv)(hc:cOK zero zv=true)(hm:(aLookup row ks zero ok x k).run h=some (v,h')):Sound P c w (Instr.lookup t cx ck ok) v h':=by
 unfold aLookup at hm;split at hm
 ·rename_i hok;have hck:=fun e=>QeB (P:=P) T hkey hok e;have hzr:VRel c w zero zv:=Qer _ _ hc;cases x<;>simp only at hm<;>try(cases hm;done)
  case nilmap=>
   simp only[HM.run,Zab,Zal]at hm;obtain⟨rfl,rfl⟩:=hm;simp only[VRel]at hx;subst hx;obtain⟨r',h1,h2⟩:=QbP (P:=P) (w:=w) T hkey (es:=[]) (ms:=[]) (clock:=0) (r:=none) (by simp[MRel]) rfl;have:r'=none:=by grind[FoundRel]
   subst this;refine .here H (cv:=if ok then .tuple #[zv,.bool false]else zv) ?_ ?_;·simp[Instr.lookup,run_underlying T.hu,hck,h1,zeroValue,typeInfo,hi,hz]
   grind[VRel,VRels]
  case map b g=>
   obtain⟨es,hb,hm⟩:=Qcz hm;simp only[VRel]at hx;obtain⟨cb,hp,rfl⟩:=hx;obtain⟨ms,clock,hO,hC,hR,hcl⟩:=H.atMap hb hp;exact bmmt7
  case fmap ks' vs'=>
   simp only[VRel]at hx;obtain⟨mb,ms,clock,rfl,hF,hC,hcl,hst,h6,h7⟩:=hx;have hR:=QoS hst h6 h7;exact bmmt7
 grind[HM.run]
theorem QeC:∀{es:List (AV×AV)}{ms:List MapEntry}{clock:Nat}(i:Nat){p:AV×AV},MRel c w es ms clock->es[i]?=some p->∃e,ms[i]?=some e/\VRel c w p.1 e.key/\VRel c w p.2 e.val|[],ms,clock,i,p,_,hi=>by simp at hi|(k,x)::es,ms,clock,i,p,hm,hi=>by simp only[MRel]at hm;obtain⟨e,a,rfl,h1,d,g,f,b⟩:=hm;cases i with|zero=>simp at hi;subst hi;exact⟨e,by simp,h1,d⟩|succ i=>simp at hi;simpa using QeC i b hi
theorem Qik{row}:∀{es:List (AV×AV)}{i j:Nat}{v:AV},aFind row ks k es i=some (some (j,v))->i<=j/\∃a,es[j-i]?=some (a,v)/\keyEq row ks k a=some true
 |[],i,j,v,hf=>by simp[aFind]at hf|(a,x)::es,i,j,v,hf=>by
  simp only[aFind]at hf;split at hf;·simp_all
  ·obtain⟨h1,c,b,d⟩:=Qik hf;grind
  cases hf
theorem QiY{row}{q}(y:keyEq row ks k q=some true)(h1:VRel c w k l)(z:VRel c w q f)(g:row=true\/∃lk,ks=[lk]):l=f/\Instr.sameBits 10000 l l=true:=by
 obtain⟨xs,C,us,B,rfl,rfl,o,A,x⟩:=Qgo y h1 z;obtain⟨rfl,a⟩:=Qgp x o A;refine⟨rfl,?_⟩;have t:∀n u,((∃k n,u=.int k n)\/(∃b,u=.bool b)\/∃s,u=.string s)->Instr.sameBits n u u=true:=by
  intro n u d;rcases d with⟨k,m,rfl⟩|⟨b,rfl⟩|⟨s,rfl⟩;·simp[Instr.sameBits]
  ·simp[Instr.sameBits]
  simp_all[Instr.sameBits,beq_toListBytes]
 cases row with|true=>simp only[asVal,if_true];show Instr.sameBits (9999+1) _ _=true;simp only[Instr.sameBits,Zac,beq_self_eq_true,true_and,ZaH];intro p hp;obtain⟨i,hi,rfl⟩:=Zcd.1 hp;simp at hi;simp only[List.getElem_zip];exact t _ _ (a _ (by simp))|false=>
  rcases g with h|⟨lk,rfl⟩;·cases h
  have v:=(QcR x).1;have d:=QaE o;match us,a,d with|[u],a,_=>simp only[asVal,Zat,if_false,List.headD_cons];exact t _ _ (a u (by simp))|[],_,d=>simp only[ZaD,Zbd]at d v;omega|_::_::_,_,d=>simp only[ZaD,Zbd]at d v;omega
theorem Qmr{d}(g:VRel c w k d)(f:VRel c w v cv):∀{es:List (AV×AV)}{ms:List MapEntry}{clock:Nat}(i:Nat),MRel c w es ms clock->MRel c w (es.set i (k,v)) (ms.modify i fun e=>{e with key:=d,val:=cv}) clock|[],ms,clock,i,hm=>by simp_all[MRel]|(n,x)::es,ms,clock,i,hm=>by simp only[MRel]at hm;obtain⟨e,l,rfl,h1,m,h,a,b⟩:=hm;cases i with|zero=>simp only[ZbV,List.modify_zero_cons,MRel];exact⟨_,_,rfl,g,f,h,a,b⟩|succ i=>simp only[Zb8,List.modify_succ_cons,MRel];exact⟨_,_,rfl,h1,m,h,by simpa using a,Qmr g f i b⟩
theorem Qgr(h:VRel c w k a)(f:VRel c w v cv):∀{es:List (AV×AV)}{ms:List MapEntry}{clock:Nat},MRel c w es ms clock->MRel c w (es++[(k,v)]) (ms++[{key:=a,val:=cv,born:=clock}]) (clock+1)|[],ms,clock,hm=>by simp only[MRel]at hm;subst hm;simp only[ZaT,MRel];grind|(i,x)::es,ms,clock,hm=>by simp only[MRel]at hm;obtain⟨e,d,rfl,h1,g,l,m,b⟩:=hm;simp only[ZaW,MRel];exact⟨_,_,rfl,h1,g,by omega,by simp;omega,Qgr h f b⟩
theorem HRel.setMap(H:HRel c h w){b}{es'}(a:b<lim)(d:h.get b=some (.map g es))(hp:c.ρ b g=some (.loc cb 0))(hm:∀c' w',Evo c w c' w'->MRelT c' w' es' ms'.toList clock'):∃c',Evo c w c' (upd w cb (.map ms' clock'))/\HRel c' (h.set b (.map g es')) (upd w cb (.map ms' clock')):=by obtain⟨ms,clock,s,m,q,o⟩:=H.atMap d hp;have f:=Qbk m;have:=H.put (b:=b) (cb:=cb) (base:=0) (x:=.map g es') (w':=upd w cb (.map ms' clock')) a (fun y n=>H.later b _ d y n) (.inr hp) (.inr ⟨g,0,⟨_,d,rfl,fun k=>by simp⟩,hp⟩) rfl rfl rfl (by simp[upd]) (by simp_all[upd]) (fun k _ i=>Qgm i) (fun C2 p l t=>by simp_all) (fun E=>⟨cb,ms',clock',Qa7,.inr rfl,QdB f,hm _ _ E⟩);grind
theorem Qdl(a:w.heap[cb]?=some (.map ms clock)):(setObj cb (.map ms' clock')).run P w=.ok () (upd w cb (.map ms' clock')):=by simp[setObj,Sem.run,a,upd]
theorem Qgs{U Q}{row}{r}{N}(H:HRel c h w)(T:MapT P t row ks U Q)(M:VRel c w x N)(a:VRel c w k l)(O:VRel c w v cv)(hm:(aMapUpd row ks x k v).run h=some (r,h')):SoundU P c w (Instr.mapUpdate t N l cv) h':=by
 unfold aMapUpd at hm;split at hm
 ·rename_i I;have p:=fun e=>QeB (P:=P) T a I e;cases x<;>simp only at hm<;>try(cases hm;done)
  case map b g=>
   obtain⟨es,A,hm⟩:=Qcz hm;simp only[VRel]at M;obtain⟨X,hp,rfl⟩:=M;obtain⟨ms,clock,hO,z,o,m⟩:=H.atMap A hp;split at hm;·rename_i i Z hf;obtain⟨d,hm⟩:=Qa5 hm;simp only[HM.run,Zab,Zal]at hm;obtain⟨_,rfl⟩:=hm;obtain⟨u,h1,y⟩:=QbP (P:=P) (w:=w) T a o hf;cases u with|none=>simp[FoundRel]at y|some u=>
    obtain⟨Y,V⟩:=u;simp only[FoundRel]at y;obtain⟨rfl,_⟩:=y;obtain⟨_,k',s,B⟩:=Qik hf;simp only[Nat.sub_zero]at s;obtain⟨e,he,K,_⟩:=QeC i o s;have q:row=true\/∃lk,ks=[lk]:=by cases G:row with|true=>exact .inl rfl|false=>have F:=T.hk;have L:=T.hr;rw[G]at L;have S:=Qcp F L;match ks,S with|[lk],_=>exact .inr ⟨lk,rfl⟩
    obtain⟨J,C⟩:=QiY B a K q;have f:(Instr.keyThatStays e.key l).run P w=.ok l w:=by simp_all[Instr.keyThatStays]
    rw[ZaY]at he;obtain⟨n,E,H'⟩:=H.setMap d A hp (es':=es.set i (k,v)) (ms':=ms.modify i fun e=>{e with key:=l,val:=cv}) (clock':=clock) (fun n R E=>by have:=Qmr (Zcm (E.ext H.disj) _ _ a) (Zcm (E.ext H.disj) _ _ O) i (MRel.mono (E.ext H.disj) _ _ _ o);exact⟨by simp_all,by simpa using m⟩);refine⟨n,_,?_,E,H'⟩;simp[Instr.mapUpdate,run_underlying T.hu,QbY z,p,h1,he,f,Qdl z]
   ·rename_i hf;obtain⟨d,hm⟩:=Qa5 hm;simp only[HM.run,Zab,Zal]at hm;obtain⟨_,rfl⟩:=hm;obtain⟨u,h1,y⟩:=QbP (P:=P) (w:=w) T a o hf;have:u=none:=by grind[FoundRel]
    subst this;obtain⟨n,E,H'⟩:=H.setMap d A hp (es':=es++[(k,v)]) (ms':=ms.push {key:=l,val:=cv,born:=clock}) (clock':=clock+1) (fun n R E=>by have:=Qgr (Zcm (E.ext H.disj) _ _ a) (Zcm (E.ext H.disj) _ _ O) (MRel.mono (E.ext H.disj) _ _ _ o);exact⟨by simp_all,by simpa using m⟩);refine⟨n,_,?_,E,H'⟩;simp[Instr.mapUpdate,run_underlying T.hu,QbY z,p,h1,Qdl z]
   grind[HM.run]
 grind[HM.run]
theorem Qme(f:∀r,reserve=some r->(∃k n,r=.int k n)/\∃o m,P.underlying t=some (.map o m))(H:HRel c h w)(hm:(aMakeMap s i).run h=some (v,h')):Sound P c w (Instr.makeMap t reserve) v h':=by
 unfold aMakeMap at hm;obtain⟨b,g,d,A,hm⟩:=QdF hm;simp only[HM.run,Zab,Zal]at hm;obtain⟨rfl,rfl⟩:=hm;have a:∀y,g<=y->c.ρ b y=none:=by
  intro y q;rcases A with⟨h1,p⟩|⟨z,h1,p⟩;·exact H.fresh b h1 y
  exact H.later b z h1 y (by omega)
 have l:(w.alloc (.map #[] 0)).heap[w.heap.size]?=some (.map #[] 0):=by show(w.heap.push _)[w.heap.size]?=_;simp
 have:=H.put (b:=b) (cb:=w.heap.size) (base:=0) (x:=.map g []) (w':=w.alloc (.map #[] 0)) d (fun y q=>a y (Nat.le_of_lt q)) (.inl (a g (Zar _))) (.inl rfl) rfl rfl rfl (by simp) (by simp) (fun k B _=>Go.RowKit.Below.heap_alloc w _ k B) (fun C2 C u p=>by simp_all) (fun E=>⟨w.heap.size,#[],0,Qa7,.inr rfl,l,by simp[MRel],rfl⟩);refine⟨.map (some w.heap.size),_,_,?_,this.1,this.2,?_⟩;·cases reserve with|none=>simp[Instr.makeMap]|some r=>obtain⟨⟨k,n,rfl⟩,o,m,x⟩:=f r rfl;simp[Instr.makeMap,run_underlying x,asInt,asIntOf]
 simp only[VRel];exact⟨_,Qa7,rfl⟩
end Go.AM
namespace Go.AM
variable{P:Program}{ok:Okc}{c:Ctx ok}{w:World}{h:Heap}
variable{v x:AV}{k:AV->HM AV}{cargs:Array Value}{h':Heap}{d:IntKind}{xs:List AV}{b cx m:Value}
def bytesOf:List AV->Option (List UInt8)|[]=>some []|.int .u8 n::r=>(bytesOf r).map (UInt8.ofNat n.toNat::·)|_=>none
def aConvB(x:AV):HM AV:=match x with|.str _=>.fail|x=>aSrc 1 x fun a n=>match bytesOf a with|some s=>.ret (.str s)|none=>.fail
def convBT(P:Program)(src dst:TypeId):Bool:=match P.underlying src,P.underlying dst with|some (.slice e),some .string=>(match P.underlying e with|some (.int .u8)=>true|_=>false)|_,_=>false
theorem QhE:∀{ys:List AV}{us:List Value}{s:List UInt8},bytesOf ys=some s->VRels c w ys us->∃f:List Int,us=f.map (Value.int .u8)/\s=f.map fun n=>UInt8.ofNat n.toNat
 |[],us,s,b,d=>by simp only[bytesOf,Zab]at b;simp only[VRels]at d;simp_all|y::ys,us,s,b,d=>by
  have g:∃n s2,y=.int .u8 n/\bytesOf ys=some s2/\s=UInt8.ofNat n.toNat::s2:=by
   cases y<;>try(simp[bytesOf]at b;done)
   rename_i k n;cases k<;>try(simp[bytesOf]at b;done)
   simp only[bytesOf]at b;cases a:bytesOf ys with|none=>simp[a]at b|some s2=>simp only[a,ZbK,Zab]at b;exact⟨n,s2,rfl,rfl,b.symm⟩
  obtain⟨n,s2,rfl,a,rfl⟩:=g;simp only[VRels]at d;obtain⟨v,i,rfl,h1,h⟩:=d;simp only[VRel]at h1;obtain⟨f,rfl,rfl⟩:=QhE a h;exact⟨n::f,by simp[h1],by simp⟩
theorem Qqf(a:List Int):a.foldl (fun r n=>r.push (UInt8.ofNat n.toNat)) ByteArray.empty=⟨(a.map fun n=>UInt8.ofNat n.toNat).toArray⟩:=by
 have:∀(a:List Int)(r:ByteArray),a.foldl (fun r n=>r.push (UInt8.ofNat n.toNat)) r=⟨r.data++(a.map fun n=>UInt8.ofNat n.toNat).toArray⟩:=by intro a;induction a with|nil=>intro r;simp|cons n a b=>intro r;simp only[ZaS,b,ZaL];congr 1;apply Array.ext';simp[ByteArray.push]
 simp_all
theorem QoB{src dst}(H:HRel c h w)(f:VRel c w x m)(g:convBT P src dst=true)(hm:(aConvB x).run h=some (v,h')):Sound P c w (convert src dst m) v h':=by
 unfold convBT at g;split at g
 ·rename_i e y u;split at g
  ·rename_i he;have o:∃a l cp,m=.slice a l cp:=by
    cases x<;>simp only[aConvB,aSrc,HM.run]at hm<;>try(cases hm;done)
    ·simp_all[VRel]
    ·simp only[VRel]at f;grind
    ·simp only[VRel]at f;grind
    ·simp only[VRel]at f;grind
    simp only[VRel]at f;grind
   have b:(aSrc 1 x fun t n=>match bytesOf t with|some s=>.ret (.str s)|none=>.fail).run h=some (v,h'):=by cases x<;>first|exact hm|(cases hm;done)
   obtain⟨t,n,us,S,b⟩:=Qdb (P:=P) H f b;split at b
   ·rename_i s k;simp only[HM.run,Zab,Zal]at b;obtain⟨rfl,rfl⟩:=b;obtain⟨d,rfl,rfl⟩:=QhE k S.rels;obtain⟨a,l,cp,rfl⟩:=o;have z:=S.lenOf w;have hf:=S.first w rfl;refine .here H (cv:=.string ⟨(d.map fun n=>UInt8.ofNat n.toNat).toArray⟩) ?_ (by simp[VRel])
    rw[run_convert_bytes_string w src dst e a l cp y he u];cases a with|none=>
     have q:n=l:=by simp_all[Builtin.lenOf]
     have:(d.map (Value.int .u8))=[]:=by simpa[Builtin.firstCells]using hf
     have p:d=[]:=by simp_all
     subst p;simp[Conv.bytesToString,ByteArray.empty,ByteArray.emptyWithCapacity];rfl|some a=>
     have q:n=l:=by simp_all[Builtin.lenOf]
     subst q;have i:(loadCells a n).run P w=.ok (d.map (Value.int .u8)).toArray w:=by grind[Builtin.firstCells]
     rw[run_bytesToString w a n cp d i,Qqf]
   grind[HM.run]
  cases g
 cases g
def aNilS(x:AV)(k:AV->HM AV):HM AV:=match x with
 |.sl b g _ 0 _=>.look b fun y=>match y with|some (.cells a (_::_))=>bif Nat.beq a g then k .nsl else .fail|_=>.fail
 |x=>k x
def aEqN(neg:Bool)(x:AV):HM AV:=aNilS x fun x=>.opt (aEq (.nil 2) neg x .nilsl)
theorem Qqg(H:HRel c h w)(hx:VRel c w x cx)(hm:(aNilS x k).run h=some (v,h')):∃x',VRel c w x' cx/\(k x').run h=some (v,h'):=by
 unfold aNilS at hm;split at hm
 ·rename_i b g off sz;simp only[HM.run]at hm;split at hm;·rename_i g' y ys hb;cases hg:Nat.beq g' g with|false=>rw[hg]at hm;simp[HM.run]at hm|true=>
   rw[hg]at hm;have:g'=g:=by simpa using hg
   subst this;refine⟨.nsl,?_,hm⟩;simp only[VRel]at hx⊢;rcases H.blk b _ hb with⟨k1,k2⟩|⟨cb,base,C,e,fr,k1,_⟩;·cases k2
   ·grind
  grind[HM.run]
 grind
def aCap(x:AV):Option AV:=match x with|.nilsl=>some (.int .i64 0)|_=>none
def capT(P:Program)(t:TypeId):Bool:=match P.underlying t with|some (.slice _)=>true|_=>false
theorem QqU{t ty}(d:VRel c w x b)(a:capT P t=true)(hm:aCap x=some v):Pure P c w (Builtin.cap_ #[t] ty #[b]) v:=by
 unfold aCap at hm;cases x<;>simp only[reduceCtorEq,Zab]at hm;subst hm;simp only[VRel]at d;subst d;unfold capT at a;split at a;·rename_i e f;exact⟨_,by simp[Builtin.cap_,run_underlying f,goInt];rfl,by simp[VRel]⟩
 cases a
def aExt(k:Nat)(xs:List AV):Option AV:=match k,xs with|0,[.int _ x,.int _ y,.int _ z]=>if 0<=x/\0<=y/\0<=z/\z<=1 then some (.tup [.int .u64 ((x+y+z)%18446744073709551616),.int .u64 ((x+y+z)/18446744073709551616)])else none|1,[.int _ x,.int _ y,.int _ z]=>if 0<=x/\x<18446744073709551616/\0<=y/\y<18446744073709551616/\0<=z/\z<=1 then some (.tup [.int .u64 ((x+18446744073709551616-y-z)%18446744073709551616),.int .u64 (if x<y+z then 1 else 0)])else none|2,[.typed t n (.ptr b g o)]=>some (.typed t n (.ptr b g o))|_,_=>none
def extName(k:Nat):String:=if k=0 then "math/bits.Add64"else if k=1 then "math/bits.Sub64"else "internal/abi.NoEscape"
def sub64Entry:Array Value->Sem Value:=fun args=>do let(x,y,b)<-Extern.MathBitsCarry.three "Sub64" args;pure (Extern.MathBitsCarry.pair ((x+Extern.MathBitsCarry.m64-y-b)%Extern.MathBitsCarry.m64) (if x<y+b then 1 else 0))
theorem QqV(x y z)(l:0<=x)(g:x<18446744073709551616)(i:0<=y)(f:y<18446744073709551616)(a:0<=z)(m:z<=1){b c}(w):(sub64Entry #[.int d x,.int b y,.int c z]).run P w=.ok (.tuple #[.int .u64 ((x+18446744073709551616-y-z)%18446744073709551616),.int .u64 (if x<y+z then 1 else 0)]) w:=by
 have key:∀k:Nat,k<=1->(sub64Entry #[.int d x,.int b y,.int c (k:Int)]).run P w=.ok (Extern.MathBitsCarry.pair ((x.toNat+Extern.MathBitsCarry.m64-y.toNat-k)%Extern.MathBitsCarry.m64) (if x.toNat<y.toNat+k then 1 else 0)) w:=by
  intro k n;have:k=0\/k=1:=by omega
  rcases this with rfl|rfl<;>rfl
 obtain⟨k,rfl⟩:=Zbq a;rw[key k (by omega)];obtain⟨X,rfl⟩:=Zbq l;obtain⟨Y,rfl⟩:=Zbq i;simp only[Extern.MathBitsCarry.pair,Extern.MathBitsCarry.m64,Int.toNat_natCast];congr 4;·simp;omega
 congr 2;by_cases h:X<Y+k;·grind
 grind
theorem run_add64'(x y z)(g:0<=x)(f:0<=y)(a:0<=z)(i:z<=1){b c}(w):(add64Entry #[.int b x,.int c y,.int d z]).run P w=.ok (.tuple #[.int .u64 ((x+y+z)%18446744073709551616),.int .u64 ((x+y+z)/18446744073709551616)]) w:=by
 have key:∀k:Nat,k<=1->(add64Entry #[.int b x,.int c y,.int d (k:Int)]).run P w=.ok (Extern.MathBitsCarry.pair ((x.toNat+y.toNat+k)%Extern.MathBitsCarry.m64) ((x.toNat+y.toNat+k)/Extern.MathBitsCarry.m64)) w:=by
  intro k h;have:k=0\/k=1:=by omega
  rcases this with rfl|rfl<;>rfl
 obtain⟨k,rfl⟩:=Zbq a;rw[key k (by omega)];obtain⟨X,rfl⟩:=Zbq g;obtain⟨Y,rfl⟩:=Zbq f;simp_all[Extern.MathBitsCarry.pair,Extern.MathBitsCarry.m64]
theorem Qqh{fn}(a:fn.name= "math/bits.Add64"):Extern.find fn=some add64Entry:=by
 have h1:Extern.allGenericRows.lookup "math/bits.Add64"=none:=by kernel_rfl
 have c:Extern.allTypedRows.lookup "math/bits.Add64"=none:=by kernel_rfl
 have b:Extern.allRows.lookup "math/bits.Add64"=some add64Entry:=by kernel_rfl
 grind[Extern.find]
theorem Qmf{fn}(a:fn.name= "internal/abi.NoEscape"):Extern.find fn=some Extern.AbiNoEscape.same:=by
 have h1:Extern.allGenericRows.lookup "internal/abi.NoEscape"=none:=by kernel_rfl
 have c:Extern.allTypedRows.lookup "internal/abi.NoEscape"=none:=by kernel_rfl
 have b:Extern.allRows.lookup "internal/abi.NoEscape"=some Extern.AbiNoEscape.same:=by kernel_rfl
 grind[Extern.find]
theorem Qqi{fn}(a:fn.name= "math/bits.Sub64"):Extern.find fn=some sub64Entry:=by
 have h1:Extern.allGenericRows.lookup "math/bits.Sub64"=none:=by kernel_rfl
 have c:Extern.allTypedRows.lookup "math/bits.Sub64"=none:=by kernel_rfl
 have b:Extern.allRows.lookup "math/bits.Sub64"=some sub64Entry:=by kernel_rfl
 grind[Extern.find]
def extFn(P:Program)(f k:Nat):Bool:=match P.funcs[f]? with|some fn=>fn.body.isNone&&fn.name==extName k&&(Extern.findNext fn).isNone&&decide (k<=2)|none=>false
theorem QqW{f k}(hf:extFn P f k=true)(hx:VRels c w xs cargs.toList)(hm:aExt k xs=some v):∃cv,(callFunc f cargs).run P w=.ok (.value cv) w/\VRel c w v cv:=by
 unfold extFn at hf;split at hf
 ·rename_i fn hfn;simp only[Zac,beq_iff_eq,decide_eq_true_eq]at hf;obtain⟨⟨⟨hb,hn⟩,hnx⟩,hk⟩:=hf;have hnx:Extern.findNext fn=none:=by simpa using hnx
  have three:∀{kx ky kz:IntKind}{x y z:Int},xs=[.int kx x,.int ky y,.int kz z]->cargs=#[.int kx x,.int ky y,.int kz z]:=by intro kx ky kz x y z e;subst e;simp only[VRels,VRel]at hx;grind
  unfold aExt at hm;split at hm
  ·rename_i kx x ky y kz z;have e:=three rfl;subst e;split at hm
   ·rename_i hc;cases hm;have hn':fn.name= "math/bits.Add64":=hn;refine⟨.tuple #[.int .u64 ((x+y+z)%18446744073709551616),.int .u64 ((x+y+z)/18446744073709551616)],?_,?_⟩;·rw[run_callFunc_extern hfn (by rw[hn'];rfl) hb hnx (Qqh hn'),run_add64' x y z hc.1 hc.2.1 hc.2.2.1 hc.2.2.2];rfl
    ·simp only[VRel];exact⟨_,rfl,by simp[VRels,VRel]⟩
   ·cases hm
  ·rename_i kx x ky y kz z;have e:=three rfl;subst e;split at hm
   ·rename_i hc;cases hm;have hn':fn.name= "math/bits.Sub64":=hn;refine⟨.tuple #[.int .u64 ((x+18446744073709551616-y-z)%18446744073709551616),.int .u64 (if x<y+z then 1 else 0)],?_,?_⟩;·rw[run_callFunc_extern hfn (by rw[hn'];rfl) hb hnx (Qqi hn'),QqV x y z hc.1 hc.2.1 hc.2.2.1 hc.2.2.2.1 hc.2.2.2.2.1 hc.2.2.2.2.2];rfl
    ·simp only[VRel];exact⟨_,rfl,by simp[VRels,VRel]⟩
   ·cases hm
  ·rename_i t n b g o;cases hm;have hn':fn.name= "internal/abi.NoEscape":=hn;simp only[VRels]at hx;obtain⟨u,us,e1,hu,rfl⟩:=hx;have e:cargs=#[u]:=by grind
   subst e;refine⟨u,?_,hu⟩;rw[run_callFunc_extern hfn (by rw[hn'];rfl) hb hnx (Qmf hn')];rfl
  ·cases hm
 ·cases hf
end Go.AM
