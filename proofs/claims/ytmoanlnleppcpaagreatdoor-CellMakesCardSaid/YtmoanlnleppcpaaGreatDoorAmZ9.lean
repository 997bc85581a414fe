/- A part of the proof of CellMakesCardSaid: lemmas on the way (AmSa). Conditions: none of ours. -/
import Derived.KernelRfl
import Derived.Test.YtmoanlnleppcpaaGreatDoorAmZ8
set_option linter.unusedSectionVars false
set_option maxHeartbeats 32000000
set_option maxRecDepth 100000
set_option linter.unusedVariables false
set_option linter.unusedSimpArgs false
namespace Go.AM
def fa (a:List Nat) (n:Nat):List Nat:=a++List.range n
def fz (d:Nat) (o:SOp) (a:List Nat):FOp:=⟨true,⟨some d,o,a,none⟩⟩
def fx (d:Nat) (o:SOp) (a:List Nat) (g:Nat) (b:Bool):FOp:=⟨true,⟨some d,o,a,some (g,b)⟩⟩
def fr (ops:List FOp) (dead:Nat):FCode:= .region ops [] dead
def fk (n:Nat):Opd:= .c (.int .i64 (.ofNat n))
def fm (d x:Nat) (a:List Nat):FOp:=⟨true,⟨some d,.mov (.t x),a,none⟩⟩
def fn (d n:Nat) (a:List Nat):FOp:=⟨true,⟨some d,.mov (.c (.int .i64 (.ofNat n))),a,none⟩⟩
def fl (d x:Nat) (a:List Nat):FOp:=⟨true,⟨some d,.load none (.t x),a,none⟩⟩
def fw (d n x:Nat) (a:List Nat):FOp:=⟨true,⟨some d,.load (some n) (.t x),a,none⟩⟩
def ff (d k x:Nat) (a:List Nat):FOp:=⟨true,⟨some d,.faddr k (.t x),a,none⟩⟩
def fv (d x:Nat) (a:List Nat):FOp:=⟨true,⟨some d,.len 1 (.t x),a,none⟩⟩
def fs (n x y:Nat) (a:List Nat):FOp:=⟨true,⟨none,.store n (.t x) (.t y),a,none⟩⟩
def fi (d n x y:Nat) (a:List Nat):FOp:=⟨true,⟨some d,.iaddr none n (.t x) (.t y),a,none⟩⟩
def fb (d:Nat) (o:BinOp) (x y:Nat) (a:List Nat):FOp:=⟨true,⟨some d,.bin o (.t x) (.t y),a,none⟩⟩
def fc (d:Nat) (o:BinOp) (x n:Nat) (a:List Nat):FOp:=⟨true,⟨some d,.bin o (.t x) (.c (.int .i64 (.ofNat n))),a,none⟩⟩
def fg (d f:Nat) (xs:List Nat) (a:List Nat):FOp:=⟨true,⟨some d,.call .heap (.f f) (xs.map Opd.t),a,none⟩⟩
def fe (d k x:Nat) (a:List Nat):FOp:=⟨true,⟨some d,.extract k (.t x),a,none⟩⟩
def fu (d x:Nat) (a:List Nat):FOp:=⟨true,⟨some d,.un .not (.t x),a,none⟩⟩
def fj (n x y:Nat) (a:List Nat):FOp:=⟨false,⟨none,.store n (.t x) (.t y),a,none⟩⟩
def fO:AV:= .int .i64 (.ofNat 0)
def fN:AV:= .nilsl
def fq (ops:List FOp) (dead:Nat) (c:FCode):FCode:= .seq (.region ops [] dead) c
def fo (x k:Nat):FCode:= .cond (.t x) .skip (.exit k)
theorem kk {P:Program} {f:Nat} {sf:SFn} (h:okFn P f sf=true:=by kernel_rfl):okFn P f sf=true:=h
end Go.AM
