/- A part of the proof of SynthesisLoopsCardSaid: lemmas on the way (AmOe, AmCza, AmCs, AmDa, AmDb, AmDc, AmDd, AmDe, AmDf, AmDg, AmDh, AmDi). Conditions: none of ours. -/
import Derived.Test.YtmoanlnleppcpaaGreatDoorProg
import Derived.KernelRfl
import Derived.Test.YtmoanlnleppcpaaGreatDoorAmV9
set_option linter.unusedSectionVars false
set_option maxHeartbeats 32000000
set_option maxRecDepth 100000
set_option linter.unusedVariables false
set_option linter.unusedSimpArgs false
namespace Go.AM.OE
open Go.Proofs
set_option maxHeartbeats 4000000
noncomputable section
def cf:YA.Cf:={most:=.pure,value:=.pure}
def s13:SFn:=by
 refine(?f:YA.Yt Tryz.prog cf 13 [[0,4],[21,22,23,24,25,26,27,28,29,30,31],[1,2,32,33],[4,2,32,34,35],[37,38,36,39,40,41],[42],[1,5,6,7,8,43,44,45],[4,8,43,46,47],[48,49,50,51,52,53,54,55,56,57],[1,5,6,7,9,58],[4,58,59,60,61],[],[62,63,64],[65,68,69,70],[66,67],[10,11,71,72,73],[],[74,75,76],[77,80,81,82,83],[1,5,6,7,9,152,144,151,150,149,148,146,147,145,143,140,142,141,139,138,135,127,134,132,133,131,129,130,128,126,125,122,121,93,90,92,91,12,13,84],[4,84,78,79],[12,13],[],[85,86,87,88,89],[94,97,98,99,100,101],[],[102,103,104,105],[106,109,110,111,112,113,114,115,116,117],[18,19,118,119,120,123,124,136,137],[1,5,6,7,9,152,144,151,150,149,148,146,147,145,143,140,142,141,139,138,135,127,134,132,133,131,129,130,128,126,125,122,121,93,90,92,91,14,15,16,17,153],[4,153,107,108],[16,17,154,155,156,157,158,159,160,161,162],[163],[20,164,165],[20,164,95,96],[1,5,6,7,9,152,144,151,150,149,148,146,147,145,143,140,142,141,139,138,135,127,134,132,133,131,129,130,128,126,125,122,121,93,90,92,91,14,15]]) ?s ?h;case h=>exact YA.rr
 exact fun s _=>s
def s86:SFn:=by
 refine(?f:YA.Yt Tryz.prog cf 86 [[4,5],[10,11],[12],[0,1,6,13,14],[4,5,6,13,15,16],[1,7,18,19,20,17,21,22],[9,23],[0,8,24],[0,8,24,25,26,27]]) ?s ?h;case h=>exact YA.rr
 exact fun s _=>s
def s171:SFn:=by
 refine(?f:YA.Yt Tryz.prog cf 171 [[0,2],[1,3,4,5]]) ?s ?h;case h=>exact YA.rr
 exact fun s _=>s
def s176:SFn:=by
 refine(?f:YA.Yt Tryz.prog cf 176 [[4],[],[0],[],[11,12,13,14],[7,15,16],[6,17,18,19,20,21],[6,17,22],[1,5,8,9,10,23]]) ?s ?h;case h=>exact YA.rr
 exact fun s _=>s
theorem ok13:okFn Tryz.prog 13 s13=true:=by kernel_rfl
theorem ok86:okFn Tryz.prog 86 s86=true:=by kernel_rfl
theorem ok171:okFn Tryz.prog 171 s171=true:=by kernel_rfl
theorem ok176:okFn Tryz.prog 176 s176=true:=by kernel_rfl
end
end Go.AM.OE
namespace Go.AM.SK
open Go.Proofs
set_option maxHeartbeats 4000000
noncomputable section
def cf:YA.Cf:={}
noncomputable def ft:FT2:=YA.tre Tryz.prog cf 20 [15,16,17,18,19,21,28,31,32,33,36,38,41,45,48,60,68,69,70,71,72,73,74,75,76,77,82,83,84,85,90,95,96,97,98,99,100,101,102,103,104,105,106,110,111,112,115,135,144,148,149,150,154,155,156,157,158,159,160,161,162,163,164,166,167,168,169,183,184,187,188,189,190,192,193,195,197,198,199,200,201,202,203,204,205,206,207,208,209,218,219,223,226,227,228,229,230,232,233,234,235,236,242,251,263]
theorem ft_ok:ft.OK Tryz.prog:=YA.QfT _ _ (YA.Qe0 (by kernel_rfl))
end
end Go.AM.SK
namespace Go.AM.SU
open Go.Proofs
set_option maxHeartbeats 4000000
noncomputable section
def cf:YA.Cf:={always:=[38,185].map fun k=>(k,.pure)}
def s26:SFn:=⟨192,[.cell 2 (some 5)],(.seq (.region [Zz 1 (.box .dyn (.t 0)) [],Zz 2 (.alloc .dyn (.agg [.nilsl,.nilsl,.nilsl,.nilsl,.nilsl])) []] [] [0]) (.seq (.region [Zf 17 0 1 [],Zw 18 5 17 [0],Zz 19 (.call .pure (.f 88) [(.t 18)]) [1],Zz 20 (.build [.nilsl,.nilsl,.nilsl,.nilsl,.nilsl] [(0,1,(.t 19))]) [2],Zz 3 (.alloc .dyn (.agg [.nilsl,.nilsl,.nilsl,.nilsl,.nilsl])) [],Zs 5 3 20 (Za [4,3,2] 5)] [] [17,18,19,20]) (.seq (.region [Zz 4 (.alloc .dyn .nilsl) []] [] []) (.seq (.region [Zf 21 5 1 [],Zl 22 21 [0],Zz 23 (.bin .rem (.t 22) (.c (.int .u8 3))) [1],Zz 24 (.conv .i64 (.t 23)) [2],Zz 25 (.bin .add (.c (.int .i64 1)) (.t 24)) [3],Zm 5 25 (Za [4] 5)] [] [21,22,23,24,25]) (.seq (.seq (.region [Zm 26 5 [],Zz 27 (.mov (.c (.int .i64 0))) []] [] []) (.block 0 (.loop (.seq (.region [Zb 28 .lss 27 26 []] [] []) (.seq (.cond (.t 28) .skip (.exit 0)) (.seq (.block 1 (.seq (.region [Zm 29 27 [],Zm 6 29 [0,0]] [] [28,29]) (.seq (.region [Zm 30 6 [],Zf 31 6 1 [],Zz 32 (.iaddr (some 3) 1 (.t 31) (.t 30)) [1,0],Zl 33 32 [2],Zz 34 (.call .pure (.f 89) [(.t 33)]) [3],Zm 7 34 (Za [4,4] 5)] [] [30,31,32,33,34]) (.seq (.region [Zl 35 4 [],Zm 36 7 [],Zz 37 (.call .pure (.f 90) [(.t 35),(.t 36)]) [0,1],Zs 1 4 37 [2,2,0,1,2]] [] [35,36,37]) (.region [Zf 38 1 3 [],Zl 39 38 [0],Zm 40 6 [],Zz 41 (.bin .add (.c (.int .i64 48)) (.t 40)) [2],Zz 42 (.conv .i32 (.t 41)) [3],Zz 43 (.convS (.t 42)) [4],Zz 44 (.bin .add (.c (.str [99])) (.t 43)) [5],Zm 45 7 [],Zm 46 6 [],Zf 47 9 1 [],Zz 48 (.iaddr (some 3) 27 (.t 47) (.t 46)) [9,8],Zw 49 27 48 [10],Zz 50 (.call .pure (.f 91) [(.t 45),(.t 49),(.c (.int .i64 3))]) [7,11],Zz 51 (.build [(.str []),.nilsl,(.int .i64 0),.nilsl,.nilsl] [(0,1,(.t 44)),(1,4,(.t 50))]) [6,12],Zz 52 (.bslice false .dyn 5 1 [(.str []),.nilsl,(.int .i64 0),.nilsl,.nilsl] [(0,5,(.t 51))]) [13],Zz 53 (.append .dyn 5 96 (.t 39) (.t 52)) [1,14,12],Zf 54 1 3 (Za [] 16),Zs 1 54 53 (Za [16,15,15] 16)] [] [6,7,38,39,40,41,42,43,44,45,46,47,48,49,50,51,52,53,54]))))) (.region [Zz 55 (.bin .add (.t 27) (.c (.int .i64 1))) [],Zm 27 55 [0]] [] [55]))))))) (.seq (.seq (.region [Zf 56 90 1 [],Zl 57 56 [0],Zz 58 (.bin .rem (.t 57) (.c (.int .u8 3))) [1],Zz 59 (.conv .i64 (.t 58)) [2],Zz 60 (.mov (.c (.int .i64 0))) []] [] [26,27,56,57,58]) (.block 2 (.loop (.seq (.region [Zb 61 .lss 60 59 []] [] []) (.seq (.cond (.t 61) .skip (.exit 2)) (.seq (.block 3 (.seq (.region [Zm 62 60 [],Zm 8 62 [0,0]] [] [61,62]) (.seq (.region [Zm 63 8 [],Zf 64 91 1 [],Zz 65 (.iaddr (some 2) 1 (.t 64) (.t 63)) [1,0],Zl 66 65 [2],Zz 67 (.call .heap (.f 89) [(.t 66)]) [3],Zz 68 (.mkfn 92 [] [(.t 4)]) [],Zz 69 (.call .heap (.f 40) [(.t 67),(.t 68)]) [4,5,4],Zm 9 69 (Za [6,6] 7)] [] [63,64,65,66,67,68,69]) (.region [Zf 70 2 3 [],Zl 71 70 [0],Zm 72 8 [],Zz 73 (.bin .add (.c (.int .i64 48)) (.t 72)) [2],Zz 74 (.conv .i32 (.t 73)) [3],Zz 75 (.convS (.t 74)) [4],Zz 76 (.bin .add (.c (.str [114])) (.t 75)) [5],Zm 77 9 [],Zm 78 8 [],Zf 79 93 1 [],Zz 80 (.iaddr (some 2) 27 (.t 79) (.t 78)) [9,8],Zw 81 27 80 [10],Zz 82 (.call .pure (.f 91) [(.t 77),(.t 81),(.c (.int .i64 3))]) [7,11],Zz 83 (.build [(.str []),.nilsl,(.int .i64 0),.nilsl,.nilsl] [(0,1,(.t 76)),(1,4,(.t 82))]) [6,12],Zz 84 (.bslice false .dyn 5 1 [(.str []),.nilsl,(.int .i64 0),.nilsl,.nilsl] [(0,5,(.t 83))]) [13],Zz 85 (.append .dyn 5 96 (.t 71) (.t 84)) [1,14,12],Zf 86 2 3 (Za [] 16),Zs 1 86 85 (Za [16,15,15] 16)] [] [8,9,70,71,72,73,74,75,76,77,78,79,80,81,82,83,84,85,86])))) (.region [Zz 87 (.bin .add (.t 60) (.c (.int .i64 1))) [],Zm 60 87 [0]] [] [87]))))))) (.seq (.seq (.region [Zf 88 147 1 [],Zl 89 88 [0],Zv 90 89 [1],Zz 91 (.mov (.c (.int .i64 0))) []] [] [4,59,60,88]) (.block 4 (.loop (.seq (.region [Zb 92 .lss 91 90 []] [] []) (.seq (.cond (.t 92) .skip (.exit 4)) (.seq (.block 5 (.seq (.region [Zm 93 91 [],Zi 94 4 89 91 [],Zw 95 4 94 [1],Zz 11 (.alloc .dyn (.agg [(.int .u8 0),(.int .u8 0),(.int .u8 0),(.int .u8 0)])) [],Zm 10 93 [0,0,1,2,3],Zs 4 11 95 (Za [3,2,4] 5)] [] [92,93,94,95]) (.seq (.seq (.region [Zm 96 10 [],Zz 97 (.bin .eql (.t 96) (.c (.int .i64 2))) [0]] [] [96]) (.cond (.t 97) (.exit 4) .skip)) (.seq (.region [Zm 98 10 [],Zz 99 (.bin .add (.c (.int .i64 48)) (.t 98)) [0],Zz 100 (.conv .i32 (.t 99)) [1],Zz 101 (.convS (.t 100)) [2],Zz 102 (.bin .add (.c (.str [101])) (.t 101)) [3],Zz 103 (.build [(.str []),.nilsl] [(0,1,(.t 102))]) [4],Zz 12 (.alloc .dyn (.agg [(.str []),.nilsl])) [],Zs 2 12 103 (Za [6,5] 7)] [] [10,97,98,99,100,101,102,103]) (.seq (.seq (.region [Zf 104 1 3 [],Zl 105 104 [0],Zv 106 105 [1],Zz 107 (.mov (.c (.int .i64 0))) []] [] [104,105]) (.block 6 (.loop (.seq (.region [Zb 108 .lss 107 106 []] [] []) (.seq (.cond (.t 108) .skip (.exit 6)) (.seq (.block 7 (.seq (.region [Zm 109 107 [],Zm 13 109 [0,0]] [] [108,109]) (.seq (.region [Zf 110 1 3 [],Zl 111 110 [0],Zm 112 13 [],Zi 113 5 111 112 [1,2],Zf 114 1 113 [3],Zf 115 1 114 [4],Zl 116 115 [5],Zm 14 116 (Za [6] 7)] [] [110,111,112,113,114,115,116]) (.seq (.region [Zm 117 13 [],Zz 118 (.iaddr (some 4) 1 (.t 11) (.t 117)) [0],Zl 119 118 [1],Zz 120 (.conv .i64 (.t 119)) [2],Zm 121 14 [],Zz 122 (.bin .add (.t 121) (.c (.int .i64 2))) [4],Zb 123 .rem 120 122 [3,5],Zm 124 14 [],Zb 125 .lss 123 124 [6,7]] [] [117,118,119,120,121,122,123,124]) (.cond (.t 125) (.region [Zf 126 1 12 [],Zl 127 126 [0],Zm 128 13 [],Zm 129 13 [],Zz 130 (.iaddr (some 4) 1 (.t 11) (.t 129)) [3],Zl 131 130 [4],Zz 132 (.conv .i64 (.t 131)) [5],Zm 133 14 [],Zz 134 (.bin .add (.t 133) (.c (.int .i64 2))) [7],Zb 135 .rem 132 134 [6,8],Zz 136 (.build [(.int .i64 0),(.int .i64 0)] [(0,1,(.t 128)),(1,1,(.t 135))]) [2,9],Zz 137 (.bslice false .dyn 2 1 [(.int .i64 0),(.int .i64 0)] [(0,2,(.t 136))]) [10],Zz 138 (.append .dyn 2 16 (.t 127) (.t 137)) [1,11],Zf 139 1 12 (Za [] 13),Zs 1 139 138 (Za [13,12,12] 13)] [] [13,14,125,126,127,128,129,130,131,132,133,134,135,136,137,138,139]) .skip))))) (.region [Zz 140 (.bin .add (.t 107) (.c (.int .i64 1))) [],Zm 107 140 [0]] [] [13,14,125,140]))))))) (.seq (.region [Zf 141 1 12 [],Zl 142 141 [0],Zv 143 142 [1],Zz 144 (.bin .gtr (.t 143) (.c (.int .i64 0))) [2]] [] [11,106,107,141,142,143]) (.cond (.t 144) (.region [Zf 145 3 3 [],Zl 146 145 [0],Zw 147 2 12 [],Zz 148 (.bslice false .dyn 2 1 [(.str []),.nilsl] [(0,2,(.t 147))]) [2],Zz 149 (.append .dyn 2 40 (.t 146) (.t 148)) [1,3],Zf 150 3 3 (Za [] 5),Zs 1 150 149 (Za [5,4,4] 5)] [] [12,144,145,146,147,148,149,150]) .skip))))))) (.region [Zz 151 (.bin .add (.t 91) (.c (.int .i64 1))) [],Zm 91 151 [0]] [] [12,144,151]))))))) (.seq (.region [Zf 152 151 1 [],Zl 153 152 [0],Zz 154 (.conv .i64 (.t 153)) [1],Zz 155 (.bin .rem (.t 154) (.c (.int .i64 8))) [2],Zz 156 (.build [(.str []),.nilsl,(.int .i64 0)] [(0,1,(.c (.str [107]))),(2,1,(.t 155))]) [3],Zz 15 (.alloc .dyn (.agg [(.str []),.nilsl,(.int .i64 0)])) [],Zs 3 15 156 (Za [5,4] 6)] [] [89,90,91,152,153,154,155,156]) (.seq (.seq (.region [Zm 157 5 [],Zz 158 (.mov (.c (.int .i64 0))) []] [] [5]) (.block 8 (.loop (.seq (.region [Zb 159 .lss 158 157 []] [] []) (.seq (.cond (.t 159) .skip (.exit 8)) (.seq (.block 9 (.seq (.region [Zm 160 158 [],Zm 16 160 [0,0]] [] [159,160]) (.seq (.region [Zm 161 16 [],Zf 162 148 1 [],Zz 163 (.iaddr (some 3) 1 (.t 162) (.t 161)) [1,0],Zl 164 163 [2],Zz 165 (.bin .neq (.t 164) (.c (.int .i8 0))) [3]] [] [161,162,163,164]) (.cond (.t 165) (.region [Zf 166 1 15 [],Zl 167 166 [0],Zm 168 16 [],Zm 169 16 [],Zf 170 148 1 [],Zz 171 (.iaddr (some 3) 1 (.t 170) (.t 169)) [4,3],Zl 172 171 [5],Zz 173 (.conv .i64 (.t 172)) [6],Zz 174 (.bin .rem (.t 173) (.c (.int .i64 4))) [7],Zz 175 (.build [(.int .i64 0),(.int .i64 0)] [(0,1,(.t 168)),(1,1,(.t 174))]) [2,8],Zz 176 (.bslice false .dyn 2 1 [(.int .i64 0),(.int .i64 0)] [(0,2,(.t 175))]) [9],Zz 177 (.append .dyn 2 16 (.t 167) (.t 176)) [1,10],Zf 178 1 15 (Za [] 12),Zs 1 178 177 (Za [12,11,11] 12)] [] [16,165,166,167,168,169,170,171,172,173,174,175,176,177,178]) .skip)))) (.region [Zz 179 (.bin .add (.t 158) (.c (.int .i64 1))) [],Zm 158 179 [0]] [] [16,165,179]))))))) (.seq (.region [Zf 180 1 15 [],Zl 181 180 [0],Zz 182 (.call .heap (.f 93) [(.t 181),(.f 94)]) [1],Zf 183 1 15 [0,1,2],Zs 1 183 182 [3,2,2,0,1,2]] [] [1,157,158,180,181,182,183]) (.seq (.seq (.region [Zf 184 1 15 [],Zl 185 184 [0],Zv 186 185 [1],Zz 187 (.bin .gtr (.t 186) (.c (.int .i64 0))) [2]] [] [184,185,186]) (.cond (.t 187) (.region [Zw 188 3 15 [],Zz 189 (.bslice false .dyn 3 1 [(.str []),.nilsl,(.int .i64 0)] [(0,3,(.t 188))]) [0],Zf 190 4 3 [0,1],Zs 1 190 189 [2,1,0,1]] [] [15,187,188,189,190]) .skip)) (.seq (.region [Zw 191 5 3 [],Zs 5 2 191 [0,0]] [] [3,15,187,191]) .ret))))))))))))⟩
def s40:SFn:=by
 refine(?f:YA.Yt Tryz.prog cf 40 [[4],[8,9,10],[11],[0,1,5,12,13],[4,12,14,15],[16,17,18],[19,22,23,24,25],[26,27,28],[7,29,30,31,32,33],[34,35],[7,29,20,21],[1,6,36,37,38],[0,5,39,40,41]]) ?s ?h;case h=>exact YA.rr
 exact fun s _=>s
def s91:SFn:=by
 refine(?f:YA.Yt Tryz.prog cf 91 [[1],[2,7,8,9,10,11,12],[0,4,13,14,15]]) ?s ?h;case h=>exact YA.rr
 exact fun s _=>s
def s92:SFn:=by
 refine(?f:YA.Yt Tryz.prog cf 92 [[3],[0,1,4,5,6,7]]) ?s ?h;case h=>exact YA.rr
 exact fun s _=>s
def s93:SFn:=by
 refine(?f:YA.Yt Tryz.prog cf 93 [[4],[8,9,10],[11],[0,1,5,12,13],[4,12,14,15],[16,17,18],[19,22,23,24,25],[26,27,28],[7,29,30,31,32,33],[34,35],[7,29,20,21],[1,6,36,37,38],[0,5,39,40,41]]) ?s ?h;case h=>exact YA.rr
 exact fun s _=>s
def s94:SFn:=by
 refine(?f:YA.Yt Tryz.prog cf 94 [[0,2],[1,3,4,5]]) ?s ?h;case h=>exact YA.rr
 exact fun s _=>s
def s110:SFn:=by
 refine(?f:YA.Yt Tryz.prog cf 110 [[4],[6],[],[9,10],[11,12,13,14,15],[0,1,7,8,5,16,17],[4,5,16,18],[0,1,7,8]]) ?s ?h;case h=>exact YA.rr
 exact fun s _=>s
def s186:SFn:=by
 refine(?f:YA.Yt Tryz.prog cf 186 [[4],[6],[],[9,10],[11,12,13,14,15],[0,1,7,8,5,16,17],[4,5,16,18],[0,1,7,8]]) ?s ?h;case h=>exact YA.rr
 exact fun s _=>s
theorem ok26:okFn Tryz.prog 26 s26=true:=by kernel_rfl
theorem ok40:okFn Tryz.prog 40 s40=true:=by kernel_rfl
theorem ok91:okFn Tryz.prog 91 s91=true:=by kernel_rfl
theorem ok92:okFn Tryz.prog 92 s92=true:=by kernel_rfl
theorem ok93:okFn Tryz.prog 93 s93=true:=by kernel_rfl
theorem ok94:okFn Tryz.prog 94 s94=true:=by kernel_rfl
theorem ok110:okFn Tryz.prog 110 s110=true:=by kernel_rfl
theorem ok186:okFn Tryz.prog 186 s186=true:=by kernel_rfl
end
end Go.AM.SU
namespace Go.AM.SD
abbrev Ed:=Nat×Nat×Nat
def Rch(es:List Ed)(mk:List Nat)(left:Nat->Bool):Nat->Nat->Prop|0,x=>left x=true/\x∈mk|d+1,x=>Rch es mk left d x\/(left x=true/\∃e∈es,e.1=x/\Rch es mk left d e.2.2)
theorem Rch.left{es:List Ed}{mk:List Nat}{left:Nat->Bool}:∀{d x:Nat},Rch es mk left d x->left x=true
 |0,_,h=>h.1|d+1,_,h=>by
  rcases h with h|h;·exact Rch.left h
  exact h.1
structure Dst(es:List Ed)(mk:List Nat)(left:Nat->Bool)(o:Nat->Int):Prop where
 neg:∀x,-1<=o x
 zero:∀x,left x=true->x∈mk->o x=0
 zero':∀x,o x=0->left x=true/\x∈mk
 succ:∀x(d:Nat),o x=(d:Int)+1->left x=true/\∃e∈es,e.1=x/\o e.2.2=(d:Int)edge:∀e∈es,left e.1=true->∀d:Nat,o e.2.2=(d:Int)->0<=o e.1/\o e.1<=(d:Int)+1
theorem Dst.rch{es:List Ed}{mk:List Nat}{left:Nat->Bool}{o:Nat->Int}(h:Dst es mk left o):∀(d x:Nat),Rch es mk left d x↔0<=o x/\o x<=(d:Int):=by
 intro d;induction d with|zero=>
  intro x;constructor;·intro a;have:=h.zero x a.1 a.2;omega
  intro a;exact h.zero' x (by omega)|succ d c=>
  intro x;constructor
  ·rintro(a|⟨b,e,he,rfl,f⟩);·grind
   have h1:=(c _).1 f;obtain⟨k,g⟩:=Za2 h1.1;have:=h.edge e he b k g;omega
  intro a;by_cases i:o x<=(d:Int);·exact .inl ((c x).2 ⟨a.1,i⟩)
  obtain⟨b,e,he,rfl,f⟩:=h.succ x d (by omega);exact .inr ⟨b,e,he,rfl,(c _).2 (by omega)⟩
theorem Dst.uniq{es:List Ed}{mk:List Nat}{left:Nat->Bool}{o o':Nat->Int}(h:Dst es mk left o)(h':Dst es mk left o')(x:Nat):o x=o' x:=by
 have key:∀d:Nat,(0<=o x/\o x<=(d:Int))↔(0<=o' x/\o' x<=(d:Int)):=fun d=>(h.rch d x).symm.trans (h'.rch d x);have h1:=h.neg x;have c:=h'.neg x;by_cases b:0<=o x;·grind[Za2]
 by_cases a:0<=o' x;·grind[Za2]
 omega
def rEd(left:Nat->Bool)(r:Nat)(s:List Int×Bool)(e:Ed):List Int×Bool:=if left e.1&&left e.2.2&&decide (s.1.getD e.1 0<0)&&decide (s.1.getD e.2.2 0=(r:Int)-1)then(s.1.set e.1 (r:Int),true)else s
def rRd(es:List Ed)(left:Nat->Bool)(r:Nat)(o:List Int):List Int×Bool:=es.foldl (rEd left r) (o,false)
def rDist(es:List Ed)(left:Nat->Bool):Nat->Nat->List Int->List Int|0,_,o=>o|k+1,r,o=>if(rRd es left r o).2 then rDist es left k (r+1) (rRd es left r o).1 else(rRd es left r o).1
def o0(n:Nat)(mk:List Nat)(left:Nat->Bool):List Int:=(List.range n).map fun i=>if left i&&mk.contains i then 0 else-1
def InN(n:Nat)(es:List Ed)(mk:List Nat):Prop:=(∀e∈es,e.1<n/\e.2.2<n)/\∀x∈mk,x<n
theorem Qea{l:List Int}{i j:Nat}{a:Int}(hi:i<l.length):(l.set i a).getD j 0=if j=i then a else l.getD j 0:=by grind
structure RI(n:Nat)(es:List Ed)(mk:List Nat)(left:Nat->Bool)(r:Nat)(o:List Int):Prop where
 len:o.length=n
 neg:∀x,x<n->-1<=o.getD x 0
 lt:∀x,x<n->o.getD x 0<(r:Int)zero:∀x,x<n->left x=true->x∈mk->o.getD x 0=0
 zero':∀x,x<n->o.getD x 0=0->left x=true/\x∈mk
 succ:∀x(d:Nat),x<n->o.getD x 0=(d:Int)+1->left x=true/\∃e∈es,e.1=x/\o.getD e.2.2 0=(d:Int)edge:∀e∈es,left e.1=true->∀d:Nat,d+1<r->o.getD e.2.2 0=(d:Int)->0<=o.getD e.1 0/\o.getD e.1 0<=(d:Int)+1
theorem RI.left{n:Nat}{es:List Ed}{mk:List Nat}{left:Nat->Bool}{r:Nat}{o:List Int}(h:RI n es mk left r o){x:Nat}(a:x<n)(c:0<=o.getD x 0):left x=true:=by obtain⟨k,b⟩:=Za2 c;cases k with|zero=>exact(h.zero' x a b).1|succ k=>exact(h.succ x k a (by omega)).1
theorem RI.start{n:Nat}{es:List Ed}{mk:List Nat}{left:Nat->Bool}(c:InN n es mk):RI n es mk left 1 (o0 n mk left):=by
 have g:∀x,x<n->(o0 n mk left).getD x 0=if left x&&mk.contains x then 0 else-1:=fun x a=>by simp_all[o0]
 refine⟨by simp[o0],fun x a=>?_,fun x a=>?_,fun x a b hm=>?_,fun x a h=>?_,fun x d a h=>?_,fun e he b d f=>by omega⟩;·grind
 ·grind
 ·simp_all
 ·simp_all
 grind
structure RJ(n:Nat)(es:List Ed)(mk:List Nat)(left:Nat->Bool)(r:Nat)(o:List Int)(pre:List Ed)(s:List Int×Bool):Prop where
 len:s.1.length=n
 old:∀x,x<n->0<=o.getD x 0->s.1.getD x 0=o.getD x 0
 new:∀x,x<n->o.getD x 0<0->s.1.getD x 0=o.getD x 0\/(s.1.getD x 0=(r:Int)/\s.2=true/\left x=true/\∃e∈es,e.1=x/\o.getD e.2.2 0=(r:Int)-1)done:∀e∈pre,left e.1=true->left e.2.2=true->o.getD e.2.2 0=(r:Int)-1->0<=s.1.getD e.1 0
 flag:s.2=true->∃x,x<n/\o.getD x 0<0/\0<=s.1.getD x 0
theorem RJ.step{n:Nat}{es:List Ed}{mk:List Nat}{left:Nat->Bool}{r:Nat}{o:List Int}(E:1<=r)(l:InN n es mk)(h:RI n es mk left r o){pre:List Ed}{s:List Int×Bool}(a:RJ n es mk left r o pre s){e:Ed}(he:e∈es):RJ n es mk left r o (pre++[e]) (rEd left r s e):=by
 obtain⟨hf,q⟩:=l.1 e he;have w:s.1.getD e.2.2 0=(r:Int)-1↔o.getD e.2.2 0=(r:Int)-1:=by
  by_cases g:0<=o.getD e.2.2 0;·rw[a.old _ q g]
  have y:=h.neg _ q;rcases a.new _ q (by omega)with h1|h1;·rw[h1]
  omega
 unfold rEd;split
 ·rename_i hc;simp only[Zab,decide_eq_true_eq]at hc;obtain⟨⟨⟨h1,C⟩,v⟩,z⟩:=hc;have p:o.getD e.1 0<0:=by
   by_cases g:0<=o.getD e.1 0;·rw[a.old _ hf g]at v;omega
   omega
  have b:∀x,(s.1.set e.1 (r:Int)).getD x 0=if x=e.1 then(r:Int)else s.1.getD x 0:=fun x=>Qea (by grind);refine⟨by simp[a.len],fun x t g=>?_,fun x t g=>?_,fun k d i f m=>?_,fun _=>⟨e.1,hf,p,?_⟩⟩
  ·rw[b];split;·grind
   exact a.old x t g
  ·rw[b];split;·grind
   rcases a.new x t g with c|⟨c,B,A⟩;·exact .inl c
   simp_all
  ·rw[b];split;·omega
   rename_i u;rcases ZaE.1 d with c|c;·exact a.done k c i f m
   simp_all
  simp_all
 rename_i hc;refine⟨a.len,a.old,a.new,fun k d i f m=>?_,a.flag⟩;rcases ZaE.1 d with c|c;·exact a.done k c i f m
 simp_all
theorem RJ.all{n:Nat}{es:List Ed}{mk:List Nat}{left:Nat->Bool}{r:Nat}{o:List Int}(i:1<=r)(b:InN n es mk)(h:RI n es mk left r o):RJ n es mk left r o es (rRd es left r o):=by
 have key:∀(a pre:List Ed)(s:List Int×Bool),(∀e∈a,e∈es)->RJ n es mk left r o pre s->RJ n es mk left r o (pre++a) (a.foldl (rEd left r) s):=by intro a;induction a with|nil=>intro pre s _ h;rw[Zap];exact h|cons e a f=>intro pre s c d;have:=f (pre++[e]) (rEd left r s e) (fun x g=>c x (by simp[g])) (d.step i b h (c e (by simp)));simpa[ZaP]using this
 have:=key es [] (o,false) (fun _ h=>h) ⟨h.len,fun _ _ _=>rfl,fun _ _ _=>.inl rfl,(fun e he=>by cases he),(fun h=>by cases h)⟩;simp_all[rRd]
theorem RI.next{n:Nat}{es:List Ed}{mk:List Nat}{left:Nat->Bool}{r:Nat}{o:List Int}(q:1<=r)(c:InN n es mk)(h:RI n es mk left r o):RI n es mk left (r+1) (rRd es left r o).1:=by
 have b:=RJ.all q c h;have k:∀x,x<n->0<=(rRd es left r o).1.getD x 0->0<=o.getD x 0\/(rRd es left r o).1.getD x 0=(r:Int):=fun x a g=>by
  by_cases h1:0<=o.getD x 0;·exact .inl h1
  rcases b.new x a (by omega)with f|f;·omega
  omega
 refine⟨b.len,fun x a=>?_,fun x a=>?_,fun x a i hm=>?_,fun x a g=>?_,fun x d a g=>?_,fun e he i d s g=>?_⟩
 ·by_cases h1:0<=o.getD x 0;·rw[b.old x a h1];omega
  rcases b.new x a (by omega)with f|f;·rw[f];exact h.neg x a
  omega
 ·by_cases h1:0<=o.getD x 0;·rw[b.old x a h1];have:=h.lt x a;omega
  grind
 ·have :=h.zero x a i hm;rw[b.old x a (by omega)];exact this
 ·rcases k x a (by omega)with h1|h1;·rw[b.old x a h1]at g;exact h.zero' x a g
  omega
 ·by_cases h1:0<=o.getD x 0;·rw[b.old x a h1]at g;obtain⟨i,e,he,f,l⟩:=h.succ x d a g;exact⟨i,e,he,f,by rw[b.old _ (c.1 e he).2 (by omega)];exact l⟩
  rcases b.new x a (by omega)with f|⟨f,_,i,e,he,l,m⟩;·omega
  exact⟨i,e,he,l,by rw[b.old _ (c.1 e he).2 (by omega)];omega⟩
 have hf:=(c.1 e he).1;have p:=(c.1 e he).2;rcases k _ p (by omega)with h1|h1
 ·rw[b.old _ p h1]at g;by_cases f:d+1<r;·have :=h.edge e he i d f g;rw[b.old _ hf this.1];exact this
  have l:=b.done e he i (h.left p h1) (by omega);refine⟨l,?_⟩;rcases k _ hf l with m|m;·rw[b.old _ hf m];have:=h.lt _ hf;omega
  omega
 omega
def cntN(n:Nat)(o:List Int):Nat:=(List.range n).countP fun x=>decide (o.getD x 0<0)
theorem Qo7{n:Nat}{o o':List Int}(h:∀x,x<n->0<=o.getD x 0->0<=o'.getD x 0){x:Nat}(f:x<n)(h1:o.getD x 0<0)(i:0<=o'.getD x 0):cntN n o'<cntN n o:=by
 unfold cntN;have a:x∈List.range n:=Zat.2 f;have b:∀y∈List.range n,(decide (o'.getD y 0<0))=true->decide (o.getD y 0<0)=true:=by grind
 generalize List.range n=l at a b;induction l with|nil=>cases a|cons y l g=>
  have hle:l.countP (fun x=>decide (o'.getD x 0<0))<=l.countP (fun x=>decide (o.getD x 0<0)):=List.countP_mono_left fun z d c=>b z (by simp[d]) c;rw[ZbB,ZbB];rcases Zaw.1 a with e|hm;·grind
  grind
theorem RI.dst{n:Nat}{es:List Ed}{mk:List Nat}{left:Nat->Bool}{r:Nat}{o:List Int}(c:InN n es mk)(h:RI n es mk left r o)(l:∀x,x<n->o.getD x 0+1<(r:Int)):Dst es mk left (fun x=>if x<n then o.getD x 0 else-1):=by
 refine⟨fun x=>?_,fun x f hm=>?_,fun x a=>?_,fun x d a=>?_,fun e he f d a=>?_⟩
 ·split;·rename_i b;exact h.neg x b
  omega
 ·have b:=c.2 x hm;rw[if_pos b];exact h.zero x b f hm
 ·split at a;·rename_i b;exact h.zero' x b a
  omega
 ·split at a;·rename_i b;obtain⟨f,e,he,g,k⟩:=h.succ x d b a;exact⟨f,e,he,g,by rw[if_pos (c.1 e he).2];exact k⟩
  omega
 obtain⟨hf,i⟩:=c.1 e he;rw[if_pos i]at a;rw[if_pos hf];exact h.edge e he f d (by grind) a
theorem Qo8{n:Nat}{es:List Ed}{mk:List Nat}{left:Nat->Bool}(a:InN n es mk):∀(k r:Nat)(o:List Int),1<=r->RI n es mk left r o->cntN n o<k->(rDist es left k r o).length=n/\Dst es mk left (fun x=>if x<n then(rDist es left k r o).getD x 0 else-1):=by intro k;induction k with|zero=>intro r o _ _ h;omega|succ k m=>
 intro r o i h hc;have f:=RJ.all i a h;have g:=h.next i a;have b:∀x,x<n->0<=o.getD x 0->0<=(rRd es left r o).1.getD x 0:=fun x c l=>by rw[f.old x c l];exact l
 unfold rDist;split;·rename_i hf;obtain⟨x,c,h1,d⟩:=f.flag hf;exact m (r+1) _ (by omega) g (by have:=Qo7 b c h1 d;omega)
 rename_i hf;refine⟨g.len,g.dst a fun x c=>?_⟩;have:(rRd es left r o).1.getD x 0<(r:Int):=by
  by_cases h1:0<=o.getD x 0;·rw[f.old x c h1];exact h.lt x c
  rcases f.new x c (by omega)with d|d;·rw[d];omega
  simp_all
 omega
end Go.AM.SD
namespace Go.AM.SD
def preds(es:List Ed)(v:Nat):List Nat:=(es.filter fun e=>e.2.2==v).map (·.1)
theorem Qdu{es:List Ed}{v y:Nat}:y∈preds es v↔∃e∈es,e.1=y/\e.2.2=v:=by simp only[preds,Zao,Za8,beq_iff_eq];simp_all
abbrev QS:=List Int×List Nat
def bMk(left:Nat->Bool)(s:QS)(x:Nat):QS:=if left x then(s.1.set x 0,s.2++[x])else s
def bMks(n:Nat)(mk:List Nat)(left:Nat->Bool):QS:=mk.foldl (bMk left) (List.replicate n (-1),[])
def bEd(left:Nat->Bool)(v:Nat)(s:QS)(y:Nat):QS:=if left y&&decide (s.1.getD y 0<0)then(s.1.set y (s.1.getD v 0+1),s.2++[y])else s
def bRow(es:List Ed)(left:Nat->Bool)(v:Nat)(s:QS):QS:=(preds es v).foldl (bEd left v) s
def bQ(es:List Ed)(left:Nat->Bool):Nat->Nat->QS->QS|0,_,s=>s|k+1,i,s=>match s.2[i]? with|some v=>bQ es left k (i+1) (bRow es left v s)|none=>s
def pDist(n:Nat)(es:List Ed)(mk:List Nat)(left:Nat->Bool):List Int:=(bQ es left (n+1) 0 (bMks n mk left)).1
structure BI(n:Nat)(es:List Ed)(mk:List Nat)(left:Nat->Bool)(s:QS):Prop where
 len:s.1.length=n
 cnt:cntN n s.1+s.2.length=n
 neg:∀x,x<n->-1<=s.1.getD x 0
 inl:∀x,x∈s.2↔x<n/\0<=s.1.getD x 0
 zero:∀x,x<n->left x=true->x∈mk->s.1.getD x 0=0
 zero':∀x,x<n->s.1.getD x 0=0->left x=true/\x∈mk
 succ:∀x(d:Nat),x<n->s.1.getD x 0=(d:Int)+1->left x=true/\∃e∈es,e.1=x/\s.1.getD e.2.2 0=(d:Int)mono:∀(a b x y:Nat),a<=b->s.2[a]?=some x->s.2[b]?=some y->s.1.getD x 0<=s.1.getD y 0
def Done(es:List Ed)(left:Nat->Bool)(i:Nat)(s:QS):Prop:=∀(a v:Nat),a<i->s.2[a]?=some v->∀e∈es,e.2.2=v->left e.1=true->0<=s.1.getD e.1 0/\s.1.getD e.1 0<=s.1.getD v 0+1
def Near(v:Nat)(s:QS):Prop:=∀x,x∈s.2->s.1.getD x 0<=s.1.getD v 0+1
theorem Qm8{n:Nat}{o:List Int}{y:Nat}{a:Int}(m:o.length=n)(g:y<n)(h:o.getD y 0<0)(p:0<=a):cntN n (o.set y a)+1=cntN n o:=by have d:∀x,(o.set y a).getD x 0=if x=y then a else o.getD x 0:=fun x=>Qea (by omega);unfold cntN;have c:(List.range n).Nodup:=Za0;have b:y∈List.range n:=Zat.2 g;generalize List.range n=l at c b;induction l with|nil=>cases b|cons z l i=>
 rw[Zb1]at c;rw[ZbB,ZbB,d];by_cases f:z=y
 ·subst f;rw[if_pos rfl,if_neg (by simp;omega),if_pos (by simpa using h)];have:l.countP (fun x=>decide ((o.set z a).getD x 0<0))=l.countP (fun x=>decide (o.getD x 0<0)):=by refine List.countP_congr fun x k=>?_;grind
  rw[this]
 grind
theorem Qm9{l:List Nat}{y b z:Nat}(h:(l++[y])[b]?=some z):l[b]?=some z\/(b=l.length/\z=y):=by grind
theorem BI.push{n:Nat}{es:List Ed}{mk:List Nat}{left:Nat->Bool}{s:QS}(h:BI n es mk left s){v y i:Nat}(u:InN n es mk)(G:s.2[i]?=some v)(g:Near v s){e:Ed}(he:e∈es)(I:e.1=y)(C:e.2.2=v)(E:left y=true)(m:s.1.getD y 0<0):BI n es mk left (s.1.set y (s.1.getD v 0+1),s.2++[y])/\Near v (s.1.set y (s.1.getD v 0+1),s.2++[y])/\(s.1.set y (s.1.getD v 0+1)).getD v 0=s.1.getD v 0/\(∀x,x<n->0<=s.1.getD x 0->(s.1.set y (s.1.getD v 0+1)).getD x 0=s.1.getD x 0):=by
 have t:y<n:=by have:=(u.1 e he).1;omega
 have o:=(h.inl v).1 (Zae G);have c:∀x,(s.1.set y (s.1.getD v 0+1)).getD x 0=if x=y then s.1.getD v 0+1 else s.1.getD x 0:=fun x=>Qea (by grind);have hold:∀x,x<n->0<=s.1.getD x 0->(s.1.set y (s.1.getD v 0+1)).getD x 0=s.1.getD x 0:=fun x f k=>by grind
 have p:=hold v o.1 o.2;have B:y∉s.2:=fun hm=>by have:=((h.inl y).1 hm).2;omega
 refine⟨⟨by simp[h.len],?_,fun x f=>?_,fun x=>?_,fun x f A hm=>?_,fun x f k=>?_,fun x d f k=>?_,fun a b x z r f H=>?_⟩,fun x f=>?_,p,hold⟩;·have h1:=Qm8 h.len t m (a:=s.1.getD v 0+1) (by omega);have q:=h.cnt;grind
 ·rw[c];split;·omega
  exact h.neg x f
 ·rw[c,ZaE,Zbi];by_cases f:x=y;·omega
  rw[if_neg f,h.inl x];simp[f]
 ·have :=h.zero x f A hm;grind
 ·rw[c]at k;split at k;·omega
  exact h.zero' x f k
 ·rw[c]at k;split at k;·grind
  obtain⟨A,K,F,q,J⟩:=h.succ x d f k;grind
 ·rcases Qm9 f with h1|⟨h1,rfl⟩<;>rcases Qm9 H with q|⟨q,rfl⟩;·have l:=(h.inl x).1 (Zae h1);have w:=(h.inl z).1 (Zae q);rw[hold x l.1 l.2,hold z w.1 w.2];exact h.mono a b x z r h1 q
  ·have l:=(h.inl x).1 (Zae h1);rw[hold x l.1 l.2,c,if_pos rfl];exact g x (Zae h1)
  ·grind
  omega
 rw[p];rcases ZaE.1 f with h1|h1;·have l:=(h.inl x).1 h1;rw[hold x l.1 l.2];exact g x h1
 simp_all
theorem Done.push{n:Nat}{es:List Ed}{mk:List Nat}{left:Nat->Bool}{s:QS}(h:BI n es mk left s){y i:Nat}{o':List Int}(c:InN n es mk)(hi:i<=s.2.length)(k:Done es left i s)(hold:∀x,x<n->0<=s.1.getD x 0->o'.getD x 0=s.1.getD x 0):Done es left i (o',s.2++[y]):=by
 intro a v l m e he f g;have b:s.2[a]?=some v:=by grind
 have:=k a v l b e he f g;have d:=(h.inl v).1 (Zae b);show 0<=o'.getD e.1 0/\o'.getD e.1 0<=o'.getD v 0+1;rw[hold _ (c.1 e he).1 this.1,hold v d.1 d.2];exact this
theorem BI.row{n:Nat}{es:List Ed}{mk:List Nat}{left:Nat->Bool}(a:InN n es mk){v i:Nat}:∀(ys:List Nat)(s:QS),(∀y∈ys,∃e∈es,e.1=y/\e.2.2=v)->BI n es mk left s->s.2[i]?=some v->Near v s->Done es left i s->BI n es mk left (ys.foldl (bEd left v) s)/\(ys.foldl (bEd left v) s).2[i]?=some v/\Near v (ys.foldl (bEd left v) s)/\Done es left i (ys.foldl (bEd left v) s)/\(∀x,x<n->0<=s.1.getD x 0->(ys.foldl (bEd left v) s).1.getD x 0=s.1.getD x 0)/\∀y∈ys,left y=true->0<=(ys.foldl (bEd left v) s).1.getD y 0:=by intro ys;induction ys with|nil=>intro s _ h b m l;exact⟨h,b,m,l,fun _ _ _=>rfl,fun y k=>by cases k⟩|cons y ys F=>
 intro s c h b m l;obtain⟨e,he,k,f⟩:=c y (by simp);have E:y<n:=by have:=(a.1 e he).1;omega
 rw[ZaH];by_cases hc:(left y&&decide (s.1.getD y 0<0))=true
 ·have p:bEd left v s y=(s.1.set y (s.1.getD v 0+1),s.2++[y]):=if_pos hc;simp only[Zab,decide_eq_true_eq]at hc;obtain⟨h1,r,L,C⟩:=h.push a b m he k f hc.1 hc.2;have A:i<s.2.length:=(Zam.1 b).1;have o:=Done.push (y:=y) h a (by omega) l C;have g:(s.2++[y])[i]?=some v:=by grind
  rw[p];obtain⟨w,B,t,u,K,I⟩:=F _ (fun z d=>c z (by simp[d])) h1 g r o;refine⟨w,B,t,u,fun x M H=>?_,fun z d J=>?_⟩;·simp_all
  rcases Zaw.1 d with rfl|d
  ·have q:(s.1.set z (s.1.getD v 0+1)).getD z 0=s.1.getD v 0+1:=by rw[Qea (by grind),if_pos rfl]
   have G:=(h.inl v).1 (Zae b);grind
  simp_all
 have p:bEd left v s y=s:=if_neg hc;simp_all
structure BH(n:Nat)(es:List Ed)(mk:List Nat)(left:Nat->Bool)(i:Nat)(s:QS):Prop where
 bi:BI n es mk left s
 done:Done es left i s
 near:∀v,s.2[i]?=some v->Near v s
 le:i<=s.2.length
theorem BH.step{n:Nat}{es:List Ed}{mk:List Nat}{left:Nat->Bool}(b:InN n es mk){i v:Nat}{s:QS}(h:BH n es mk left i s)(m:s.2[i]?=some v):BH n es mk left (i+1) (bRow es left v s):=by
 obtain⟨g,f,o,t,C,r⟩:=BI.row b (preds es v) s (fun y w=>Qdu.1 w) h.bi m (h.near v m) h.done;have z:i<(bRow es left v s).2.length:=(Zam.1 f).1;refine⟨g,fun a u B c e he d q=>?_,fun u c x A=>?_,by omega⟩
 ·by_cases k:a<i;·exact t a u k c e he d q
  have :a=i:=by omega
  subst this;have l:u=v:=Option.some.inj (c.symm.trans f);subst l;have p:=r e.1 (Qdu.2 ⟨e,he,rfl,d⟩) q;exact⟨p,o e.1 ((g.inl _).2 ⟨(b.1 e he).1,p⟩)⟩
 have h1:=o x A;have d:=g.mono i (i+1) v u (by omega) f c;grind[bRow]
theorem BH.dst{n:Nat}{es:List Ed}{mk:List Nat}{left:Nat->Bool}(c:InN n es mk){i:Nat}{s:QS}(h:BH n es mk left i s)(hi:s.2[i]?=none):Dst es mk left (fun x=>if x<n then s.1.getD x 0 else-1):=by
 have p:s.2.length<=i:=List.getElem?_eq_none_iff.1 hi;refine⟨fun x=>?_,fun x g hm=>?_,fun x f=>?_,fun x d f=>?_,fun e he g d f=>?_⟩
 ·split;·rename_i b;exact h.bi.neg x b
  omega
 ·have b:=c.2 x hm;rw[if_pos b];exact h.bi.zero x b g hm
 ·split at f;·rename_i b;exact h.bi.zero' x b f
  omega
 ·split at f;·rename_i b;obtain⟨g,e,he,m,o⟩:=h.bi.succ x d b f;exact⟨g,e,he,m,by rw[if_pos (c.1 e he).2];exact o⟩
  omega
 obtain⟨hf,l⟩:=c.1 e he;rw[if_pos l]at f;rw[if_pos hf];have hm:e.2.2∈s.2:=(h.bi.inl _).2 ⟨l,by omega⟩;obtain⟨a,k⟩:=List.getElem?_of_mem hm;have q:a<s.2.length:=(Zam.1 k).1;have:=h.done a e.2.2 (by omega) k e he rfl g;omega
theorem QfU{n:Nat}{es:List Ed}{mk:List Nat}{left:Nat->Bool}(a:InN n es mk):∀(k i:Nat)(s:QS),BH n es mk left i s->n<k+i->(bQ es left k i s).1.length=n/\Dst es mk left (fun x=>if x<n then(bQ es left k i s).1.getD x 0 else-1):=by intro k;induction k with|zero=>intro i s h c;have:=h.bi.cnt;have:=h.le;omega|succ k d=>intro i s h c;unfold bQ;cases b:s.2[i]? with|some v=>exact d (i+1) _ (h.step a b) (by omega)|none=>exact⟨h.bi.len,h.dst a b⟩
theorem QrJ(n:Nat):cntN n (List.replicate n (-1))=n:=by grind[cntN,List.countP_eq_length]
theorem QdM{n:Nat}{es:List Ed}{mk:List Nat}{left:Nat->Bool}(l:InN n es mk)(f:mk.Nodup):BH n es mk left 0 (bMks n mk left):=by
 have key:∀(ms pre:List Nat)(s:QS),(pre++ms).Nodup->(∀x∈pre++ms,x<n)->s.1.length=n->cntN n s.1+s.2.length=n->(∀x,x<n->s.1.getD x 0=if left x&&pre.contains x then 0 else-1)->(∀x,x∈s.2↔left x=true/\x∈pre)->(ms.foldl (bMk left) s).1.length=n/\cntN n (ms.foldl (bMk left) s).1+(ms.foldl (bMk left) s).2.length=n/\(∀x,x<n->(ms.foldl (bMk left) s).1.getD x 0=if left x&&(pre++ms).contains x then 0 else-1)/\(∀x,x∈(ms.foldl (bMk left) s).2↔left x=true/\x∈pre++ms):=by intro ms;induction ms with|nil=>intro pre s _ _ h1 o k i;rw[Zap];exact⟨h1,o,k,i⟩|cons m ms u=>
  intro pre s f g h1 o k i;have r:m<n:=g m (by simp);have B:m∉pre:=fun hm=>by grind
  have e:pre++m::ms=(pre++[m])++ms:=by simp
  rw[e]at f g⊢;rw[ZaH];have A:s.1.getD m 0=-1:=by grind
  by_cases q:left m=true
  ·have p:bMk left s m=(s.1.set m 0,s.2++[m]):=if_pos q;rw[p];refine u (pre++[m]) _ f g (by simp[h1]) ?_ (fun x c=>?_) fun x=>?_;·have :=Qm8 h1 r (by omega) (a:=0) (by omega);grind
   ·show(s.1.set m 0).getD x 0=_;rw[Qea (by omega)];by_cases h:x=m;·grind
    rw[if_neg h,k x c];simp[h]
   show x∈s.2++[m]↔_;rw[ZaE,ZaE,i,Zbi];constructor
   ·rintro(F|rfl);·grind
    grind
   grind
  have p:bMk left s m=s:=if_neg q;rw[p];refine u (pre++[m]) _ f g h1 o (fun x c=>?_) fun x=>?_
  ·rw[k x c];by_cases h:x=m;·grind
   simp[h]
  rw[ZaE,i,Zbi];constructor;·grind
  grind
 obtain⟨h1,o,k,i⟩:=key mk [] (List.replicate n (-1),[]) (by simpa using f) (by simpa using l.2) (by simp) (by rw[QrJ];rfl) (fun x c=>by simp_all) (fun x=>by simp);rw[ZaR]at k i;have G:∀x,x<n->(bMks n mk left).1.getD x 0=0\/(bMks n mk left).1.getD x 0=-1:=fun x c=>by grind[bMks]
 have t:∀x,x∈(bMks n mk left).2->(bMks n mk left).1.getD x 0=0:=fun x c=>by grind[bMks]
 refine⟨⟨h1,o,fun x c=>?_,fun x=>?_,fun x c q hm=>?_,fun x c w=>?_,fun x d c w=>?_,fun a b x y _ z E=>?_⟩,fun a v z=>by omega,fun v C x c=>?_,Zaj _⟩;·grind
 ·constructor;·intro c;exact⟨l.2 x ((i x).1 c).2,by simp_all⟩
  grind[bMks]
 ·simp_all[bMks]
 ·simp_all[bMks]
 ·grind
 ·grind
 grind
theorem QqE{n:Nat}{es:List Ed}{mk:List Nat}{left:Nat->Bool}(a:InN n es mk)(b:mk.Nodup){k:Nat}(f:n<k):pDist n es mk left=rDist es left k 1 (o0 n mk left):=by
 obtain⟨h1,c⟩:=QfU a (n+1) 0 _ (QdM (left:=left) a b) (by omega);have hc:cntN n (o0 n mk left)<k:=by grind[cntN,List.countP_le_length]
 obtain⟨g,d⟩:=Qo8 a k 1 _ (by omega) (RI.start (left:=left) a) hc;refine Zbo fun i=>?_;by_cases hi:i<n;·have :=c.uniq d i;simp_all[pDist]
 simp_all[pDist]
end Go.AM.SD
namespace Go.AM.SD
def bad(left:Nat->Bool)(unc:List Nat)(e:Ed):Bool:=left e.1&&!left e.2.2&&unc.contains e.2.1
def pLs(left:Nat->Bool)(unc:List Nat)(out:List (Nat×Nat))(e:Ed):List (Nat×Nat):=if bad left unc e then(if(match out.getLast? with|some p=>p.1==e.1|none=>false)then out else out++[(e.1,e.2.1)])else out
def pLost(es:List Ed)(left:Nat->Bool)(unc:List Nat):List (Nat×Nat):=es.foldl (pLs left unc) []
def rL1(es:List Ed)(left:Nat->Bool)(unc:List Nat)(st:Nat):Option (Nat×Nat):=if left st then(es.find? fun e=>e.1==st&&!left e.2.2&&unc.contains e.2.1).map fun e=>(st,e.2.1)else none
def rLost(n:Nat)(es:List Ed)(left:Nat->Bool)(unc:List Nat):List (Nat×Nat):=(List.range n).filterMap (rL1 es left unc)
theorem Qo9{l c:List (Nat×Nat)}(h:l.Pairwise fun a b=>a.1<b.1)(h':c.Pairwise fun a b=>a.1<b.1)(hm:∀p,p∈l↔p∈c):l=c:=by induction l generalizing c with
 |nil=>cases c with|nil=>rfl|cons p c=>exact absurd ((hm p).2 (by simp)) (by simp)
 |cons p l d=>cases c with|nil=>exact absurd ((hm p).1 (by simp)) (by simp)|cons q c=>
  rw[Zav]at h h';have e:p=q:=by grind
  subst e;rw[d h.2 h'.2 fun r=>?_];constructor;·grind
  grind
theorem QfV(n:Nat)(es:List Ed)(left:Nat->Bool)(unc:List Nat):(rLost n es left unc).Pairwise fun a b=>a.1<b.1:=by
 unfold rLost;refine List.Pairwise.filterMap _ (R:=(·<·)) ?_ ZbP;intro a b c p hp q d;have h1:∀(st:Nat)(p:Nat×Nat),rL1 es left unc st=some p->p.1=st:=by simp_all[rL1]
 grind
theorem QfW{n:Nat}{es:List Ed}{left:Nat->Bool}{unc:List Nat}{p:Nat×Nat}:p∈rLost n es left unc↔p.1<n/\rL1 es left unc p.1=some p:=by
 unfold rLost;rw[ZbF];have h1:∀(st:Nat)(p:Nat×Nat),rL1 es left unc st=some p->p.1=st:=by simp_all[rL1]
 grind
theorem QiH{pre:List Ed}{e:Ed}{left:Nat->Bool}{unc:List Nat}(st:Nat):rL1 (pre++[e]) left unc st=match rL1 pre left unc st with|some p=>some p|none=>if e.1==st&&bad left unc e then some (st,e.2.1)else none:=by grind[rL1,bad]
theorem Qpa{left:Nat->Bool}{unc:List Nat}:∀(es2 pre:List Ed)(out:List (Nat×Nat)),(pre++es2).Pairwise (fun a b=>a.1<=b.1)->out.Pairwise (fun a b=>a.1<b.1)->(∀p,p∈out↔rL1 pre left unc p.1=some p)->(∀p∈out,∃e∈pre,e.1=p.1)->(es2.foldl (pLs left unc) out).Pairwise (fun a b=>a.1<b.1)/\∀p,p∈es2.foldl (pLs left unc) out↔rL1 (pre++es2) left unc p.1=some p:=by intro es2;induction es2 with|nil=>intro pre out _ h1 h2 _;rw[Zap];exact⟨h1,h2⟩|cons e es2 ih=>
 intro pre out hs h1 h2 h3;have ea:pre++e::es2=(pre++[e])++es2:=by simp
 rw[ea]at hs⊢;rw[ZaH];have hge:∀p∈out,p.1<=e.1:=fun p hp=>by obtain⟨x,hx,hxe⟩:=h3 p hp;rw[Zba]at hs;have:=(Zba.1 hs.1).2.2 x hx e (by simp);omega
 by_cases hb:bad left unc e=true
 ·by_cases hlast:(match out.getLast? with|some p=>p.1==e.1|none=>false)=true
  ·have e1:pLs left unc out e=out:=by grind[pLs]
   rw[e1];refine ih (pre++[e]) out hs h1 (fun p=>?_) fun p hp=>?_;·rw[QiH];cases hr:rL1 pre left unc p.1 with|some q=>rw[h2 p,hr]|none=>
    have hnp:¬p∈out:=fun hp=>by grind
    have hne:(e.1==p.1)=false:=by grind
    simp only[hne,Bool.false_and,Zan,if_false];exact⟨fun hp=>absurd hp hnp,fun h=>by cases h⟩
   obtain⟨x,hx,hxe⟩:=h3 p hp;grind
  have e1:pLs left unc out e=out++[(e.1,e.2.1)]:=by grind[pLs]
  have hlt:∀p∈out,p.1<e.1:=by intro p hp;cases hg:out.getLast? with|none=>rw[List.getLast?_eq_none_iff]at hg;subst hg;cases hp|some q=>
   rw[hg]at hlast;have hqe:q.1≠e.1:=by grind
   have hq:q∈out:=List.mem_of_getLast? hg;have hqle:=hge q hq;obtain⟨init,hi⟩:∃init,out=init++[q]:=by grind[List.getLast?_eq_some_iff]
   rw[hi]at hp h1;rcases ZaE.1 hp with hp|hp;·grind
   grind
  rw[e1];refine ih (pre++[e]) _ hs (Zba.2 ⟨h1,by simp,fun p hp q hq=>by grind⟩) (fun p=>?_) fun p hp=>?_
  ·rw[QiH,ZaE,Zbi]
   cases hr:rL1 pre left unc p.1 with|some q=>
    have hq1:p.1=q.1:=by
     unfold rL1 at hr;split at hr;·cases hf:pre.find? fun e=>e.1==p.1&&!left e.2.2&&unc.contains e.2.1 with|none=>rw[hf]at hr;cases hr|some e=>rw[hf]at hr;cases hr;rfl
     cases hr
    have hqm:q∈out:=(h2 q).2 (by grind);have hne:p≠(e.1,e.2.1):=by grind
    simp only[hne,or_false];rw[h2 p,hr]|none=>
    have hnp:¬p∈out:=fun hp=>by grind
    simp only[hnp,false_or];by_cases hep:e.1=p.1;·grind
    grind
  rcases ZaE.1 hp with hp|hp;·obtain⟨x,hx,hxe⟩:=h3 p hp;grind
  grind
 have e1:pLs left unc out e=out:=by grind[pLs]
 rw[e1];refine ih (pre++[e]) out hs h1 (fun p=>?_) fun p hp=>?_;·rw[QiH];grind
 obtain⟨x,hx,hxe⟩:=h3 p hp;grind
theorem Qlk{n:Nat}{es:List Ed}{left:Nat->Bool}{unc:List Nat}(i:es.Pairwise fun a b=>a.1<=b.1)(d:∀e∈es,e.1<n):pLost es left unc=rLost n es left unc:=by
 obtain⟨h1,c⟩:=Qpa (left:=left) (unc:=unc) es [] [] (by simpa using i) List.Pairwise.nil (fun p=>by simp[rL1]) (fun p hp=>by cases hp);rw[ZaR]at c;refine Qo9 h1 (QfV n es left unc) fun p=>?_;rw[QfW];refine(c p).trans ⟨fun h=>⟨?_,h⟩,fun h=>h.2⟩;unfold rL1 at h;split at h;·cases hf:es.find? fun e=>e.1==p.1&&!left e.2.2&&unc.contains e.2.1 with|none=>rw[hf]at h;cases h|some e=>have g:=Zbn hf;have f:=List.find?_some hf;simp only[Zab,beq_iff_eq]at f;have:=d e g;omega
 cases h
structure Rm where
 st:Nat
 rank:Int
 reason:Nat
 ev:Int deriving DecidableEq
def lostF(rank:Int)(l:List (Nat×Nat)):List Rm:=l.map fun p=>⟨p.1,rank,2,(p.2:Int)⟩
def blkF(left:Nat->Bool)(rank:Int)(d:List Int):List Rm:=(List.range d.length).filterMap fun i=>if left i&&decide (d.getD i 0<0)then some ⟨i,rank,3,-1⟩else none
def pNext(n:Nat)(es:List Ed)(mk:List Nat)(left:Nat->Bool)(unc:List Nat)(rank:Int)(all:Bool):List Rm:=if decide (0<(pLost es left unc).length)||!all then lostF rank (pLost es left unc)else blkF left rank (pDist n es mk left)
end Go.AM.SD
namespace Go.AM.SD
abbrev LB:=List Bool
def lf(l:LB):Nat->Bool:=fun i=>l.getD i false
def offs(l:LB)(xs:List Nat):LB:=xs.foldl (fun l x=>l.set x false) l
def pRounds(n:Nat)(es:List Ed)(mk:List Nat)(unc:List Nat)(all:Bool):Nat->Nat->LB->List Rm->Nat->LB×List Rm×Nat|0,_,l,rs,k=>(l,rs,k)|f+1,a,l,rs,k=>if(pNext n es mk (lf l) unc a all).length=0 then(l,rs,k)else pRounds n es mk unc all f (a+1) (offs l ((pNext n es mk (lf l) unc a all).map (·.st))) (rs++pNext n es mk (lf l) unc a all) a
def putR(rs:List Rm)(l:List Rm):List Rm:=l.foldl (fun rs x=>rs.set x.st x) rs
def rm0(i:Nat):Rm:=⟨i,1,1,-1⟩
theorem Qhv(xs:List Nat):∀l:LB,(offs l xs).length=l.length:=by induction xs with|nil=>intro l;rfl|cons x xs a=>intro l;show(offs (l.set x false) xs).length=_;rw[a];simp
theorem Qc8(xs:List Nat):∀(l:LB)(i:Nat),lf (offs l xs) i=(lf l i&&!xs.contains i):=by induction xs with|nil=>intro l i;simp[offs,lf]|cons x xs a=>
 intro l i;show lf (offs (l.set x false) xs) i=_;rw[a];have:lf (l.set x false) i=(lf l i&&!(i==x)):=by grind[lf]
 rw[this,List.contains_cons];cases lf l i<;>cases(i==x)<;>cases xs.contains i<;>rfl
theorem Qll{n:Nat}{es:List Ed}{mk:List Nat}{left:Nat->Bool}{unc:List Nat}{rank:Int}{all:Bool}(c:InN n es mk)(d:mk.Nodup)(h:es.Pairwise fun a b=>a.1<=b.1):(pNext n es mk left unc rank all).Pairwise (fun a b=>a.st<b.st)/\∀r∈pNext n es mk left unc rank all,r.st<n/\left r.st=true:=by
 have f:(pDist n es mk left).length=n:=(QfU c (n+1) 0 _ (QdM (left:=left) c d) (by omega)).1;unfold pNext;split
 ·unfold lostF;rw[Qlk h fun e he=>(c.1 e he).1];constructor;·simp_all[Zbx,QfV]
  intro r g;obtain⟨p,hp,rfl⟩:=Zao.1 g;simp_all[QfW,rL1]
 unfold blkF;rw[f];constructor;·grind[ZbP]
 grind
def cntL(n:Nat)(l:LB):Nat:=(List.range n).countP fun i=>lf l i
theorem Qna{n:Nat}{l c:LB}(h:∀i,i<n->lf c i=true->lf l i=true){x:Nat}(g:x<n)(h1:lf l x=true)(o:lf c x=false):cntL n c<cntL n l:=by unfold cntL;have a:x∈List.range n:=Zat.2 g;have b:∀y∈List.range n,lf c y=true->lf l y=true:=fun y f=>h y (Zat.1 f);generalize List.range n=L at a b;induction L with|nil=>cases a|cons y L m=>
 have hle:L.countP (fun x=>lf c x)<=L.countP (fun x=>lf l x):=List.countP_mono_left fun z k d=>b z (by simp[k]) d;rw[ZbB,ZbB];rcases Zaw.1 a with e|hm;·grind
 grind
theorem Qek{xs:List Nat}{r:Nat}(h:r∈xs):xs.contains r=true:=by simpa using h
structure Agr(n:Nat)(l:LB)(rs rr:List Rm):Prop where
 len:rr.length=n
 st:∀(i:Nat)(r:Rm),rr[i]?=some r->r.st=i
 nd:(rs.map (·.st)).Nodup
 mem:∀r:Rm,r∈rs↔r.st<n/\lf l r.st=false/\rr[r.st]?=some r
theorem QqF(l:List Rm):∀rs,(putR rs l).length=rs.length:=by induction l with|nil=>intro rs;rfl|cons x l a=>intro rs;show(putR (rs.set x.st x) l).length=_;rw[a];simp
theorem QqG:∀(l:List Rm)(rs:List Rm)(i:Nat),(∀r∈l,r.st<rs.length)->l.Pairwise (fun a b=>a.st<b.st)->(putR rs l)[i]?=match l.find? (fun r=>r.st==i)with|some r=>some r|none=>rs[i]?:=by intro l;induction l with|nil=>intro rs i _ _;rfl|cons x l f=>
 intro rs i c hp;rw[Zav]at hp;show(putR (rs.set x.st x) l)[i]?=_;rw[f _ i (fun r g=>by simp_all) hp.2];have d:=c x (by simp);by_cases e:x.st=i;·grind
 simp_all
theorem Agr.step{n:Nat}{l:LB}{rs rr d:List Rm}(h:Agr n l rs rr)(z:l.length=n)(hp:d.Pairwise fun a b=>a.st<b.st)(hm:∀r∈d,r.st<n/\lf l r.st=true):Agr n (offs l (d.map (·.st))) (rs++d) (putR rr d):=by
 have m:=fun i=>QqG d rr i (fun r c=>by rw[h.len];simp_all) hp;have g:∀r∈d,d.find? (fun q=>q.st==r.st)=some r:=by intro r c;cases hf:d.find? (fun q=>q.st==r.st)with|none=>rw[ZbR]at hf;exact absurd (hf r c) (by simp)|some q=>
  have o:=Zbn hf;have x:q.st=r.st:=by grind
  have:q=r:=by clear hf m;induction d with|nil=>cases c|cons y d A=>
   rw[Zav]at hp;rcases Zaw.1 c with e|p<;>rcases Zaw.1 o with v|u;·rw[e,v]
   ·grind
   ·grind
   simp_all
  rw[this]
 refine⟨by rw[QqF,h.len],fun i r c=>?_,?_,fun r=>?_⟩;·rw[m]at c;cases hf:d.find? (fun q=>q.st==i)with|some q=>rw[hf]at c;cases c;simpa using List.find?_some hf|none=>rw[hf]at c;exact h.st i r c
 ·rw[ZaN,List.nodup_append];refine⟨h.nd,?_,fun a w b s e=>?_⟩;·rw[ZaL,Zbx];exact hp.imp fun h=>by omega
  subst e;obtain⟨r,c,rfl⟩:=Zao.1 w;obtain⟨q,o,t⟩:=Zao.1 s;have h1:=((h.mem r).1 c).2.1;grind
 rw[ZaE,Qc8,m];constructor
 ·rintro(c|c);·obtain⟨h1,k,f⟩:=(h.mem r).1 c;grind
  grind
 rintro⟨h1,k,f⟩;cases hf:d.find? (fun q=>q.st==r.st)with|some q=>rw[hf]at f;cases f;exact .inr (Zbn hf)|none=>
  rw[hf]at f;refine .inl ((h.mem r).2 ⟨h1,?_,f⟩);have:(d.map (·.st)).contains r.st=false:=by simp_all
  rw[this]at k;simpa using k
end Go.AM.SD
namespace Go.AM.SD
structure Rgt(n:Nat)(es:List Ed)(mk:List Nat)(forb unc:List Nat)(S:Nat->Bool):Prop where
 lt:∀x,S x=true->x<n
 forb:∀x,S x=true->x∉forb
 ctl:∀e∈es,S e.1=true->e.2.1∈unc->S e.2.2=true
 nb:∀x,S x=true->∃d,Rch es mk S d x
theorem Rch.sub{es:List Ed}{mk:List Nat}{S T:Nat->Bool}(h:∀x,S x=true->T x=true):∀{d x:Nat},Rch es mk S d x->Rch es mk T d x
 |0,x,a=>⟨h x a.1,a.2⟩|d+1,x,a=>by
  rcases a with a|⟨b,e,he,h1,c⟩;·exact .inl (Rch.sub h a)
  exact .inr ⟨h x b,e,he,h1,Rch.sub h c⟩
theorem QjB{n:Nat}{es:List Ed}{mk:List Nat}{left:Nat->Bool}(a:InN n es mk)(c:mk.Nodup){x:Nat}(i:x<n):0<=(pDist n es mk left).getD x 0↔∃d,Rch es mk left d x:=by
 obtain⟨h1,b⟩:=QfU a (n+1) 0 _ (QdM (left:=left) a c) (by omega);have b:Dst es mk left (fun x=>if x<n then(pDist n es mk left).getD x 0 else-1):=b;constructor;·intro h;obtain⟨k,g⟩:=Za2 h;exact⟨k,(b.rch k x).2 (by omega)⟩
 rintro⟨d,f⟩;have:=(b.rch d x).1 f;omega
theorem Qpb{n:Nat}{es:List Ed}{left:Nat->Bool}{unc:List Nat}(i:es.Pairwise fun a b=>a.1<=b.1)(g:∀e∈es,e.1<n)(h:pLost es left unc=[]):∀e∈es,left e.1=true->e.2.1∈unc->left e.2.2=true:=by intro e he f k;rw[Qlk i g]at h;cases c:left e.2.2 with|true=>rfl|false=>
 exfalso;have hex:∃p,rL1 es left unc e.1=some p/\p.1=e.1:=by unfold rL1;rw[if_pos f];cases hf:es.find? fun x=>x.1==e.1&&!left x.2.2&&unc.contains x.2.1 with|none=>rw[ZbR]at hf;have:=hf e he;simp[c,k]at this|some x=>exact⟨_,rfl,rfl⟩
 obtain⟨p,hp,d⟩:=hex;have:p∈rLost n es left unc:=QfW.2 ⟨by grind,by simp_all⟩;rw[h]at this;cases this
theorem Qn5{n:Nat}{es:List Ed}{mk:List Nat}{unc:List Nat}{all:Bool}(d:InN n es mk)(g:mk.Nodup)(q:es.Pairwise fun a b=>a.1<=b.1):∀(f rank:Nat)(l:LB)(rs:List Rm)(k:Nat),cntL n l<f->(∀x,lf (pRounds n es mk unc all f rank l rs k).1 x=true->lf l x=true)/\∃c:Nat,pNext n es mk (lf (pRounds n es mk unc all f rank l rs k).1) unc c all=[]:=by intro f;induction f with|zero=>intro rank l rs k h;omega|succ f s=>
 intro rank l rs k h;unfold pRounds;split;·grind
 rename_i o;obtain⟨r,m⟩:∃r,r∈pNext n es mk (lf l) unc rank all:=by cases hp:pNext n es mk (lf l) unc rank all with|nil=>rw[hp]at o;exact absurd rfl o|cons r _=>exact⟨r,by simp⟩
 obtain⟨h1,p⟩:=(Qll (left:=lf l) (unc:=unc) (rank:=rank) (all:=all) d g q).2 r m;have v:cntL n (offs l ((pNext n es mk (lf l) unc rank all).map (·.st)))<cntL n l:=by
  refine Qna (fun i _ hi=>?_) h1 p ?_;·simp_all[Qc8]
  rw[Qc8,Qek (Zao.2 ⟨r,m,rfl⟩)];simp
 obtain⟨u,t⟩:=s (rank+1) (offs l ((pNext n es mk (lf l) unc rank all).map (·.st))) (rs++pNext n es mk (lf l) unc rank all) rank (by omega);simp_all[Qc8]
def left0(n:Nat)(forb:List Nat):LB:=offs (List.replicate n true) forb
theorem Qhw{n:Nat}{forb:List Nat}{x:Nat}:lf (left0 n forb) x=true↔x<n/\x∉forb:=by grind[left0,Qc8,lf]
def fin(n:Nat)(es:List Ed)(mk:List Nat)(forb unc:List Nat)(all:Bool):LB×List Rm×Nat:=pRounds n es mk unc all (n+1) 2 (left0 n forb) (forb.map rm0) (if forb.length=0 then 0 else 1)
theorem Qnb{n:Nat}{es:List Ed}{mk:List Nat}{forb unc:List Nat}(c:InN n es mk)(g:mk.Nodup)(o:es.Pairwise fun a b=>a.1<=b.1):Rgt n es mk forb unc (lf (fin n es mk forb unc true).1):=by
 have hc:cntL n (left0 n forb)<n+1:=by grind[cntL,Zby]
 obtain⟨h1,d,i⟩:=Qn5 (unc:=unc) (all:=true) c g o (n+1) 2 (left0 n forb) (forb.map rm0) (if forb.length=0 then 0 else 1) hc;have hf:=fun x f=>Qhw.1 (h1 x f);replace i:pNext n es mk (lf (fin n es mk forb unc true).1) unc d true=[]:=i;have h:pLost es (lf (fin n es mk forb unc true).1) unc=[]:=by cases hp:pLost es (lf (fin n es mk forb unc true).1) unc with|nil=>rfl|cons p l=>unfold pNext at i;rw[hp]at i;simp[lostF]at i
 have m:blkF (lf (fin n es mk forb unc true).1) d (pDist n es mk (lf (fin n es mk forb unc true).1))=[]:=by simp_all[pNext]
 refine⟨fun x f=>(hf x f).1,fun x f=>(hf x f).2,fun e he=>Qpb o (fun e he=>(c.1 e he).1) h e he,fun x f=>?_⟩;have k:=(hf x f).1;refine(QjB c g k).1 ?_;have q:(pDist n es mk (lf (fin n es mk forb unc true).1)).length=n:=(QfU c (n+1) 0 _ (QdM c g) (by omega)).1;simp_all[blkF]
end Go.AM.SD
namespace Go.AM.SD
structure Aut where
 al:List Nat
 n:Nat
 ms:List Nat
 es:List Ed
structure WfA(a:Aut):Prop where
 al:a.al.Pairwise (·<·)al5:∀x∈a.al,x<32
 n5:a.n<=4096
 ms:a.ms.Pairwise (·<·)msn:∀x∈a.ms,x<a.n
 es:a.es.Pairwise fun x y=>x.1<y.1\/(x.1=y.1/\x.2.1<y.2.1)esn:∀e∈a.es,e.1<a.n/\e.2.2<a.n
 ev:∀e∈a.es,e.2.1∈a.al
theorem WfA.inN{a:Aut}(h:WfA a):InN a.n a.es a.ms:=⟨h.esn,h.msn⟩
theorem WfA.nd{a:Aut}(h:WfA a):a.ms.Nodup:=by rw[ZaL];exact h.ms.imp fun h=>by omega
theorem WfA.srt{a:Aut}(h:WfA a):a.es.Pairwise fun x y=>x.1<=y.1:=h.es.imp fun h=>by omega
def stepA(es:List Ed)(s ev:Nat):Option Nat:=(es.find? fun e=>e.1==s&&e.2.1==ev).map (·.2.2)
def fEv(es:List Ed)(s:Nat)(out:List Nat)(ev:Nat):List Nat:=match stepA es s ev with|some to=>if out.contains to then out else out++[to]|none=>out
def fRow(al:List Nat)(es:List Ed)(s:Nat)(out:List Nat):List Nat:=al.foldl (fEv es s) out
def fQ(al:List Nat)(es:List Ed):Nat->Nat->List Nat->List Nat|0,_,out=>out|k+1,i,out=>match out[i]? with|some s=>fQ al es k (i+1) (fRow al es s out)|none=>out
def found(a:Aut):List Nat:=fQ a.al a.es (a.n+1) 0 (if 0<a.n then[0]else[])
def idx(l:List Nat)(x:Nat):Nat:=l.findIdx (·==x)
def cRow(a:Aut)(f:List Nat)(i s:Nat):List Ed:=a.al.filterMap fun ev=>(stepA a.es s ev).map fun to=>(i,ev,idx f to)
def cRows(a:Aut)(f:List Nat):List Ed:=(List.range f.length).flatMap fun i=>cRow a f i (f.getD i 0)
def canon(a:Aut):Aut:=⟨a.al,(found a).length,(List.range (found a).length).filter fun i=>a.ms.contains ((found a).getD i 0),cRows a (found a)⟩
theorem Qeb{n:Nat}{es:List Ed}(a:∀e∈es,e.1<n/\e.2.2<n){s ev to:Nat}(h:stepA es s ev=some to):to<n:=by unfold stepA at h;cases hf:es.find? fun e=>e.1==s&&e.2.1==ev with|none=>rw[hf]at h;cases h|some e=>rw[hf]at h;cases h;exact(a e (Zbn hf)).2
structure FI(n:Nat)(out:List Nat):Prop where
 nd:out.Nodup
 lt:∀x∈out,x<n
theorem QaT:∀(n:Nat)(l:List Nat),l.Nodup->(∀x∈l,x<n)->l.length<=n
 |0,l,_,h=>by cases l with|nil=>exact ZaJ _|cons x l=>have:=h x (by simp);omega
 |n+1,l,a,h=>by
  by_cases hm:n∈l
  ·have h1:=QaT n (l.erase n) (a.erase n) fun x b=>by grind
   simp_all
  have :=QaT n l a fun x b=>by grind
  omega
theorem FI.len{n:Nat}{out:List Nat}(h:FI n out):out.length<=n:=QaT n out h.nd h.lt
theorem FI.row{n:Nat}{es:List Ed}(g:∀e∈es,e.1<n/\e.2.2<n)(s:Nat):∀(al:List Nat)(out:List Nat),FI n out->FI n (al.foldl (fEv es s) out)/\(∃t,al.foldl (fEv es s) out=out++t)/\∀ev∈al,∀to,stepA es s ev=some to->to∈al.foldl (fEv es s) out:=by intro al;induction al with|nil=>intro out h;exact⟨h,⟨[],by simp⟩,fun ev f=>by cases f⟩|cons ev al k=>
 intro out h;rw[ZaH];have h1:FI n (fEv es s out ev)/\(∃t,fEv es s out ev=out++t)/\∀to,stepA es s ev=some to->to∈fEv es s out ev:=by unfold fEv;cases o:stepA es s ev with|none=>exact⟨h,⟨[],by simp⟩,fun to d=>by cases d⟩|some to=>
  dsimp only;split;·simp_all
  rename_i hc;refine⟨⟨?_,fun x c=>?_⟩,⟨[to],rfl⟩,fun t d=>by cases d;simp⟩;·rw[List.nodup_append];refine⟨h.nd,by simp,fun a u b w e=>?_⟩;simp_all
  rcases ZaE.1 c with c|c;·exact h.lt x c
  simp at c;subst c;exact Qeb g o
 obtain⟨m,⟨t,v⟩,q⟩:=h1;obtain⟨l,⟨i,p⟩,r⟩:=k _ m;refine⟨l,⟨t++i,by simp_all⟩,fun e he to d=>?_⟩;rcases Zaw.1 he with rfl|he;·grind
 grind
theorem fQ_ok{n:Nat}{al:List Nat}{es:List Ed}(w:∀e∈es,e.1<n/\e.2.2<n):∀(k i:Nat)(out:List Nat),FI n out->i<=out.length->n<k+i->(∀j s,j<i->out[j]?=some s->∀ev∈al,∀to,stepA es s ev=some to->to∈out)->FI n (fQ al es k i out)/\(∃t,fQ al es k i out=out++t)/\∀s∈fQ al es k i out,∀ev∈al,∀to,stepA es s ev=some to->to∈fQ al es k i out:=by intro k;induction k with|zero=>intro i out h hi l _;have:=h.len;omega|succ k o=>intro i out h hi l v;unfold fQ;cases f:out[i]? with|none=>have c:out.length<=i:=List.getElem?_eq_none_iff.1 f;refine⟨h,⟨[],by simp⟩,fun s hm ev a to g=>?_⟩;have hm:s∈out:=hm;obtain⟨j,b⟩:=List.getElem?_of_mem hm;have p:j<out.length:=(Zam.1 b).1;exact v j s (by omega) b ev a to g|some s=>
 dsimp only;obtain⟨x,⟨t,d⟩,A⟩:=FI.row w s al out h;have c:i<out.length:=(Zam.1 f).1;have d:fRow al es s out=out++t:=d;obtain⟨q,⟨u,y⟩,r⟩:=o (i+1) (fRow al es s out) x (by grind) (by omega) fun j z b m ev a to g=>by grind
 exact⟨q,⟨t++u,by simp_all⟩,r⟩
theorem Qe1{a:Aut}(c:∀e∈a.es,e.1<a.n/\e.2.2<a.n):FI a.n (found a)/\(∃t,found a=(if 0<a.n then[0]else[])++t)/\∀s∈found a,∀ev∈a.al,∀to,stepA a.es s ev=some to->to∈found a:=by
 refine fQ_ok c (a.n+1) 0 _ ?_ (Zaj _) (by omega) fun j s f=>by omega
 split;·rename_i d;exact⟨by simp,fun x b=>by simp_all⟩
 exact⟨by simp,fun x b=>by cases b⟩
theorem Qia{l:List Nat}{x:Nat}(h:x∈l):idx l x<l.length:=Zbk ⟨x,h,by simp⟩
theorem QiI{l:List Nat}{x:Nat}(h:x∈l):l[idx l x]?=some x:=by have h1:=Qia h;rw[Zal h1];have:=List.findIdx_getElem (p:=(·==x)) (w:=h1);exact congrArg some (by simp_all:l[List.findIdx (·==x) l]'h1=x)
theorem Qcx{l:List Nat}{f:Nat->List Ed}{R:Ed->Ed->Prop}(h1:∀i∈l,(f i).Pairwise R)(a:l.Pairwise fun i j=>∀x∈f i,∀y∈f j,R x y):(l.flatMap f).Pairwise R:=by grind
theorem QqH{a:Aut}(g:a.al.Pairwise (·<·))(r:∀x∈a.al,x<32)(l:a.n<=4096)(t:∀e∈a.es,e.1<a.n/\e.2.2<a.n):WfA (canon a):=by
 obtain⟨h1,_,v⟩:=Qe1 t;have b:∀i s,∀e∈cRow a (found a) i s,e.1=i/\e.2.1∈a.al/\(s∈found a->e.2.2<(found a).length):=by intro i s e he;obtain⟨ev,d,hm⟩:=ZbF.1 he;cases c:stepA a.es s ev with|none=>rw[c]at hm;cases hm|some to=>rw[c]at hm;cases hm;exact⟨rfl,d,fun n=>Qia (v s n ev d to c)⟩
 have f:∀i,i<(found a).length->(found a).getD i 0∈found a:=fun i hi=>by simp_all
 refine⟨g,r,Zay h1.len l,?_,fun x o=>?_,?_,fun e he=>?_,fun e he=>?_⟩;·exact List.pairwise_lt_range.filter _
 ·have :=(Za8.1 o).1;exact Zat.1 this
 ·refine Qcx (fun i hi=>?_) (List.pairwise_lt_range.imp fun u x o y A=>.inl ?_);·refine List.Pairwise.filterMap _ (R:=(·<·)) ?_ g;intro x y m p hp q k;cases c:stepA a.es ((found a).getD i 0) x with|none=>rw[c]at hp;cases hp|some to=>cases h:stepA a.es ((found a).getD i 0) y with|none=>rw[h]at k;cases k|some to2=>rw[c]at hp;rw[h]at k;cases hp;cases k;exact .inr ⟨rfl,m⟩
  grind
 ·obtain⟨i,hi,he⟩:=Zbt.1 he;have hi:=Zat.1 hi;obtain⟨w,_,z⟩:=b _ _ e he;exact⟨by rw[w];exact hi,z (f i hi)⟩
 obtain⟨i,hi,he⟩:=Zbt.1 he;exact(b _ _ e he).2.1
end Go.AM.SD
namespace Go.AM.SD
abbrev OE:=List Nat×List Ed
def sEd(i:Nat)(s:OE)(e:Ed):OE:=if s.1.contains e.2.2 then(s.1,s.2++[(i,e.2.1,idx s.1 e.2.2)])else(s.1++[e.2.2],s.2++[(i,e.2.1,s.1.length)])
def sOut(es:List Ed)(left:Nat->Bool)(v:Nat):List Ed:=es.filter fun e=>e.1==v&&left e.2.2
def sRow(es:List Ed)(left:Nat->Bool)(i v:Nat)(s:OE):OE:=(sOut es left v).foldl (sEd i) s
def sQ(es:List Ed)(left:Nat->Bool):Nat->Nat->OE->OE|0,_,s=>s|k+1,i,s=>match s.1[i]? with|some v=>sQ es left k (i+1) (sRow es left i v s)|none=>s
def sAll(a:Aut)(left:Nat->Bool):OE:=sQ a.es left (a.n+1) 0 (if decide (0<a.n)&&left 0 then[0]else[],[])
def restr(a:Aut)(left:Nat->Bool):Aut:=⟨a.al,(sAll a left).1.length,(List.range (sAll a left).1.length).filter fun i=>a.ms.contains ((sAll a left).1.getD i 0),(sAll a left).2⟩
theorem Qc9{l t:List Nat}{x:Nat}(h:x∈l):idx (l++t) x=idx l x:=by simp_all[idx,List.findIdx_append]
theorem QdN{l:List Nat}{x:Nat}(h:x∉l):idx (l++[x]) x=l.length:=by grind[idx]
theorem QsM{l:List Nat}(a:l.Nodup){i x:Nat}(h:l[i]?=some x):idx l x=i:=by grind[QiI,List.getElem?_inj]
def num(o:List Nat)(i:Nat)(e:Ed):Ed:=(i,e.2.1,idx o e.2.2)
theorem Qda{n:Nat}{left:Nat->Bool}(i:Nat):∀(c:List Ed)(s:OE),(∀e∈c,e.2.2<n/\left e.2.2=true)->FI n s.1->(∀x∈s.1,left x=true)->FI n (c.foldl (sEd i) s).1/\(∀x∈(c.foldl (sEd i) s).1,left x=true)/\(∃t,(c.foldl (sEd i) s).1=s.1++t)/\(∀e∈c,e.2.2∈(c.foldl (sEd i) s).1)/\(c.foldl (sEd i) s).2=s.2++c.map (num (c.foldl (sEd i) s).1 i):=by intro c;induction c with|nil=>intro s _ h l;exact⟨h,l,⟨[],by simp⟩,(fun e he=>by cases he),by simp⟩|cons e c p=>
 intro s f h l;rw[ZaH];obtain⟨u,v⟩:=f e (by simp);by_cases hc:s.1.contains e.2.2=true
 ·have o:sEd i s e=(s.1,s.2++[(i,e.2.1,idx s.1 e.2.2)]):=if_pos hc;have hm:e.2.2∈s.1:=by simpa using hc
  rw[o];obtain⟨m,k,⟨t,g⟩,q,r⟩:=p (s.1,s.2++[(i,e.2.1,idx s.1 e.2.2)]) (fun x d=>f x (by simp[d])) h l;refine⟨m,k,⟨t,g⟩,fun x d=>?_,?_⟩;·grind
  grind[num,Qc9]
 have o:sEd i s e=(s.1++[e.2.2],s.2++[(i,e.2.1,s.1.length)]):=if_neg hc;have hm:e.2.2∉s.1:=by simpa using hc
 rw[o];obtain⟨m,k,⟨t,g⟩,q,r⟩:=p (s.1++[e.2.2],s.2++[(i,e.2.1,s.1.length)]) (fun x d=>f x (by simp[d])) ⟨by rw[List.nodup_append];refine⟨h.nd,by simp,fun a w b y e=>?_⟩;simp_all,fun x d=>by
  rcases ZaE.1 d with d|d;·exact h.lt x d
  simp_all⟩ (fun x d=>by grind);have g:(c.foldl (sEd i) (s.1++[e.2.2],s.2++[(i,e.2.1,s.1.length)])).1=(s.1++[e.2.2])++t:=g;refine⟨m,k,⟨[e.2.2]++t,by simp_all⟩,fun x d=>?_,?_⟩;·grind
 grind[num,Qc9,QdN]
structure SI(n:Nat)(es:List Ed)(left:Nat->Bool)(i:Nat)(s:OE):Prop where
 fi:FI n s.1
 lft:∀x∈s.1,left x=true
 le:i<=s.1.length
 cl:∀j v,j<i->s.1[j]?=some v->∀e∈sOut es left v,e.2.2∈s.1
 ed:s.2=(List.range i).flatMap fun j=>(sOut es left (s.1.getD j 0)).map (num s.1 j)
theorem QaY{es:List Ed}{left:Nat->Bool}{v:Nat}{e:Ed}:e∈sOut es left v↔e∈es/\e.1=v/\left e.2.2=true:=by simp_all[sOut]
theorem SI.step{n:Nat}{es:List Ed}{left:Nat->Bool}(l:∀e∈es,e.1<n/\e.2.2<n){i v:Nat}{s:OE}(h:SI n es left i s)(p:s.1[i]?=some v):SI n es left (i+1) (sRow es left i v s):=by
 obtain⟨q,o,⟨t,a⟩,r,f⟩:=Qda i (sOut es left v) s (fun e he=>⟨(l e (QaY.1 he).1).2,(QaY.1 he).2.2⟩) h.fi h.lft;have m:i<s.1.length:=(Zam.1 p).1;have a:(sRow es left i v s).1=s.1++t:=a;have c:∀j,j<s.1.length->(sRow es left i v s).1.getD j 0=s.1.getD j 0:=fun j b=>by grind
 refine⟨q,o,by grind,fun j u b k e he=>?_,?_⟩
 ·rw[a,Zbh (by omega)]at k;by_cases g:j<i;·rw[a];exact List.mem_append_left _ (h.cl j u g k e he)
  grind
 show(sRow es left i v s).2=_;have f:(sRow es left i v s).2=s.2++(sOut es left v).map (num (sRow es left i v s).1 i):=f;rw[f,h.ed,ZaI,Zaq];congr 1
 ·have :∀j∈List.range i,(sOut es left (s.1.getD j 0)).map (num s.1 j)=(sOut es left ((sRow es left i v s).1.getD j 0)).map (num (sRow es left i v s).1 j):=fun j b=>by
   have b:=Zat.1 b;rw[c j (by omega)];have d:s.1[j]?=some (s.1.getD j 0):=by grind
   refine ZaY fun e he=>?_;unfold num;rw[a,Qc9 (h.cl j _ b d e he)]
  grind[ZaY]
 simp_all
theorem sQ_ok{n:Nat}{es:List Ed}{left:Nat->Bool}(c:∀e∈es,e.1<n/\e.2.2<n):∀(k i:Nat)(s:OE),SI n es left i s->n<k+i->SI n es left (sQ es left k i s).1.length (sQ es left k i s)/\∃t,(sQ es left k i s).1=s.1++t:=by intro k;induction k with|zero=>intro i s h g;have:=h.fi.len;have:=h.le;omega|succ k f=>intro i s h g;unfold sQ;cases a:s.1[i]? with|some v=>obtain⟨h1,t,l⟩:=f (i+1) _ (h.step c a) (by omega);obtain⟨_,_,⟨b,d⟩,_,_⟩:=Qda i (sOut es left v) s (fun e he=>⟨(c e (QaY.1 he).1).2,(QaY.1 he).2.2⟩) h.fi h.lft;have d:(sRow es left i v s).1=s.1++b:=d;exact⟨h1,b++t,by simp_all⟩|none=>
 have:s.1.length=i:=by have:=List.getElem?_eq_none_iff.1 a;have:=h.le;omega
 dsimp only;rw[this];exact⟨h,[],by simp⟩
theorem Qdb{a:Aut}{left:Nat->Bool}(h:WfA a):SI a.n a.es left (sAll a left).1.length (sAll a left)/\∃t,(sAll a left).1=(if decide (0<a.n)&&left 0 then[0]else[])++t:=by
 refine sQ_ok h.esn (a.n+1) 0 _ ?_ (by omega);refine⟨?_,fun x b=>?_,Zaj _,fun j v c=>by omega,by simp⟩
 ·split;·rename_i hc;simp only[Zab,decide_eq_true_eq]at hc;exact⟨by simp,fun x b=>by simp_all⟩
  exact⟨by simp,fun x b=>by cases b⟩
 simp_all
theorem Qe2{a:Aut}{left:Nat->Bool}(h:WfA a):WfA (restr a left):=by
 obtain⟨g,_⟩:=Qdb (left:=left) h;have d:∀(j:Nat)(e:Ed),j<(sAll a left).1.length->e∈(sOut a.es left ((sAll a left).1.getD j 0)).map (num (sAll a left).1 j)->∃b∈a.es,b.1=(sAll a left).1.getD j 0/\e=(j,b.2.1,idx (sAll a left).1 b.2.2)/\b.2.2∈(sAll a left).1:=by
  intro j e c he;obtain⟨b,f,rfl⟩:=Zao.1 he;have m:(sAll a left).1[j]?=some ((sAll a left).1.getD j 0):=by simp_all
  exact⟨b,(QaY.1 f).1,(QaY.1 f).2.1,rfl,g.cl j _ c m b f⟩
 refine⟨h.al,h.al5,Zay g.fi.len h.n5,List.pairwise_lt_range.filter _,fun x k=>Zat.1 (Za8.1 k).1,?_,fun e he=>?_,fun e he=>?_⟩
 ·show(sAll a left).2.Pairwise _;rw[g.ed];refine Qcx (fun j c=>?_) (List.pairwise_lt_range.imp_of_mem fun{i j}hi c r x k y n=>.inl ?_);·rw[Zbx];have:(sOut a.es left ((sAll a left).1.getD j 0)).Pairwise fun x y=>x.1<y.1\/(x.1=y.1/\x.2.1<y.2.1):=h.es.filter _;refine this.imp_of_mem fun{x y}k n p=>.inr ⟨rfl,?_⟩;have h1:=(QaY.1 k).2.1;have s:=(QaY.1 n).2.1;show x.2.1<y.2.1;omega
  grind
 ·have he:e∈(sAll a left).2:=he;rw[g.ed]at he;obtain⟨j,c,he⟩:=Zbt.1 he;obtain⟨b,_,_,l,o⟩:=d j e (Zat.1 c) he;rw[l];exact⟨Zat.1 c,Qia o⟩
 have he:e∈(sAll a left).2:=he;rw[g.ed]at he;obtain⟨j,c,he⟩:=Zbt.1 he;obtain⟨b,q,_,l,o⟩:=d j e (Zat.1 c) he;rw[l];exact h.ev b q
theorem QrK{o:List Nat}(ho:o.Nodup)(i:Nat):∀(a:List Ed)(s:OE)(t:List Nat),(a.foldl (sEd i) s).1++t=o->(∃f,s.1++f=o)->(a.map (num o i)).foldl (sEd i) (List.range s.1.length,s.2)=(List.range (a.foldl (sEd i) s).1.length,(a.foldl (sEd i) s).2):=by intro a;induction a with|nil=>intro s t _ _;rfl|cons e a g=>
 intro s t k l;rw[ZaH]at k;rw[ZaK,ZaH,ZaH];obtain⟨f,l⟩:=l;have c:∀(a:List Ed)(s:OE),∃u,(a.foldl (sEd i) s).1=s.1++u:=by intro a;induction a with|nil=>intro s;exact⟨[],by simp⟩|cons e a g=>
  intro s;rw[ZaH];obtain⟨u,m⟩:=g (sEd i s e);rw[m];unfold sEd;split;·simp_all
  simp_all
 by_cases hc:s.1.contains e.2.2=true
 ·have h:sEd i s e=(s.1,s.2++[(i,e.2.1,idx s.1 e.2.2)]):=if_pos hc;have hm:e.2.2∈s.1:=by simpa using hc
  have b:idx o e.2.2=idx s.1 e.2.2:=by grind[Qc9]
  have p:sEd i (List.range s.1.length,s.2) (num o i e)=(List.range s.1.length,s.2++[(i,e.2.1,idx s.1 e.2.2)]):=by
   have d:idx o e.2.2<s.1.length:=by simp_all[Qia]
   unfold sEd num;rw[if_pos (by simpa using d)];have:idx (List.range s.1.length) (idx o e.2.2)=idx o e.2.2:=QsM Za0 (Zbq d);simp_all
  grind
 have h:sEd i s e=(s.1++[e.2.2],s.2++[(i,e.2.1,s.1.length)]):=if_neg hc;have hm:e.2.2∉s.1:=by simpa using hc
 rw[h]at k⊢;obtain⟨u,m⟩:=c a (s.1++[e.2.2],s.2++[(i,e.2.1,s.1.length)]);have n:o=(s.1++[e.2.2])++(u++t):=by simp_all
 have b:idx o e.2.2=s.1.length:=by grind[Qc9,QdN]
 have p:sEd i (List.range s.1.length,s.2) (num o i e)=(List.range (s.1++[e.2.2]).length,s.2++[(i,e.2.1,s.1.length)]):=by simp_all[sEd,num,ZaI]
 grind
theorem QsN{n:Nat}{es es':List Ed}{left:Nat->Bool}{o:List Nat}(ho:o.Nodup)(l:∀e∈es,e.1<n/\e.2.2<n)(m:∀i v,o[i]?=some v->sOut es' (fun _=>true) i=(sOut es left v).map (num o i)):∀(k i:Nat)(s:OE)(c:Nat),SI n es left i s->n<k+i->n<c+i->(sQ es left k i s).1=o->sQ es' (fun _=>true) c i (List.range s.1.length,s.2)=(List.range o.length,(sQ es left k i s).2):=by intro k;induction k with|zero=>intro i s c h y _ _;have:=h.fi.len;have:=h.le;omega|succ k x=>intro i s c h y w b;cases c with|zero=>have:=h.fi.len;have:=h.le;omega|succ c=>unfold sQ at b⊢;cases g:s.1[i]? with|none=>have d:s.1.length<=i:=List.getElem?_eq_none_iff.1 g;rw[g]at b;have b:s.1=o:=b;have:(List.range s.1.length)[i]?=none:=ZaA (by simpa using d);dsimp only;rw[this,b]|some v=>
 have d:i<s.1.length:=(Zam.1 g).1;rw[g]at b;have b:(sQ es left k (i+1) (sRow es left i v s)).1=o:=b;have:(List.range s.1.length)[i]?=some i:=Zbq d;dsimp only;rw[this];dsimp only;have a:=h.step l g;obtain⟨_,t,q⟩:=sQ_ok l k (i+1) _ a (by omega);rw[b]at q;obtain⟨_,_,⟨r,p⟩,_,_⟩:=Qda i (sOut es left v) s (fun e he=>⟨(l e (QaY.1 he).1).2,(QaY.1 he).2.2⟩) h.fi h.lft;have p:(sRow es left i v s).1=s.1++r:=p;have u:o[i]?=some v:=by grind
 have f:sRow es' (fun _=>true) i i (List.range s.1.length,s.2)=(List.range (sRow es left i v s).1.length,(sRow es left i v s).2):=by simp_all[sRow,QrK]
 rw[f];exact x (i+1) _ c a (by omega) (by omega) b
theorem Qe3{a:Aut}{left:Nat->Bool}(h:WfA a){i v:Nat}(d:(sAll a left).1[i]?=some v):sOut (restr a left).es (fun _=>true) i=(sOut a.es left v).map (num (sAll a left).1 i):=by
 obtain⟨f,_⟩:=Qdb (left:=left) h;have k:i<(sAll a left).1.length:=(Zam.1 d).1;show(sAll a left).2.filter _=_;rw[f.ed,List.filter_flatMap];have h1:∀j∈List.range (sAll a left).1.length,(((sOut a.es left ((sAll a left).1.getD j 0)).map (num (sAll a left).1 j)).filter fun e=>e.1==i&&true)=if j=i then(sOut a.es left v).map (num (sAll a left).1 i)else[]:=by
  intro j _;by_cases e:j=i;·subst e;rw[if_pos rfl,Zak,d];refine ZbN.2 fun x b=>?_;obtain⟨y,_,rfl⟩:=Zao.1 b;simp[num]
  rw[if_neg e];refine List.filter_eq_nil_iff.2 fun x b=>?_;obtain⟨y,_,rfl⟩:=Zao.1 b;simp[num,e]
 rw[List.flatMap_def,ZaY h1,<-List.flatMap_def];have key:∀(l:List Nat)(X:List Ed),l.Nodup->(l.flatMap fun j=>if j=i then X else[])=if i∈l then X else[]:=by intro l X;induction l with|nil=>intro _;rfl|cons j l g=>
  intro c;rw[Zb1]at c;rw[Zax,g c.2];by_cases e:j=i;·simp_all
  grind
 simp_all[Za0]
theorem Qn6{a:Aut}{left:Nat->Bool}(h:WfA a):sAll (restr a left) (fun _=>true)=(List.range (restr a left).n,(restr a left).es):=by
 obtain⟨r,t,q⟩:=Qdb (left:=left) h;have p:SI a.n a.es left 0 ((if decide (0<a.n)&&left 0 then[0]else[],[]):OE):=by
  refine⟨?_,fun x c=>?_,Zaj _,fun j v w=>by omega,by simp⟩
  ·split;·rename_i hc;simp only[Zab,decide_eq_true_eq]at hc;exact⟨by simp,fun x c=>by simp_all⟩
   exact⟨by simp,fun x c=>by cases c⟩
  simp_all
 have B:(restr a left).n<=a.n:=r.fi.len;by_cases hc:(decide (0<a.n)&&left 0)=true
 ·rw[if_pos hc]at p q;have o:sAll a left=sQ a.es left (a.n+1) 0 ([0],[]):=by simp_all[sAll]
  have n:0<(restr a left).n:=by show 0<(sAll a left).1.length;rw[q];simp
  have z:sAll (restr a left) (fun _=>true)=sQ (restr a left).es (fun _=>true) ((restr a left).n+1) 0 (List.range ([0]:List Nat).length,[]):=by simp_all[sAll]
  rw[z];have l:∀(es:List Ed)(left:Nat->Bool)(k i:Nat)(s:OE)(m:Nat),SI m es left i s->(∀e∈es,e.1<m/\e.2.2<m)->m<k+i->∀b,k<=b->sQ es left k i s=sQ es left b i s:=by intro es left k;induction k with|zero=>intro i s m h _ A;have:=h.fi.len;have:=h.le;omega|succ k y=>intro i s m h hm A b u;cases b with|zero=>omega|succ b=>unfold sQ;cases g:s.1[i]? with|none=>rfl|some v=>exact y (i+1) _ m (h.step hm g) hm (by omega) b (by omega)
  have f:=Qe2 (left:=left) h;have d:SI (restr a left).n (restr a left).es (fun _=>true) 0 ((List.range ([0]:List Nat).length,[]):OE):=⟨⟨Za0,fun x c=>by simp_all⟩,fun _ _=>rfl,Zaj _,fun j v w=>by omega,by simp⟩;rw[l _ _ ((restr a left).n+1) 0 _ (restr a left).n d f.esn (by omega) (a.n+1) (by omega)];have:=QsN (n:=a.n) (es:=a.es) (es':=(restr a left).es) (left:=left) (o:=(sAll a left).1) r.fi.nd h.esn (fun i v g=>Qe3 h g) (a.n+1) 0 ([0],[]) (a.n+1) p (by omega) (by omega) (by rw[o]);rw[this];show _=(List.range (sAll a left).1.length,(sAll a left).2);rw[o]
 simp_all[sAll,if_neg,sQ,restr]
theorem QgW{a:Aut}{left:Nat->Bool}(h:WfA a):restr (restr a left) (fun _=>true)=restr a left:=by
 have h1:=Qn6 (left:=left) h;have b:(sAll (restr a left) fun _=>true).1.length=(restr a left).n:=by rw[h1];simp
 have e:∀(A B:Aut),A.al=B.al->A.n=B.n->A.ms=B.ms->A.es=B.es->A=B:=fun A B h1 f g d=>by cases A;simp_all
 refine e _ _ rfl b ?_ (by simp_all[restr]);show(List.range (sAll (restr a left) fun _=>true).1.length).filter _=_;rw[b,h1];have c:(restr a left).ms=(List.range (restr a left).n).filter fun i=>a.ms.contains ((sAll a left).1.getD i 0):=rfl;have:∀i∈List.range (restr a left).n,(restr a left).ms.contains ((List.range (restr a left).n).getD i 0)=a.ms.contains ((sAll a left).1.getD i 0):=fun i hi=>by simp_all
 grind[Zbw]
end Go.AM.SD
namespace Go.AM.SD
theorem Qpc{a:Aut}{left:Nat->Bool}(h:WfA a):∀(d v:Nat),Rch a.es a.ms left d v->∀i,(sAll a left).1[i]?=some v->Rch (restr a left).es (restr a left).ms (fun x=>decide (x<(restr a left).n)) d i:=by obtain⟨m,_⟩:=Qdb (left:=left) h;intro d;induction d with|zero=>intro v c i hi;have b:i<(sAll a left).1.length:=(Zam.1 hi).1;refine⟨decide_eq_true b,Za8.2 ⟨Zat.2 b,?_⟩⟩;rw[Zak,hi];simpa using c.2|succ d k=>
 intro v c i hi;rcases c with c|⟨n,e,he,h1,g⟩;·exact .inl (k v c i hi)
 have b:i<(sAll a left).1.length:=(Zam.1 hi).1;have f:e∈sOut a.es left v:=QaY.2 ⟨he,h1,Rch.left g⟩;have hm:e.2.2∈(sAll a left).1:=m.cl i v b hi e f;have l:num (sAll a left).1 i e∈sOut (restr a left).es (fun _=>true) i:=by rw[Qe3 h hi];grind
 exact .inr ⟨decide_eq_true b,_,(QaY.1 l).1,rfl,k e.2.2 g _ (QiI hm)⟩
theorem Qpd{a:Aut}{forb unc:List Nat}(h:WfA a):Rgt (restr a (lf (fin a.n a.es a.ms forb unc true).1)).n (restr a (lf (fin a.n a.es a.ms forb unc true).1)).es (restr a (lf (fin a.n a.es a.ms forb unc true).1)).ms [] unc (fun x=>decide (x<(restr a (lf (fin a.n a.es a.ms forb unc true).1)).n)):=by have f:=Qnb (forb:=forb) (unc:=unc) h.inN h.nd h.srt;have hw:=Qe2 (left:=lf (fin a.n a.es a.ms forb unc true).1) h;obtain⟨g,_⟩:=Qdb (left:=lf (fin a.n a.es a.ms forb unc true).1) h;refine⟨fun x b=>of_decide_eq_true b,(fun x _ hm=>by cases hm),fun e he _ _=>decide_eq_true (hw.esn e he).2,fun x b=>?_⟩;have b:x<(sAll a (lf (fin a.n a.es a.ms forb unc true).1)).1.length:=of_decide_eq_true b;have c:=Zal b;obtain⟨d,i⟩:=f.nb _ (g.lft _ (List.getElem_mem b));exact⟨d,Qpc h d _ i x c⟩
end Go.AM.SD
namespace Go.AM.SD
def part(n bits:Nat):List Nat:=(List.range n).filter fun i=>bits.testBit i
theorem Qlm{n bits x:Nat}:x∈part n bits↔x<n/\bits.testBit x=true:=by simp[part]
theorem Qdn(n bits:Nat):(part n bits).Pairwise (·<·):=List.pairwise_lt_range.filter _
def kept(n:Nat)(l:LB):List Nat:=(List.range n).filter (lf l)
end Go.AM.SD
