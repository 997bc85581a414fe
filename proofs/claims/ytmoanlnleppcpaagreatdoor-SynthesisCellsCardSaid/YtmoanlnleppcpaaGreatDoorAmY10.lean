/- A part of the proof of SynthesisCellsCardSaid: lemmas on the way (AmOe, AmCza, AmCs, AmDa, AmDb, AmDc, AmDd, AmDe, AmDf, AmDg, AmDi). Conditions: none of ours. -/
import Derived.Test.YtmoanlnleppcpaaGreatDoorProg
import Derived.KernelRfl
import Derived.Test.YtmoanlnleppcpaaGreatDoorAmY9
set_option linter.unusedSectionVars false
set_option maxHeartbeats 32000000
set_option maxRecDepth 100000
set_option linter.unusedVariables false
set_option linter.unusedSimpArgs false
namespace Go.AM.OE
open Go.Proofs
set_option maxHeartbeats 4000000
noncomputable section
def cf:YA.Cf:={most:=.pure,value:=.pure}
def s14:SFn:=by
 refine(?f:YA.Yt Tryz.prog cf 14 [[0,2],[13,14,15,16,17,18],[1,19,20],[2,1,19,21,22],[24,25,23,26,27,28],[30,31,29,32,33],[35,36,34,37,38],[39],[3,4,5,6,7,8,9,10,40,41,42,43,44,45,46,47,48,49,50,51,52,53,54,55,56,57],[2,3,8,40,59,60,61,58,62,63],[4,5,6,7,9,10,11,12,64,65,66,67,68,69,70,71,72,73,74,75,76,77,78,79,80,81,82,83,84,85,86,87,88,89,90,91,92,93,94,95,96,97,98,99,100,101,102,103,104,105,106,107,108,109,110,111,112,113,114,115,116]]) ?s ?h;case h=>exact YA.rr
 exact fun s _=>s
def s63:SFn:=by
 refine(?f:YA.Yt Tryz.prog cf 63 [[0,1,4,5],[],[],[10,11,12,13],[14,17,18,19,20,21,22,23,24,25],[15,16],[3,8],[26,27,28,29],[30,33,34,35,36,37,38],[39,40,41,42,43],[39,31,32],[2,6,7,9,44,45]]) ?s ?h;case h=>exact YA.rr
 exact fun s _=>s
def s86:SFn:=by
 refine(?f:YA.Yt Tryz.prog cf 86 [[4,5],[10,11],[12],[0,1,6,13,14],[4,5,6,13,15,16],[1,7,18,19,20,17,21,22],[9,23],[0,8,24],[0,8,24,25,26,27]]) ?s ?h;case h=>exact YA.rr
 exact fun s _=>s
def s171:SFn:=by
 refine(?f:YA.Yt Tryz.prog cf 171 [[0,2],[1,3,4,5]]) ?s ?h;case h=>exact YA.rr
 exact fun s _=>s
def s176:SFn:=by
 refine(?f:YA.Yt Tryz.prog cf 176 [[4],[],[0],[],[11,12,13,14],[7,15,16],[6,17,18,19,20,21],[6,17,22],[1,5,8,9,10,23]]) ?s ?h;case h=>exact YA.rr
 exact fun s _=>s
theorem ok14:okFn Tryz.prog 14 s14=true:=by kernel_rfl
theorem ok63:okFn Tryz.prog 63 s63=true:=by kernel_rfl
theorem ok86:okFn Tryz.prog 86 s86=true:=by kernel_rfl
theorem ok171:okFn Tryz.prog 171 s171=true:=by kernel_rfl
theorem ok176:okFn Tryz.prog 176 s176=true:=by kernel_rfl
end
end Go.AM.OE
namespace Go.AM.SK
open Go.Proofs
set_option maxHeartbeats 4000000
noncomputable section
def cf:YA.Cf:={}
noncomputable def ft:FT2:=YA.tre Tryz.prog cf 20 [15,16,17,18,19,21,28,31,32,33,36,38,41,45,48,60,68,69,70,71,72,73,74,75,76,77,82,83,84,85,90,95,96,97,98,99,100,101,102,103,104,105,106,110,111,112,115,135,144,148,149,150,154,155,156,157,158,159,160,161,162,163,164,166,167,168,169,183,184,187,188,189,190,192,193,195,197,198,199,200,201,202,203,204,205,206,207,208,209,218,219,223,226,227,228,229,230,232,233,234,235,236,242,251,263]
theorem ft_ok:ft.OK Tryz.prog:=YA.Qf1 _ _ (YA.Qfa (by kernel_rfl))
end
end Go.AM.SK
namespace Go.AM.SU
open Go.Proofs
set_option maxHeartbeats 4000000
noncomputable section
def cf:YA.Cf:={always:=[38,185].map fun k=>(k,.pure)}
def s26:SFn:=⟨192,[.cell 2 (some 5)],(.seq (.region [Zz 1 (.box .dyn (.t 0)) [],Zz 2 (.alloc .dyn (.agg [.nilsl,.nilsl,.nilsl,.nilsl,.nilsl])) []] [] [0]) (.seq (.region [Zf 17 0 1 [],Zw 18 5 17 [0],Zz 19 (.call .pure (.f 88) [(.t 18)]) [1],Zz 20 (.build [.nilsl,.nilsl,.nilsl,.nilsl,.nilsl] [(0,1,(.t 19))]) [2],Zz 3 (.alloc .dyn (.agg [.nilsl,.nilsl,.nilsl,.nilsl,.nilsl])) [],Zs 5 3 20 (Za [4,3,2] 5)] [] [17,18,19,20]) (.seq (.region [Zz 4 (.alloc .dyn .nilsl) []] [] []) (.seq (.region [Zf 21 5 1 [],Zl 22 21 [0],Zz 23 (.bin .rem (.t 22) (.c (.int .u8 3))) [1],Zz 24 (.conv .i64 (.t 23)) [2],Zz 25 (.bin .add (.c (.int .i64 1)) (.t 24)) [3],Zm 5 25 (Za [4] 5)] [] [21,22,23,24,25]) (.seq (.seq (.region [Zm 26 5 [],Zz 27 (.mov (.c (.int .i64 0))) []] [] []) (.block 0 (.loop (.seq (.region [Zb 28 .lss 27 26 []] [] []) (.seq (.cond (.t 28) .skip (.exit 0)) (.seq (.block 1 (.seq (.region [Zm 29 27 [],Zm 6 29 [0,0]] [] [28,29]) (.seq (.region [Zm 30 6 [],Zf 31 6 1 [],Zz 32 (.iaddr (some 3) 1 (.t 31) (.t 30)) [1,0],Zl 33 32 [2],Zz 34 (.call .pure (.f 89) [(.t 33)]) [3],Zm 7 34 (Za [4,4] 5)] [] [30,31,32,33,34]) (.seq (.region [Zl 35 4 [],Zm 36 7 [],Zz 37 (.call .pure (.f 90) [(.t 35),(.t 36)]) [0,1],Zs 1 4 37 [2,2,0,1,2]] [] [35,36,37]) (.region [Zf 38 1 3 [],Zl 39 38 [0],Zm 40 6 [],Zz 41 (.bin .add (.c (.int .i64 48)) (.t 40)) [2],Zz 42 (.conv .i32 (.t 41)) [3],Zz 43 (.convS (.t 42)) [4],Zz 44 (.bin .add (.c (.str [99])) (.t 43)) [5],Zm 45 7 [],Zm 46 6 [],Zf 47 9 1 [],Zz 48 (.iaddr (some 3) 27 (.t 47) (.t 46)) [9,8],Zw 49 27 48 [10],Zz 50 (.call .pure (.f 91) [(.t 45),(.t 49),(.c (.int .i64 3))]) [7,11],Zz 51 (.build [(.str []),.nilsl,(.int .i64 0),.nilsl,.nilsl] [(0,1,(.t 44)),(1,4,(.t 50))]) [6,12],Zz 52 (.bslice false .dyn 5 1 [(.str []),.nilsl,(.int .i64 0),.nilsl,.nilsl] [(0,5,(.t 51))]) [13],Zz 53 (.append .dyn 5 96 (.t 39) (.t 52)) [1,14,12],Zf 54 1 3 (Za [] 16),Zs 1 54 53 (Za [16,15,15] 16)] [] [6,7,38,39,40,41,42,43,44,45,46,47,48,49,50,51,52,53,54]))))) (.region [Zz 55 (.bin .add (.t 27) (.c (.int .i64 1))) [],Zm 27 55 [0]] [] [55]))))))) (.seq (.seq (.region [Zf 56 90 1 [],Zl 57 56 [0],Zz 58 (.bin .rem (.t 57) (.c (.int .u8 3))) [1],Zz 59 (.conv .i64 (.t 58)) [2],Zz 60 (.mov (.c (.int .i64 0))) []] [] [26,27,56,57,58]) (.block 2 (.loop (.seq (.region [Zb 61 .lss 60 59 []] [] []) (.seq (.cond (.t 61) .skip (.exit 2)) (.seq (.block 3 (.seq (.region [Zm 62 60 [],Zm 8 62 [0,0]] [] [61,62]) (.seq (.region [Zm 63 8 [],Zf 64 91 1 [],Zz 65 (.iaddr (some 2) 1 (.t 64) (.t 63)) [1,0],Zl 66 65 [2],Zz 67 (.call .heap (.f 89) [(.t 66)]) [3],Zz 68 (.mkfn 92 [] [(.t 4)]) [],Zz 69 (.call .heap (.f 40) [(.t 67),(.t 68)]) [4,5,4],Zm 9 69 (Za [6,6] 7)] [] [63,64,65,66,67,68,69]) (.region [Zf 70 2 3 [],Zl 71 70 [0],Zm 72 8 [],Zz 73 (.bin .add (.c (.int .i64 48)) (.t 72)) [2],Zz 74 (.conv .i32 (.t 73)) [3],Zz 75 (.convS (.t 74)) [4],Zz 76 (.bin .add (.c (.str [114])) (.t 75)) [5],Zm 77 9 [],Zm 78 8 [],Zf 79 93 1 [],Zz 80 (.iaddr (some 2) 27 (.t 79) (.t 78)) [9,8],Zw 81 27 80 [10],Zz 82 (.call .pure (.f 91) [(.t 77),(.t 81),(.c (.int .i64 3))]) [7,11],Zz 83 (.build [(.str []),.nilsl,(.int .i64 0),.nilsl,.nilsl] [(0,1,(.t 76)),(1,4,(.t 82))]) [6,12],Zz 84 (.bslice false .dyn 5 1 [(.str []),.nilsl,(.int .i64 0),.nilsl,.nilsl] [(0,5,(.t 83))]) [13],Zz 85 (.append .dyn 5 96 (.t 71) (.t 84)) [1,14,12],Zf 86 2 3 (Za [] 16),Zs 1 86 85 (Za [16,15,15] 16)] [] [8,9,70,71,72,73,74,75,76,77,78,79,80,81,82,83,84,85,86])))) (.region [Zz 87 (.bin .add (.t 60) (.c (.int .i64 1))) [],Zm 60 87 [0]] [] [87]))))))) (.seq (.seq (.region [Zf 88 147 1 [],Zl 89 88 [0],Zv 90 89 [1],Zz 91 (.mov (.c (.int .i64 0))) []] [] [4,59,60,88]) (.block 4 (.loop (.seq (.region [Zb 92 .lss 91 90 []] [] []) (.seq (.cond (.t 92) .skip (.exit 4)) (.seq (.block 5 (.seq (.region [Zm 93 91 [],Zi 94 4 89 91 [],Zw 95 4 94 [1],Zz 11 (.alloc .dyn (.agg [(.int .u8 0),(.int .u8 0),(.int .u8 0),(.int .u8 0)])) [],Zm 10 93 [0,0,1,2,3],Zs 4 11 95 (Za [3,2,4] 5)] [] [92,93,94,95]) (.seq (.seq (.region [Zm 96 10 [],Zz 97 (.bin .eql (.t 96) (.c (.int .i64 2))) [0]] [] [96]) (.cond (.t 97) (.exit 4) .skip)) (.seq (.region [Zm 98 10 [],Zz 99 (.bin .add (.c (.int .i64 48)) (.t 98)) [0],Zz 100 (.conv .i32 (.t 99)) [1],Zz 101 (.convS (.t 100)) [2],Zz 102 (.bin .add (.c (.str [101])) (.t 101)) [3],Zz 103 (.build [(.str []),.nilsl] [(0,1,(.t 102))]) [4],Zz 12 (.alloc .dyn (.agg [(.str []),.nilsl])) [],Zs 2 12 103 (Za [6,5] 7)] [] [10,97,98,99,100,101,102,103]) (.seq (.seq (.region [Zf 104 1 3 [],Zl 105 104 [0],Zv 106 105 [1],Zz 107 (.mov (.c (.int .i64 0))) []] [] [104,105]) (.block 6 (.loop (.seq (.region [Zb 108 .lss 107 106 []] [] []) (.seq (.cond (.t 108) .skip (.exit 6)) (.seq (.block 7 (.seq (.region [Zm 109 107 [],Zm 13 109 [0,0]] [] [108,109]) (.seq (.region [Zf 110 1 3 [],Zl 111 110 [0],Zm 112 13 [],Zi 113 5 111 112 [1,2],Zf 114 1 113 [3],Zf 115 1 114 [4],Zl 116 115 [5],Zm 14 116 (Za [6] 7)] [] [110,111,112,113,114,115,116]) (.seq (.region [Zm 117 13 [],Zz 118 (.iaddr (some 4) 1 (.t 11) (.t 117)) [0],Zl 119 118 [1],Zz 120 (.conv .i64 (.t 119)) [2],Zm 121 14 [],Zz 122 (.bin .add (.t 121) (.c (.int .i64 2))) [4],Zb 123 .rem 120 122 [3,5],Zm 124 14 [],Zb 125 .lss 123 124 [6,7]] [] [117,118,119,120,121,122,123,124]) (.cond (.t 125) (.region [Zf 126 1 12 [],Zl 127 126 [0],Zm 128 13 [],Zm 129 13 [],Zz 130 (.iaddr (some 4) 1 (.t 11) (.t 129)) [3],Zl 131 130 [4],Zz 132 (.conv .i64 (.t 131)) [5],Zm 133 14 [],Zz 134 (.bin .add (.t 133) (.c (.int .i64 2))) [7],Zb 135 .rem 132 134 [6,8],Zz 136 (.build [(.int .i64 0),(.int .i64 0)] [(0,1,(.t 128)),(1,1,(.t 135))]) [2,9],Zz 137 (.bslice false .dyn 2 1 [(.int .i64 0),(.int .i64 0)] [(0,2,(.t 136))]) [10],Zz 138 (.append .dyn 2 16 (.t 127) (.t 137)) [1,11],Zf 139 1 12 (Za [] 13),Zs 1 139 138 (Za [13,12,12] 13)] [] [13,14,125,126,127,128,129,130,131,132,133,134,135,136,137,138,139]) .skip))))) (.region [Zz 140 (.bin .add (.t 107) (.c (.int .i64 1))) [],Zm 107 140 [0]] [] [13,14,125,140]))))))) (.seq (.region [Zf 141 1 12 [],Zl 142 141 [0],Zv 143 142 [1],Zz 144 (.bin .gtr (.t 143) (.c (.int .i64 0))) [2]] [] [11,106,107,141,142,143]) (.cond (.t 144) (.region [Zf 145 3 3 [],Zl 146 145 [0],Zw 147 2 12 [],Zz 148 (.bslice false .dyn 2 1 [(.str []),.nilsl] [(0,2,(.t 147))]) [2],Zz 149 (.append .dyn 2 40 (.t 146) (.t 148)) [1,3],Zf 150 3 3 (Za [] 5),Zs 1 150 149 (Za [5,4,4] 5)] [] [12,144,145,146,147,148,149,150]) .skip))))))) (.region [Zz 151 (.bin .add (.t 91) (.c (.int .i64 1))) [],Zm 91 151 [0]] [] [12,144,151]))))))) (.seq (.region [Zf 152 151 1 [],Zl 153 152 [0],Zz 154 (.conv .i64 (.t 153)) [1],Zz 155 (.bin .rem (.t 154) (.c (.int .i64 8))) [2],Zz 156 (.build [(.str []),.nilsl,(.int .i64 0)] [(0,1,(.c (.str [107]))),(2,1,(.t 155))]) [3],Zz 15 (.alloc .dyn (.agg [(.str []),.nilsl,(.int .i64 0)])) [],Zs 3 15 156 (Za [5,4] 6)] [] [89,90,91,152,153,154,155,156]) (.seq (.seq (.region [Zm 157 5 [],Zz 158 (.mov (.c (.int .i64 0))) []] [] [5]) (.block 8 (.loop (.seq (.region [Zb 159 .lss 158 157 []] [] []) (.seq (.cond (.t 159) .skip (.exit 8)) (.seq (.block 9 (.seq (.region [Zm 160 158 [],Zm 16 160 [0,0]] [] [159,160]) (.seq (.region [Zm 161 16 [],Zf 162 148 1 [],Zz 163 (.iaddr (some 3) 1 (.t 162) (.t 161)) [1,0],Zl 164 163 [2],Zz 165 (.bin .neq (.t 164) (.c (.int .i8 0))) [3]] [] [161,162,163,164]) (.cond (.t 165) (.region [Zf 166 1 15 [],Zl 167 166 [0],Zm 168 16 [],Zm 169 16 [],Zf 170 148 1 [],Zz 171 (.iaddr (some 3) 1 (.t 170) (.t 169)) [4,3],Zl 172 171 [5],Zz 173 (.conv .i64 (.t 172)) [6],Zz 174 (.bin .rem (.t 173) (.c (.int .i64 4))) [7],Zz 175 (.build [(.int .i64 0),(.int .i64 0)] [(0,1,(.t 168)),(1,1,(.t 174))]) [2,8],Zz 176 (.bslice false .dyn 2 1 [(.int .i64 0),(.int .i64 0)] [(0,2,(.t 175))]) [9],Zz 177 (.append .dyn 2 16 (.t 167) (.t 176)) [1,10],Zf 178 1 15 (Za [] 12),Zs 1 178 177 (Za [12,11,11] 12)] [] [16,165,166,167,168,169,170,171,172,173,174,175,176,177,178]) .skip)))) (.region [Zz 179 (.bin .add (.t 158) (.c (.int .i64 1))) [],Zm 158 179 [0]] [] [16,165,179]))))))) (.seq (.region [Zf 180 1 15 [],Zl 181 180 [0],Zz 182 (.call .heap (.f 93) [(.t 181),(.f 94)]) [1],Zf 183 1 15 [0,1,2],Zs 1 183 182 [3,2,2,0,1,2]] [] [1,157,158,180,181,182,183]) (.seq (.seq (.region [Zf 184 1 15 [],Zl 185 184 [0],Zv 186 185 [1],Zz 187 (.bin .gtr (.t 186) (.c (.int .i64 0))) [2]] [] [184,185,186]) (.cond (.t 187) (.region [Zw 188 3 15 [],Zz 189 (.bslice false .dyn 3 1 [(.str []),.nilsl,(.int .i64 0)] [(0,3,(.t 188))]) [0],Zf 190 4 3 [0,1],Zs 1 190 189 [2,1,0,1]] [] [15,187,188,189,190]) .skip)) (.seq (.region [Zw 191 5 3 [],Zs 5 2 191 [0,0]] [] [3,15,187,191]) .ret))))))))))))⟩
def s40:SFn:=by
 refine(?f:YA.Yt Tryz.prog cf 40 [[4],[8,9,10],[11],[0,1,5,12,13],[4,12,14,15],[16,17,18],[19,22,23,24,25],[26,27,28],[7,29,30,31,32,33],[34,35],[7,29,20,21],[1,6,36,37,38],[0,5,39,40,41]]) ?s ?h;case h=>exact YA.rr
 exact fun s _=>s
def s91:SFn:=by
 refine(?f:YA.Yt Tryz.prog cf 91 [[1],[2,7,8,9,10,11,12],[0,4,13,14,15]]) ?s ?h;case h=>exact YA.rr
 exact fun s _=>s
def s92:SFn:=by
 refine(?f:YA.Yt Tryz.prog cf 92 [[3],[0,1,4,5,6,7]]) ?s ?h;case h=>exact YA.rr
 exact fun s _=>s
def s93:SFn:=by
 refine(?f:YA.Yt Tryz.prog cf 93 [[4],[8,9,10],[11],[0,1,5,12,13],[4,12,14,15],[16,17,18],[19,22,23,24,25],[26,27,28],[7,29,30,31,32,33],[34,35],[7,29,20,21],[1,6,36,37,38],[0,5,39,40,41]]) ?s ?h;case h=>exact YA.rr
 exact fun s _=>s
def s94:SFn:=by
 refine(?f:YA.Yt Tryz.prog cf 94 [[0,2],[1,3,4,5]]) ?s ?h;case h=>exact YA.rr
 exact fun s _=>s
def s110:SFn:=by
 refine(?f:YA.Yt Tryz.prog cf 110 [[4],[6],[],[9,10],[11,12,13,14,15],[0,1,7,8,5,16,17],[4,5,16,18],[0,1,7,8]]) ?s ?h;case h=>exact YA.rr
 exact fun s _=>s
def s186:SFn:=by
 refine(?f:YA.Yt Tryz.prog cf 186 [[4],[6],[],[9,10],[11,12,13,14,15],[0,1,7,8,5,16,17],[4,5,16,18],[0,1,7,8]]) ?s ?h;case h=>exact YA.rr
 exact fun s _=>s
theorem ok26:okFn Tryz.prog 26 s26=true:=by kernel_rfl
theorem ok40:okFn Tryz.prog 40 s40=true:=by kernel_rfl
theorem ok91:okFn Tryz.prog 91 s91=true:=by kernel_rfl
theorem ok92:okFn Tryz.prog 92 s92=true:=by kernel_rfl
theorem ok93:okFn Tryz.prog 93 s93=true:=by kernel_rfl
theorem ok94:okFn Tryz.prog 94 s94=true:=by kernel_rfl
theorem ok110:okFn Tryz.prog 110 s110=true:=by kernel_rfl
theorem ok186:okFn Tryz.prog 186 s186=true:=by kernel_rfl
end
end Go.AM.SU
namespace Go.AM.SD
abbrev Ed:=Nat×Nat×Nat
def Rch(es:List Ed)(mk:List Nat)(left:Nat->Bool):Nat->Nat->Prop|0,x=>left x=true/\x∈mk|d+1,x=>Rch es mk left d x\/(left x=true/\∃e∈es,e.1=x/\Rch es mk left d e.2.2)
structure Dst(es:List Ed)(mk:List Nat)(left:Nat->Bool)(o:Nat->Int):Prop where
 neg:∀x,-1<=o x
 zero:∀x,left x=true->x∈mk->o x=0
 zero':∀x,o x=0->left x=true/\x∈mk
 succ:∀x(d:Nat),o x=(d:Int)+1->left x=true/\∃e∈es,e.1=x/\o e.2.2=(d:Int)edge:∀e∈es,left e.1=true->∀d:Nat,o e.2.2=(d:Int)->0<=o e.1/\o e.1<=(d:Int)+1
theorem Dst.rch{es:List Ed}{mk:List Nat}{left:Nat->Bool}{o:Nat->Int}(h:Dst es mk left o):∀(d x:Nat),Rch es mk left d x↔0<=o x/\o x<=(d:Int):=by
 intro d;induction d with|zero=>
  intro x;constructor;·intro a;have:=h.zero x a.1 a.2;omega
  intro a;exact h.zero' x (by omega)|succ d f=>
  intro x;constructor
  ·rintro(a|⟨c,e,he,rfl,g⟩);·grind
   have h1:=(f _).1 g;obtain⟨k,i⟩:=Za7 h1.1;have:=h.edge e he c k i;omega
  intro a;by_cases j:o x<=(d:Int);·exact .inl ((f x).2 ⟨a.1,j⟩)
  obtain⟨c,e,he,rfl,g⟩:=h.succ x d (by omega);exact .inr ⟨c,e,he,rfl,(f _).2 (by omega)⟩
theorem Dst.uniq{es:List Ed}{mk:List Nat}{left:Nat->Bool}{o o':Nat->Int}(h:Dst es mk left o)(h':Dst es mk left o')(x:Nat):o x=o' x:=by
 have key:∀d:Nat,(0<=o x/\o x<=(d:Int))↔(0<=o' x/\o' x<=(d:Int)):=fun d=>(h.rch d x).symm.trans (h'.rch d x);have h1:=h.neg x;have f:=h'.neg x;by_cases c:0<=o x;·grind[Za7]
 by_cases a:0<=o' x;·grind[Za7]
 omega
def rEd(left:Nat->Bool)(r:Nat)(s:List Int×Bool)(e:Ed):List Int×Bool:=if left e.1&&left e.2.2&&decide (s.1.getD e.1 0<0)&&decide (s.1.getD e.2.2 0=(r:Int)-1)then(s.1.set e.1 (r:Int),true)else s
def rRd(es:List Ed)(left:Nat->Bool)(r:Nat)(o:List Int):List Int×Bool:=es.foldl (rEd left r) (o,false)
def rDist(es:List Ed)(left:Nat->Bool):Nat->Nat->List Int->List Int|0,_,o=>o|k+1,r,o=>if(rRd es left r o).2 then rDist es left k (r+1) (rRd es left r o).1 else(rRd es left r o).1
def o0(n:Nat)(mk:List Nat)(left:Nat->Bool):List Int:=(List.range n).map fun i=>if left i&&mk.contains i then 0 else-1
def InN(n:Nat)(es:List Ed)(mk:List Nat):Prop:=(∀e∈es,e.1<n/\e.2.2<n)/\∀x∈mk,x<n
theorem Qeh{l:List Int}{i j:Nat}{a:Int}(hi:i<l.length):(l.set i a).getD j 0=if j=i then a else l.getD j 0:=by grind
structure RI(n:Nat)(es:List Ed)(mk:List Nat)(left:Nat->Bool)(r:Nat)(o:List Int):Prop where
 len:o.length=n
 neg:∀x,x<n->-1<=o.getD x 0
 lt:∀x,x<n->o.getD x 0<(r:Int)zero:∀x,x<n->left x=true->x∈mk->o.getD x 0=0
 zero':∀x,x<n->o.getD x 0=0->left x=true/\x∈mk
 succ:∀x(d:Nat),x<n->o.getD x 0=(d:Int)+1->left x=true/\∃e∈es,e.1=x/\o.getD e.2.2 0=(d:Int)edge:∀e∈es,left e.1=true->∀d:Nat,d+1<r->o.getD e.2.2 0=(d:Int)->0<=o.getD e.1 0/\o.getD e.1 0<=(d:Int)+1
theorem RI.left{n:Nat}{es:List Ed}{mk:List Nat}{left:Nat->Bool}{r:Nat}{o:List Int}(h:RI n es mk left r o){x:Nat}(a:x<n)(d:0<=o.getD x 0):left x=true:=by obtain⟨k,c⟩:=Za7 d;cases k with|zero=>exact(h.zero' x a c).1|succ k=>exact(h.succ x k a (by omega)).1
theorem RI.start{n:Nat}{es:List Ed}{mk:List Nat}{left:Nat->Bool}(f:InN n es mk):RI n es mk left 1 (o0 n mk left):=by
 have i:∀x,x<n->(o0 n mk left).getD x 0=if left x&&mk.contains x then 0 else-1:=fun x a=>by simp_all[o0]
 refine⟨by simp[o0],fun x a=>?_,fun x a=>?_,fun x a c hm=>?_,fun x a h=>?_,fun x d a h=>?_,fun e he c d g=>by omega⟩;·grind
 ·grind
 ·simp_all
 ·simp_all
 grind
structure RJ(n:Nat)(es:List Ed)(mk:List Nat)(left:Nat->Bool)(r:Nat)(o:List Int)(pre:List Ed)(s:List Int×Bool):Prop where
 len:s.1.length=n
 old:∀x,x<n->0<=o.getD x 0->s.1.getD x 0=o.getD x 0
 new:∀x,x<n->o.getD x 0<0->s.1.getD x 0=o.getD x 0\/(s.1.getD x 0=(r:Int)/\s.2=true/\left x=true/\∃e∈es,e.1=x/\o.getD e.2.2 0=(r:Int)-1)done:∀e∈pre,left e.1=true->left e.2.2=true->o.getD e.2.2 0=(r:Int)-1->0<=s.1.getD e.1 0
 flag:s.2=true->∃x,x<n/\o.getD x 0<0/\0<=s.1.getD x 0
theorem RJ.step{n:Nat}{es:List Ed}{mk:List Nat}{left:Nat->Bool}{r:Nat}{o:List Int}(E:1<=r)(l:InN n es mk)(h:RI n es mk left r o){pre:List Ed}{s:List Int×Bool}(a:RJ n es mk left r o pre s){e:Ed}(he:e∈es):RJ n es mk left r o (pre++[e]) (rEd left r s e):=by
 obtain⟨hf,q⟩:=l.1 e he;have w:s.1.getD e.2.2 0=(r:Int)-1↔o.getD e.2.2 0=(r:Int)-1:=by
  by_cases i:0<=o.getD e.2.2 0;·rw[a.old _ q i]
  have y:=h.neg _ q;rcases a.new _ q (by omega)with h1|h1;·rw[h1]
  omega
 unfold rEd;split
 ·rename_i hc;simp only[Zab,decide_eq_true_eq]at hc;obtain⟨⟨⟨h1,C⟩,v⟩,z⟩:=hc;have p:o.getD e.1 0<0:=by
   by_cases i:0<=o.getD e.1 0;·rw[a.old _ hf i]at v;omega
   omega
  have c:∀x,(s.1.set e.1 (r:Int)).getD x 0=if x=e.1 then(r:Int)else s.1.getD x 0:=fun x=>Qeh (by grind);refine⟨by simp[a.len],fun x t i=>?_,fun x t i=>?_,fun k f j g m=>?_,fun _=>⟨e.1,hf,p,?_⟩⟩
  ·rw[c];split;·grind
   exact a.old x t i
  ·rw[c];split;·grind
   rcases a.new x t i with d|⟨d,B,A⟩;·exact .inl d
   simp_all
  ·rw[c];split;·omega
   rename_i u;rcases ZaI.1 f with d|d;·exact a.done k d j g m
   simp_all
  simp_all
 rename_i hc;refine⟨a.len,a.old,a.new,fun k f j g m=>?_,a.flag⟩;rcases ZaI.1 f with d|d;·exact a.done k d j g m
 simp_all
theorem RJ.all{n:Nat}{es:List Ed}{mk:List Nat}{left:Nat->Bool}{r:Nat}{o:List Int}(j:1<=r)(c:InN n es mk)(h:RI n es mk left r o):RJ n es mk left r o es (rRd es left r o):=by
 have key:∀(a pre:List Ed)(s:List Int×Bool),(∀e∈a,e∈es)->RJ n es mk left r o pre s->RJ n es mk left r o (pre++a) (a.foldl (rEd left r) s):=by intro a;induction a with|nil=>intro pre s _ h;rw[Zao];exact h|cons e a g=>intro pre s d f;have:=g (pre++[e]) (rEd left r s e) (fun x i=>d x (by simp[i])) (f.step j c h (d e (by simp)));simpa[ZaM]using this
 have:=key es [] (o,false) (fun _ h=>h) ⟨h.len,fun _ _ _=>rfl,fun _ _ _=>.inl rfl,(fun e he=>by cases he),(fun h=>by cases h)⟩;simp_all[rRd]
theorem RI.next{n:Nat}{es:List Ed}{mk:List Nat}{left:Nat->Bool}{r:Nat}{o:List Int}(q:1<=r)(f:InN n es mk)(h:RI n es mk left r o):RI n es mk left (r+1) (rRd es left r o).1:=by
 have c:=RJ.all q f h;have k:∀x,x<n->0<=(rRd es left r o).1.getD x 0->0<=o.getD x 0\/(rRd es left r o).1.getD x 0=(r:Int):=fun x a i=>by
  by_cases h1:0<=o.getD x 0;·exact .inl h1
  rcases c.new x a (by omega)with g|g;·omega
  omega
 refine⟨c.len,fun x a=>?_,fun x a=>?_,fun x a j hm=>?_,fun x a i=>?_,fun x d a i=>?_,fun e he j d s i=>?_⟩
 ·by_cases h1:0<=o.getD x 0;·rw[c.old x a h1];omega
  rcases c.new x a (by omega)with g|g;·rw[g];exact h.neg x a
  omega
 ·by_cases h1:0<=o.getD x 0;·rw[c.old x a h1];have:=h.lt x a;omega
  grind
 ·have :=h.zero x a j hm;rw[c.old x a (by omega)];exact this
 ·rcases k x a (by omega)with h1|h1;·rw[c.old x a h1]at i;exact h.zero' x a i
  omega
 ·by_cases h1:0<=o.getD x 0;·rw[c.old x a h1]at i;obtain⟨j,e,he,g,l⟩:=h.succ x d a i;exact⟨j,e,he,g,by rw[c.old _ (f.1 e he).2 (by omega)];exact l⟩
  rcases c.new x a (by omega)with g|⟨g,_,j,e,he,l,m⟩;·omega
  exact⟨j,e,he,l,by rw[c.old _ (f.1 e he).2 (by omega)];omega⟩
 have hf:=(f.1 e he).1;have p:=(f.1 e he).2;rcases k _ p (by omega)with h1|h1
 ·rw[c.old _ p h1]at i;by_cases g:d+1<r;·have :=h.edge e he j d g i;rw[c.old _ hf this.1];exact this
  have l:=c.done e he j (h.left p h1) (by omega);refine⟨l,?_⟩;rcases k _ hf l with m|m;·rw[c.old _ hf m];have:=h.lt _ hf;omega
  omega
 omega
def cntN(n:Nat)(o:List Int):Nat:=(List.range n).countP fun x=>decide (o.getD x 0<0)
theorem Qpl{n:Nat}{o o':List Int}(h:∀x,x<n->0<=o.getD x 0->0<=o'.getD x 0){x:Nat}(g:x<n)(h1:o.getD x 0<0)(j:0<=o'.getD x 0):cntN n o'<cntN n o:=by
 unfold cntN;have a:x∈List.range n:=Zau.2 g;have c:∀y∈List.range n,(decide (o'.getD y 0<0))=true->decide (o.getD y 0<0)=true:=by grind
 generalize List.range n=l at a c;induction l with|nil=>cases a|cons y l i=>
  have hle:l.countP (fun x=>decide (o'.getD x 0<0))<=l.countP (fun x=>decide (o.getD x 0<0)):=List.countP_mono_left fun z f d=>c z (by simp[f]) d;rw[ZbF,ZbF];rcases ZaA.1 a with e|hm;·grind
  grind
theorem RI.dst{n:Nat}{es:List Ed}{mk:List Nat}{left:Nat->Bool}{r:Nat}{o:List Int}(f:InN n es mk)(h:RI n es mk left r o)(l:∀x,x<n->o.getD x 0+1<(r:Int)):Dst es mk left (fun x=>if x<n then o.getD x 0 else-1):=by
 refine⟨fun x=>?_,fun x g hm=>?_,fun x a=>?_,fun x d a=>?_,fun e he g d a=>?_⟩
 ·split;·rename_i c;exact h.neg x c
  omega
 ·have c:=f.2 x hm;rw[if_pos c];exact h.zero x c g hm
 ·split at a;·rename_i c;exact h.zero' x c a
  omega
 ·split at a;·rename_i c;obtain⟨g,e,he,i,k⟩:=h.succ x d c a;exact⟨g,e,he,i,by rw[if_pos (f.1 e he).2];exact k⟩
  omega
 obtain⟨hf,j⟩:=f.1 e he;rw[if_pos j]at a;rw[if_pos hf];exact h.edge e he g d (by grind) a
theorem Qpm{n:Nat}{es:List Ed}{mk:List Nat}{left:Nat->Bool}(a:InN n es mk):∀(k r:Nat)(o:List Int),1<=r->RI n es mk left r o->cntN n o<k->(rDist es left k r o).length=n/\Dst es mk left (fun x=>if x<n then(rDist es left k r o).getD x 0 else-1):=by intro k;induction k with|zero=>intro r o _ _ h;omega|succ k m=>
 intro r o j h hc;have g:=RJ.all j a h;have i:=h.next j a;have c:∀x,x<n->0<=o.getD x 0->0<=(rRd es left r o).1.getD x 0:=fun x d l=>by rw[g.old x d l];exact l
 unfold rDist;split;·rename_i hf;obtain⟨x,d,h1,f⟩:=g.flag hf;exact m (r+1) _ (by omega) i (by have:=Qpl c d h1 f;omega)
 rename_i hf;refine⟨i.len,i.dst a fun x d=>?_⟩;have:(rRd es left r o).1.getD x 0<(r:Int):=by
  by_cases h1:0<=o.getD x 0;·rw[g.old x d h1];exact h.lt x d
  rcases g.new x d (by omega)with f|f;·rw[f];omega
  simp_all
 omega
end Go.AM.SD
namespace Go.AM.SD
def preds(es:List Ed)(v:Nat):List Nat:=(es.filter fun e=>e.2.2==v).map (·.1)
theorem Qdw{es:List Ed}{v y:Nat}:y∈preds es v↔∃e∈es,e.1=y/\e.2.2=v:=by simp only[preds,Zaq,Zbq,beq_iff_eq];simp_all
abbrev QS:=List Int×List Nat
def bMk(left:Nat->Bool)(s:QS)(x:Nat):QS:=if left x then(s.1.set x 0,s.2++[x])else s
def bMks(n:Nat)(mk:List Nat)(left:Nat->Bool):QS:=mk.foldl (bMk left) (List.replicate n (-1),[])
def bEd(left:Nat->Bool)(v:Nat)(s:QS)(y:Nat):QS:=if left y&&decide (s.1.getD y 0<0)then(s.1.set y (s.1.getD v 0+1),s.2++[y])else s
def bRow(es:List Ed)(left:Nat->Bool)(v:Nat)(s:QS):QS:=(preds es v).foldl (bEd left v) s
def bQ(es:List Ed)(left:Nat->Bool):Nat->Nat->QS->QS|0,_,s=>s|k+1,i,s=>match s.2[i]? with|some v=>bQ es left k (i+1) (bRow es left v s)|none=>s
def pDist(n:Nat)(es:List Ed)(mk:List Nat)(left:Nat->Bool):List Int:=(bQ es left (n+1) 0 (bMks n mk left)).1
structure BI(n:Nat)(es:List Ed)(mk:List Nat)(left:Nat->Bool)(s:QS):Prop where
 len:s.1.length=n
 cnt:cntN n s.1+s.2.length=n
 neg:∀x,x<n->-1<=s.1.getD x 0
 inl:∀x,x∈s.2↔x<n/\0<=s.1.getD x 0
 zero:∀x,x<n->left x=true->x∈mk->s.1.getD x 0=0
 zero':∀x,x<n->s.1.getD x 0=0->left x=true/\x∈mk
 succ:∀x(d:Nat),x<n->s.1.getD x 0=(d:Int)+1->left x=true/\∃e∈es,e.1=x/\s.1.getD e.2.2 0=(d:Int)mono:∀(a b x y:Nat),a<=b->s.2[a]?=some x->s.2[b]?=some y->s.1.getD x 0<=s.1.getD y 0
def Done(es:List Ed)(left:Nat->Bool)(i:Nat)(s:QS):Prop:=∀(a v:Nat),a<i->s.2[a]?=some v->∀e∈es,e.2.2=v->left e.1=true->0<=s.1.getD e.1 0/\s.1.getD e.1 0<=s.1.getD v 0+1
def Near(v:Nat)(s:QS):Prop:=∀x,x∈s.2->s.1.getD x 0<=s.1.getD v 0+1
theorem Qnm{n:Nat}{o:List Int}{y:Nat}{a:Int}(m:o.length=n)(i:y<n)(h:o.getD y 0<0)(p:0<=a):cntN n (o.set y a)+1=cntN n o:=by have f:∀x,(o.set y a).getD x 0=if x=y then a else o.getD x 0:=fun x=>Qeh (by omega);unfold cntN;have d:(List.range n).Nodup:=Za2;have c:y∈List.range n:=Zau.2 i;generalize List.range n=l at d c;induction l with|nil=>cases c|cons z l j=>
 rw[Zb6]at d;rw[ZbF,ZbF,f];by_cases g:z=y
 ·subst g;rw[if_pos rfl,if_neg (by simp;omega),if_pos (by simpa using h)];have:l.countP (fun x=>decide ((o.set z a).getD x 0<0))=l.countP (fun x=>decide (o.getD x 0<0)):=by refine List.countP_congr fun x k=>?_;grind
  rw[this]
 grind
theorem Qnn{l:List Nat}{y b z:Nat}(h:(l++[y])[b]?=some z):l[b]?=some z\/(b=l.length/\z=y):=by grind
theorem BI.push{n:Nat}{es:List Ed}{mk:List Nat}{left:Nat->Bool}{s:QS}(h:BI n es mk left s){v y i:Nat}(t:InN n es mk)(F:s.2[i]?=some v)(g:Near v s){e:Ed}(he:e∈es)(H:e.1=y)(B:e.2.2=v)(C:left y=true)(l:s.1.getD y 0<0):BI n es mk left (s.1.set y (s.1.getD v 0+1),s.2++[y])/\Near v (s.1.set y (s.1.getD v 0+1),s.2++[y])/\(s.1.set y (s.1.getD v 0+1)).getD v 0=s.1.getD v 0/\(∀x,x<n->0<=s.1.getD x 0->(s.1.set y (s.1.getD v 0+1)).getD x 0=s.1.getD x 0):=by
 have r:y<n:=by have:=(t.1 e he).1;omega
 have m:=(h.inl v).1 (Zaf F);have c:∀x,(s.1.set y (s.1.getD v 0+1)).getD x 0=if x=y then s.1.getD v 0+1 else s.1.getD x 0:=fun x=>Qeh (by grind);have hold:∀x,x<n->0<=s.1.getD x 0->(s.1.set y (s.1.getD v 0+1)).getD x 0=s.1.getD x 0:=fun x f j=>by grind
 have o:=hold v m.1 m.2;have A:y∉s.2:=fun hm=>by have:=((h.inl y).1 hm).2;omega
 refine⟨⟨by simp[h.len],?_,fun x f=>?_,fun x=>?_,fun x f w hm=>?_,fun x f j=>?_,fun x d f j=>?_,fun a b x z q f G=>?_⟩,fun x f=>?_,o,hold⟩;·have h1:=Qnm h.len r l (a:=s.1.getD v 0+1) (by omega);have p:=h.cnt;grind
 ·rw[c];split;·omega
  exact h.neg x f
 ·rw[c,ZaI,Zbg];by_cases f:x=y;·omega
  rw[if_neg f,h.inl x];simp[f]
 ·have :=h.zero x f w hm;grind
 ·rw[c]at j;split at j;·omega
  exact h.zero' x f j
 ·rw[c]at j;split at j;·grind
  obtain⟨w,J,E,p,I⟩:=h.succ x d f j;grind
 ·rcases Qnn f with h1|⟨h1,rfl⟩<;>rcases Qnn G with p|⟨p,rfl⟩;·have k:=(h.inl x).1 (Zaf h1);have u:=(h.inl z).1 (Zaf p);rw[hold x k.1 k.2,hold z u.1 u.2];exact h.mono a b x z q h1 p
  ·have k:=(h.inl x).1 (Zaf h1);rw[hold x k.1 k.2,c,if_pos rfl];exact g x (Zaf h1)
  ·grind
  omega
 rw[o];rcases ZaI.1 f with h1|h1;·have k:=(h.inl x).1 h1;rw[hold x k.1 k.2];exact g x h1
 simp_all
theorem Done.push{n:Nat}{es:List Ed}{mk:List Nat}{left:Nat->Bool}{s:QS}(h:BI n es mk left s){y i:Nat}{o':List Int}(d:InN n es mk)(hi:i<=s.2.length)(k:Done es left i s)(hold:∀x,x<n->0<=s.1.getD x 0->o'.getD x 0=s.1.getD x 0):Done es left i (o',s.2++[y]):=by
 intro a v l m e he g j;have c:s.2[a]?=some v:=by grind
 have:=k a v l c e he g j;have f:=(h.inl v).1 (Zaf c);show 0<=o'.getD e.1 0/\o'.getD e.1 0<=o'.getD v 0+1;rw[hold _ (d.1 e he).1 this.1,hold v f.1 f.2];exact this
theorem BI.row{n:Nat}{es:List Ed}{mk:List Nat}{left:Nat->Bool}(a:InN n es mk){v i:Nat}:∀(ys:List Nat)(s:QS),(∀y∈ys,∃e∈es,e.1=y/\e.2.2=v)->BI n es mk left s->s.2[i]?=some v->Near v s->Done es left i s->BI n es mk left (ys.foldl (bEd left v) s)/\(ys.foldl (bEd left v) s).2[i]?=some v/\Near v (ys.foldl (bEd left v) s)/\Done es left i (ys.foldl (bEd left v) s)/\(∀x,x<n->0<=s.1.getD x 0->(ys.foldl (bEd left v) s).1.getD x 0=s.1.getD x 0)/\∀y∈ys,left y=true->0<=(ys.foldl (bEd left v) s).1.getD y 0:=by intro ys;induction ys with|nil=>intro s _ h c m l;exact⟨h,c,m,l,fun _ _ _=>rfl,fun y k=>by cases k⟩|cons y ys F=>
 intro s d h c m l;obtain⟨e,he,k,g⟩:=d y (by simp);have E:y<n:=by have:=(a.1 e he).1;omega
 rw[ZaN];by_cases hc:(left y&&decide (s.1.getD y 0<0))=true
 ·have p:bEd left v s y=(s.1.set y (s.1.getD v 0+1),s.2++[y]):=if_pos hc;simp only[Zab,decide_eq_true_eq]at hc;obtain⟨h1,r,L,C⟩:=h.push a c m he k g hc.1 hc.2;have A:i<s.2.length:=(Zam.1 c).1;have o:=Done.push (y:=y) h a (by omega) l C;have j:(s.2++[y])[i]?=some v:=by grind
  rw[p];obtain⟨w,B,t,u,K,I⟩:=F _ (fun z f=>d z (by simp[f])) h1 j r o;refine⟨w,B,t,u,fun x M H=>?_,fun z f J=>?_⟩;·simp_all
  rcases ZaA.1 f with rfl|f
  ·have q:(s.1.set z (s.1.getD v 0+1)).getD z 0=s.1.getD v 0+1:=by rw[Qeh (by grind),if_pos rfl]
   have G:=(h.inl v).1 (Zaf c);grind
  simp_all
 have p:bEd left v s y=s:=if_neg hc;simp_all
structure BH(n:Nat)(es:List Ed)(mk:List Nat)(left:Nat->Bool)(i:Nat)(s:QS):Prop where
 bi:BI n es mk left s
 done:Done es left i s
 near:∀v,s.2[i]?=some v->Near v s
 le:i<=s.2.length
theorem BH.step{n:Nat}{es:List Ed}{mk:List Nat}{left:Nat->Bool}(c:InN n es mk){i v:Nat}{s:QS}(h:BH n es mk left i s)(m:s.2[i]?=some v):BH n es mk left (i+1) (bRow es left v s):=by
 obtain⟨j,g,o,t,C,r⟩:=BI.row c (preds es v) s (fun y w=>Qdw.1 w) h.bi m (h.near v m) h.done;have z:i<(bRow es left v s).2.length:=(Zam.1 g).1;refine⟨j,fun a u B d e he f q=>?_,fun u d x A=>?_,by omega⟩
 ·by_cases k:a<i;·exact t a u k d e he f q
  have :a=i:=by omega
  subst this;have l:u=v:=Option.some.inj (d.symm.trans g);subst l;have p:=r e.1 (Qdw.2 ⟨e,he,rfl,f⟩) q;exact⟨p,o e.1 ((j.inl _).2 ⟨(c.1 e he).1,p⟩)⟩
 have h1:=o x A;have f:=j.mono i (i+1) v u (by omega) g d;grind[bRow]
theorem BH.dst{n:Nat}{es:List Ed}{mk:List Nat}{left:Nat->Bool}(f:InN n es mk){i:Nat}{s:QS}(h:BH n es mk left i s)(hi:s.2[i]?=none):Dst es mk left (fun x=>if x<n then s.1.getD x 0 else-1):=by
 have p:s.2.length<=i:=List.getElem?_eq_none_iff.1 hi;refine⟨fun x=>?_,fun x j hm=>?_,fun x g=>?_,fun x d g=>?_,fun e he j d g=>?_⟩
 ·split;·rename_i c;exact h.bi.neg x c
  omega
 ·have c:=f.2 x hm;rw[if_pos c];exact h.bi.zero x c j hm
 ·split at g;·rename_i c;exact h.bi.zero' x c g
  omega
 ·split at g;·rename_i c;obtain⟨j,e,he,m,o⟩:=h.bi.succ x d c g;exact⟨j,e,he,m,by rw[if_pos (f.1 e he).2];exact o⟩
  omega
 obtain⟨hf,l⟩:=f.1 e he;rw[if_pos l]at g;rw[if_pos hf];have hm:e.2.2∈s.2:=(h.bi.inl _).2 ⟨l,by omega⟩;obtain⟨a,k⟩:=List.getElem?_of_mem hm;have q:a<s.2.length:=(Zam.1 k).1;have:=h.done a e.2.2 (by omega) k e he rfl j;omega
theorem Qlr{n:Nat}{es:List Ed}{mk:List Nat}{left:Nat->Bool}(a:InN n es mk):∀(k i:Nat)(s:QS),BH n es mk left i s->n<k+i->(bQ es left k i s).1.length=n/\Dst es mk left (fun x=>if x<n then(bQ es left k i s).1.getD x 0 else-1):=by intro k;induction k with|zero=>intro i s h d;have:=h.bi.cnt;have:=h.le;omega|succ k f=>intro i s h d;unfold bQ;cases c:s.2[i]? with|some v=>exact f (i+1) _ (h.step a c) (by omega)|none=>exact⟨h.bi.len,h.dst a c⟩
theorem QrQ(n:Nat):cntN n (List.replicate n (-1))=n:=by grind[cntN,List.countP_eq_length]
theorem Qgt{n:Nat}{es:List Ed}{mk:List Nat}{left:Nat->Bool}(k:InN n es mk)(f:mk.Nodup):BH n es mk left 0 (bMks n mk left):=by
 have key:∀(ms pre:List Nat)(s:QS),(pre++ms).Nodup->(∀x∈pre++ms,x<n)->s.1.length=n->cntN n s.1+s.2.length=n->(∀x,x<n->s.1.getD x 0=if left x&&pre.contains x then 0 else-1)->(∀x,x∈s.2↔left x=true/\x∈pre)->(ms.foldl (bMk left) s).1.length=n/\cntN n (ms.foldl (bMk left) s).1+(ms.foldl (bMk left) s).2.length=n/\(∀x,x<n->(ms.foldl (bMk left) s).1.getD x 0=if left x&&(pre++ms).contains x then 0 else-1)/\(∀x,x∈(ms.foldl (bMk left) s).2↔left x=true/\x∈pre++ms):=by intro ms;induction ms with|nil=>intro pre s _ _ h1 l j i;rw[Zao];exact⟨h1,l,j,i⟩|cons m ms t=>
  intro pre s f g h1 l j i;have q:m<n:=g m (by simp);have A:m∉pre:=fun hm=>by grind
  have e:pre++m::ms=(pre++[m])++ms:=by simp
  rw[e]at f g⊢;rw[ZaN];have z:s.1.getD m 0=-1:=by grind
  by_cases p:left m=true
  ·have o:bMk left s m=(s.1.set m 0,s.2++[m]):=if_pos p;rw[o];refine t (pre++[m]) _ f g (by simp[h1]) ?_ (fun x c=>?_) fun x=>?_;·have :=Qnm h1 q (by omega) (a:=0) (by omega);grind
   ·show(s.1.set m 0).getD x 0=_;rw[Qeh (by omega)];by_cases h:x=m;·grind
    rw[if_neg h,j x c];simp[h]
   show x∈s.2++[m]↔_;rw[ZaI,ZaI,i,Zbg];constructor
   ·rintro(E|rfl);·grind
    grind
   grind
  have o:bMk left s m=s:=if_neg p;rw[o];refine t (pre++[m]) _ f g h1 l (fun x c=>?_) fun x=>?_
  ·rw[j x c];by_cases h:x=m;·grind
   simp[h]
  rw[ZaI,i,Zbg];constructor;·grind
  grind
 obtain⟨h1,l,j,i⟩:=key mk [] (List.replicate n (-1),[]) (by simpa using f) (by simpa using k.2) (by simp) (by rw[QrQ];rfl) (fun x c=>by simp_all) (fun x=>by simp);rw[ZaB]at j i;have F:∀x,x<n->(bMks n mk left).1.getD x 0=0\/(bMks n mk left).1.getD x 0=-1:=fun x c=>by grind[bMks]
 have r:∀x,x∈(bMks n mk left).2->(bMks n mk left).1.getD x 0=0:=fun x c=>by grind[bMks]
 refine⟨⟨h1,l,fun x c=>?_,fun x=>?_,fun x c p hm=>?_,fun x c u=>?_,fun x d c u=>?_,fun a b x y _ w C=>?_⟩,fun a v w=>by omega,fun v B x c=>?_,Zah _⟩;·grind
 ·constructor;·intro c;exact⟨k.2 x ((i x).1 c).2,by simp_all⟩
  grind[bMks]
 ·simp_all[bMks]
 ·simp_all[bMks]
 ·grind
 ·grind
 grind
theorem Qls{n:Nat}{es:List Ed}{mk:List Nat}{left:Nat->Bool}(a:InN n es mk)(c:mk.Nodup){k:Nat}(g:n<k):pDist n es mk left=rDist es left k 1 (o0 n mk left):=by
 obtain⟨h1,d⟩:=Qlr a (n+1) 0 _ (Qgt (left:=left) a c) (by omega);have hc:cntN n (o0 n mk left)<k:=by grind[cntN,ZbV]
 obtain⟨h,f⟩:=Qpm a k 1 _ (by omega) (RI.start (left:=left) a) hc;refine Zba fun i=>?_;by_cases hi:i<n;·have :=d.uniq f i;simp_all[pDist]
 simp_all[pDist]
end Go.AM.SD
namespace Go.AM.SD
def bad(left:Nat->Bool)(unc:List Nat)(e:Ed):Bool:=left e.1&&!left e.2.2&&unc.contains e.2.1
def pLs(left:Nat->Bool)(unc:List Nat)(out:List (Nat×Nat))(e:Ed):List (Nat×Nat):=if bad left unc e then(if(match out.getLast? with|some p=>p.1==e.1|none=>false)then out else out++[(e.1,e.2.1)])else out
def pLost(es:List Ed)(left:Nat->Bool)(unc:List Nat):List (Nat×Nat):=es.foldl (pLs left unc) []
def rL1(es:List Ed)(left:Nat->Bool)(unc:List Nat)(st:Nat):Option (Nat×Nat):=if left st then(es.find? fun e=>e.1==st&&!left e.2.2&&unc.contains e.2.1).map fun e=>(st,e.2.1)else none
def rLost(n:Nat)(es:List Ed)(left:Nat->Bool)(unc:List Nat):List (Nat×Nat):=(List.range n).filterMap (rL1 es left unc)
theorem Qpn{l c:List (Nat×Nat)}(h:l.Pairwise fun a b=>a.1<b.1)(h':c.Pairwise fun a b=>a.1<b.1)(hm:∀p,p∈l↔p∈c):l=c:=by induction l generalizing c with
 |nil=>cases c with|nil=>rfl|cons p c=>exact absurd ((hm p).2 (by simp)) (by simp)
 |cons p l d=>cases c with|nil=>exact absurd ((hm p).1 (by simp)) (by simp)|cons q c=>
  rw[Zaz]at h h';have e:p=q:=by grind
  subst e;rw[d h.2 h'.2 fun r=>?_];constructor;·grind
  grind
theorem Qf2(n:Nat)(es:List Ed)(left:Nat->Bool)(unc:List Nat):(rLost n es left unc).Pairwise fun a b=>a.1<b.1:=by
 unfold rLost;refine List.Pairwise.filterMap _ (R:=(·<·)) ?_ ZbC;intro a b c p hp q d;have h1:∀(st:Nat)(p:Nat×Nat),rL1 es left unc st=some p->p.1=st:=by simp_all[rL1]
 grind
theorem QjH{n:Nat}{es:List Ed}{left:Nat->Bool}{unc:List Nat}{p:Nat×Nat}:p∈rLost n es left unc↔p.1<n/\rL1 es left unc p.1=some p:=by
 unfold rLost;rw[ZbH];have h1:∀(st:Nat)(p:Nat×Nat),rL1 es left unc st=some p->p.1=st:=by simp_all[rL1]
 grind
theorem QiM{pre:List Ed}{e:Ed}{left:Nat->Bool}{unc:List Nat}(st:Nat):rL1 (pre++[e]) left unc st=match rL1 pre left unc st with|some p=>some p|none=>if e.1==st&&bad left unc e then some (st,e.2.1)else none:=by grind[rL1,bad]
theorem Qpo{left:Nat->Bool}{unc:List Nat}:∀(es2 pre:List Ed)(out:List (Nat×Nat)),(pre++es2).Pairwise (fun a b=>a.1<=b.1)->out.Pairwise (fun a b=>a.1<b.1)->(∀p,p∈out↔rL1 pre left unc p.1=some p)->(∀p∈out,∃e∈pre,e.1=p.1)->(es2.foldl (pLs left unc) out).Pairwise (fun a b=>a.1<b.1)/\∀p,p∈es2.foldl (pLs left unc) out↔rL1 (pre++es2) left unc p.1=some p:=by intro es2;induction es2 with|nil=>intro pre out _ h1 h2 _;rw[Zao];exact⟨h1,h2⟩|cons e es2 ih=>
 intro pre out hs h1 h2 h3;have ea:pre++e::es2=(pre++[e])++es2:=by simp
 rw[ea]at hs⊢;rw[ZaN];have hge:∀p∈out,p.1<=e.1:=fun p hp=>by obtain⟨x,hx,hxe⟩:=h3 p hp;rw[Zbb]at hs;have:=(Zbb.1 hs.1).2.2 x hx e (by simp);omega
 by_cases hb:bad left unc e=true
 ·by_cases hlast:(match out.getLast? with|some p=>p.1==e.1|none=>false)=true
  ·have e1:pLs left unc out e=out:=by grind[pLs]
   rw[e1];refine ih (pre++[e]) out hs h1 (fun p=>?_) fun p hp=>?_;·rw[QiM];cases hr:rL1 pre left unc p.1 with|some q=>rw[h2 p,hr]|none=>
    have hnp:¬p∈out:=fun hp=>by grind
    have hne:(e.1==p.1)=false:=by grind
    simp only[hne,Zbl,Zap,if_false];exact⟨fun hp=>absurd hp hnp,fun h=>by cases h⟩
   obtain⟨x,hx,hxe⟩:=h3 p hp;grind
  have e1:pLs left unc out e=out++[(e.1,e.2.1)]:=by grind[pLs]
  have hlt:∀p∈out,p.1<e.1:=by intro p hp;cases hg:out.getLast? with|none=>rw[List.getLast?_eq_none_iff]at hg;subst hg;cases hp|some q=>
   rw[hg]at hlast;have hqe:q.1≠e.1:=by grind
   have hq:q∈out:=List.mem_of_getLast? hg;have hqle:=hge q hq;obtain⟨init,hi⟩:∃init,out=init++[q]:=by grind[List.getLast?_eq_some_iff]
   rw[hi]at hp h1;rcases ZaI.1 hp with hp|hp;·grind
   grind
  rw[e1];refine ih (pre++[e]) _ hs (Zbb.2 ⟨h1,by simp,fun p hp q hq=>by grind⟩) (fun p=>?_) fun p hp=>?_
  ·rw[QiM,ZaI,Zbg]
   cases hr:rL1 pre left unc p.1 with|some q=>
    have hq1:p.1=q.1:=by
     unfold rL1 at hr;split at hr;·cases hf:pre.find? fun e=>e.1==p.1&&!left e.2.2&&unc.contains e.2.1 with|none=>rw[hf]at hr;cases hr|some e=>rw[hf]at hr;cases hr;rfl
     cases hr
    have hqm:q∈out:=(h2 q).2 (by grind);have hne:p≠(e.1,e.2.1):=by grind
    simp only[hne,or_false];rw[h2 p,hr]|none=>
    have hnp:¬p∈out:=fun hp=>by grind
    simp only[hnp,false_or];by_cases hep:e.1=p.1;·grind
    grind
  rcases ZaI.1 hp with hp|hp;·obtain⟨x,hx,hxe⟩:=h3 p hp;grind
  grind
 have e1:pLs left unc out e=out:=by grind[pLs]
 rw[e1];refine ih (pre++[e]) out hs h1 (fun p=>?_) fun p hp=>?_;·rw[QiM];grind
 obtain⟨x,hx,hxe⟩:=h3 p hp;grind
theorem Qlt{n:Nat}{es:List Ed}{left:Nat->Bool}{unc:List Nat}(i:es.Pairwise fun a b=>a.1<=b.1)(d:∀e∈es,e.1<n):pLost es left unc=rLost n es left unc:=by
 obtain⟨h1,c⟩:=Qpo (left:=left) (unc:=unc) es [] [] (by simpa using i) List.Pairwise.nil (fun p=>by simp[rL1]) (fun p hp=>by cases hp);rw[ZaB]at c;refine Qpn h1 (Qf2 n es left unc) fun p=>?_;rw[QjH];refine(c p).trans ⟨fun h=>⟨?_,h⟩,fun h=>h.2⟩;unfold rL1 at h;split at h;·cases hf:es.find? fun e=>e.1==p.1&&!left e.2.2&&unc.contains e.2.1 with|none=>rw[hf]at h;cases h|some e=>have g:=Zbw hf;have f:=List.find?_some hf;simp only[Zab,beq_iff_eq]at f;have:=d e g;omega
 cases h
structure Rm where
 st:Nat
 rank:Int
 reason:Nat
 ev:Int deriving DecidableEq
def lostF(rank:Int)(l:List (Nat×Nat)):List Rm:=l.map fun p=>⟨p.1,rank,2,(p.2:Int)⟩
def blkF(left:Nat->Bool)(rank:Int)(d:List Int):List Rm:=(List.range d.length).filterMap fun i=>if left i&&decide (d.getD i 0<0)then some ⟨i,rank,3,-1⟩else none
def pNext(n:Nat)(es:List Ed)(mk:List Nat)(left:Nat->Bool)(unc:List Nat)(rank:Int)(all:Bool):List Rm:=if decide (0<(pLost es left unc).length)||!all then lostF rank (pLost es left unc)else blkF left rank (pDist n es mk left)
def rNext(n:Nat)(es:List Ed)(mk:List Nat)(left:Nat->Bool)(unc:List Nat)(rank:Int)(closed:Bool):List Rm:=if decide (0<(rLost n es left unc).length)||closed then lostF rank (rLost n es left unc)else blkF left rank (rDist es left (n+1) 1 (o0 n mk left))
theorem Qlu{n:Nat}{es:List Ed}{mk:List Nat}{left:Nat->Bool}{unc:List Nat}{rank:Int}{all:Bool}(c:InN n es mk)(d:mk.Nodup)(f:es.Pairwise fun a b=>a.1<=b.1):pNext n es mk left unc rank all=rNext n es mk left unc rank (!all):=by unfold pNext rNext;rw[Qlt f fun e he=>(c.1 e he).1,Qls c d (k:=n+1) (by omega)]
end Go.AM.SD
namespace Go.AM.SD
abbrev LB:=List Bool
def lf(l:LB):Nat->Bool:=fun i=>l.getD i false
def offs(l:LB)(xs:List Nat):LB:=xs.foldl (fun l x=>l.set x false) l
def pRounds(n:Nat)(es:List Ed)(mk:List Nat)(unc:List Nat)(all:Bool):Nat->Nat->LB->List Rm->Nat->LB×List Rm×Nat|0,_,l,rs,k=>(l,rs,k)|f+1,a,l,rs,k=>if(pNext n es mk (lf l) unc a all).length=0 then(l,rs,k)else pRounds n es mk unc all f (a+1) (offs l ((pNext n es mk (lf l) unc a all).map (·.st))) (rs++pNext n es mk (lf l) unc a all) a
def putR(rs:List Rm)(l:List Rm):List Rm:=l.foldl (fun rs x=>rs.set x.st x) rs
def rRounds(n:Nat)(es:List Ed)(mk:List Nat)(unc:List Nat)(closed:Bool):Nat->Nat->LB->List Rm->Nat->LB×List Rm×Nat|0,_,l,rs,k=>(l,rs,k)|f+1,a,l,rs,k=>if(rNext n es mk (lf l) unc a closed).length=0 then(l,rs,k)else rRounds n es mk unc closed f (a+1) (offs l ((rNext n es mk (lf l) unc a closed).map (·.st))) (putR rs (rNext n es mk (lf l) unc a closed)) a
def rm0(i:Nat):Rm:=⟨i,1,1,-1⟩
def asm(n:Nat)(l:LB)(rs:List Rm):List Rm:=(List.range n).filterMap fun i=>if lf l i then none else rs[i]?
theorem Qdb(xs:List Nat):∀l:LB,(offs l xs).length=l.length:=by induction xs with|nil=>intro l;rfl|cons x xs a=>intro l;show(offs (l.set x false) xs).length=_;rw[a];simp
theorem QdT(xs:List Nat):∀(l:LB)(i:Nat),lf (offs l xs) i=(lf l i&&!xs.contains i):=by induction xs with|nil=>intro l i;simp[offs,lf]|cons x xs a=>
 intro l i;show lf (offs (l.set x false) xs) i=_;rw[a];have:lf (l.set x false) i=(lf l i&&!(i==x)):=by grind[lf]
 rw[this,List.contains_cons];cases lf l i<;>cases(i==x)<;>cases xs.contains i<;>rfl
theorem Qhy{n:Nat}{es:List Ed}{mk:List Nat}{left:Nat->Bool}{unc:List Nat}{rank:Int}{all:Bool}(c:InN n es mk)(d:mk.Nodup)(h:es.Pairwise fun a b=>a.1<=b.1):(pNext n es mk left unc rank all).Pairwise (fun a b=>a.st<b.st)/\∀r∈pNext n es mk left unc rank all,r.st<n/\left r.st=true:=by
 have f:(pDist n es mk left).length=n:=(Qlr c (n+1) 0 _ (Qgt (left:=left) c d) (by omega)).1;unfold pNext;split
 ·unfold lostF;rw[Qlt h fun e he=>(c.1 e he).1];constructor;·simp_all[Zbp,Qf2]
  intro r g;obtain⟨p,hp,rfl⟩:=Zaq.1 g;simp_all[QjH,rL1]
 unfold blkF;rw[f];constructor;·grind[ZbC]
 grind
def cntL(n:Nat)(l:LB):Nat:=(List.range n).countP fun i=>lf l i
theorem Qno{n:Nat}{l d:LB}(h:∀i,i<n->lf d i=true->lf l i=true){x:Nat}(j:x<n)(h1:lf l x=true)(o:lf d x=false):cntL n d<cntL n l:=by unfold cntL;have a:x∈List.range n:=Zau.2 j;have c:∀y∈List.range n,lf d y=true->lf l y=true:=fun y g=>h y (Zau.1 g);generalize List.range n=L at a c;induction L with|nil=>cases a|cons y L m=>
 have hle:L.countP (fun x=>lf d x)<=L.countP (fun x=>lf l x):=List.countP_mono_left fun z k f=>c z (by simp[k]) f;rw[ZbF,ZbF];rcases ZaA.1 a with e|hm;·grind
 grind
theorem Qeq{xs:List Nat}{r:Nat}(h:r∈xs):xs.contains r=true:=by simpa using h
structure Agr(n:Nat)(l:LB)(rs rr:List Rm):Prop where
 len:rr.length=n
 st:∀(i:Nat)(r:Rm),rr[i]?=some r->r.st=i
 nd:(rs.map (·.st)).Nodup
 mem:∀r:Rm,r∈rs↔r.st<n/\lf l r.st=false/\rr[r.st]?=some r
theorem Qhz(l:List Rm):∀rs,(putR rs l).length=rs.length:=by induction l with|nil=>intro rs;rfl|cons x l a=>intro rs;show(putR (rs.set x.st x) l).length=_;rw[a];simp
theorem QqP:∀(l:List Rm)(rs:List Rm)(i:Nat),(∀r∈l,r.st<rs.length)->l.Pairwise (fun a b=>a.st<b.st)->(putR rs l)[i]?=match l.find? (fun r=>r.st==i)with|some r=>some r|none=>rs[i]?:=by intro l;induction l with|nil=>intro rs i _ _;rfl|cons x l f=>
 intro rs i c hp;rw[Zaz]at hp;show(putR (rs.set x.st x) l)[i]?=_;rw[f _ i (fun r g=>by simp_all) hp.2];have d:=c x (by simp);by_cases e:x.st=i;·grind
 simp_all
theorem Agr.step{n:Nat}{l:LB}{rs rr d:List Rm}(h:Agr n l rs rr)(x:l.length=n)(hp:d.Pairwise fun a b=>a.st<b.st)(hm:∀r∈d,r.st<n/\lf l r.st=true):Agr n (offs l (d.map (·.st))) (rs++d) (putR rr d):=by
 have k:=fun i=>QqP d rr i (fun r c=>by rw[h.len];simp_all) hp;have g:∀r∈d,d.find? (fun q=>q.st==r.st)=some r:=by intro r c;cases hf:d.find? (fun q=>q.st==r.st)with|none=>rw[List.find?_eq_none]at hf;exact absurd (hf r c) (by simp)|some q=>
  have m:=Zbw hf;have w:q.st=r.st:=by grind
  have:q=r:=by clear hf k;induction d with|nil=>cases c|cons y d z=>
   rw[Zaz]at hp;rcases ZaA.1 c with e|o<;>rcases ZaA.1 m with u|t;·rw[e,u]
   ·grind
   ·grind
   simp_all
  rw[this]
 refine⟨by rw[Qhz,h.len],fun i r c=>?_,?_,fun r=>?_⟩;·rw[k]at c;cases hf:d.find? (fun q=>q.st==i)with|some q=>rw[hf]at c;cases c;simpa using List.find?_some hf|none=>rw[hf]at c;exact h.st i r c
 ·rw[ZaL,List.nodup_append];refine⟨h.nd,?_,fun a v b p e=>?_⟩;·rw[ZaK,Zbp];exact hp.imp fun h=>by omega
  subst e;obtain⟨r,c,rfl⟩:=Zaq.1 v;obtain⟨q,m,s⟩:=Zaq.1 p;have h1:=((h.mem r).1 c).2.1;grind
 rw[ZaI,QdT,k];constructor
 ·rintro(c|c);·obtain⟨h1,j,f⟩:=(h.mem r).1 c;grind
  grind
 rintro⟨h1,j,f⟩;cases hf:d.find? (fun q=>q.st==r.st)with|some q=>rw[hf]at f;cases f;exact .inr (Zbw hf)|none=>
  rw[hf]at f;refine .inl ((h.mem r).2 ⟨h1,?_,f⟩);have:(d.map (·.st)).contains r.st=false:=by simp_all
  rw[this]at j;simpa using j
theorem Qpp{n:Nat}{es:List Ed}{mk:List Nat}{unc:List Nat}{all:Bool}(d:InN n es mk)(c:mk.Nodup)(i:es.Pairwise fun a b=>a.1<=b.1):∀(f rank:Nat)(l:LB)(rs rr:List Rm)(k:Nat),l.length=n->Agr n l rs rr->(pRounds n es mk unc all f rank l rs k).1=(rRounds n es mk unc (!all) f rank l rr k).1/\(pRounds n es mk unc all f rank l rs k).2.2=(rRounds n es mk unc (!all) f rank l rr k).2.2/\(pRounds n es mk unc all f rank l rs k).1.length=n/\Agr n (pRounds n es mk unc all f rank l rs k).1 (pRounds n es mk unc all f rank l rs k).2.1 (rRounds n es mk unc (!all) f rank l rr k).2.1:=by intro f;induction f with|zero=>intro rank l rs rr k g h;exact⟨rfl,rfl,g,h⟩|succ f m=>
 intro rank l rs rr k g h;unfold pRounds rRounds;rw[<-Qlu d c i];split;·simp_all
 obtain⟨h1,j⟩:=Qhy (left:=lf l) (unc:=unc) (rank:=rank) (all:=all) d c i;exact m (rank+1) _ _ _ rank (by grind[Qdb]) (h.step g h1 j)
theorem Qoh{l c:List Rm}(h:l.Pairwise fun a b=>a.st<b.st)(h':c.Pairwise fun a b=>a.st<b.st)(hm:∀p,p∈l↔p∈c):l=c:=by induction l generalizing c with
 |nil=>cases c with|nil=>rfl|cons p c=>exact absurd ((hm p).2 (by simp)) (by simp)
 |cons p l d=>cases c with|nil=>exact absurd ((hm p).1 (by simp)) (by simp)|cons q c=>
  rw[Zaz]at h h';have e:p=q:=by grind
  subst e;rw[d h.2 h'.2 fun r=>?_];constructor;·grind
  grind
theorem QsZ{n:Nat}{l:LB}{rs rr d:List Rm}(h:Agr n l rs rr)(hp:d.Pairwise fun a b=>a.st<=b.st)(c:d.Perm rs):d=asm n l rr:=by
 have f:(d.map (·.st)).Nodup:=(c.map _).nodup_iff.2 h.nd;have g:d.Pairwise fun a b=>a.st<b.st:=by rw[ZaK,Zbp]at f;exact(hp.and f).imp fun h=>by omega
 have k:∀(i:Nat)(r:Rm),(if lf l i then none else rr[i]?)=some r->r.st=i:=by
  intro i r j;split at j;·cases j
  exact h.st i r j
 refine Qoh g ?_ fun r=>?_;·grind[asm,ZbC]
 rw[c.mem_iff,h.mem r];grind[asm]
end Go.AM.SD
namespace Go.AM.SD
def left0(n:Nat)(forb:List Nat):LB:=offs (List.replicate n true) forb
theorem QhA{n:Nat}{forb:List Nat}{x:Nat}:lf (left0 n forb) x=true↔x<n/\x∉forb:=by grind[left0,QdT,lf]
def fin(n:Nat)(es:List Ed)(mk:List Nat)(forb unc:List Nat)(all:Bool):LB×List Rm×Nat:=pRounds n es mk unc all (n+1) 2 (left0 n forb) (forb.map rm0) (if forb.length=0 then 0 else 1)
end Go.AM.SD
namespace Go.AM.SD
structure Aut where
 al:List Nat
 n:Nat
 ms:List Nat
 es:List Ed
structure WfA(a:Aut):Prop where
 al:a.al.Pairwise (·<·)al5:∀x∈a.al,x<32
 n5:a.n<=4096
 ms:a.ms.Pairwise (·<·)msn:∀x∈a.ms,x<a.n
 es:a.es.Pairwise fun x y=>x.1<y.1\/(x.1=y.1/\x.2.1<y.2.1)esn:∀e∈a.es,e.1<a.n/\e.2.2<a.n
 ev:∀e∈a.es,e.2.1∈a.al
theorem WfA.inN{a:Aut}(h:WfA a):InN a.n a.es a.ms:=⟨h.esn,h.msn⟩
theorem WfA.nd{a:Aut}(h:WfA a):a.ms.Nodup:=by rw[ZaK];exact h.ms.imp fun h=>by omega
theorem WfA.srt{a:Aut}(h:WfA a):a.es.Pairwise fun x y=>x.1<=y.1:=h.es.imp fun h=>by omega
def stepA(es:List Ed)(s ev:Nat):Option Nat:=(es.find? fun e=>e.1==s&&e.2.1==ev).map (·.2.2)
def fEv(es:List Ed)(s:Nat)(out:List Nat)(ev:Nat):List Nat:=match stepA es s ev with|some to=>if out.contains to then out else out++[to]|none=>out
def fRow(al:List Nat)(es:List Ed)(s:Nat)(out:List Nat):List Nat:=al.foldl (fEv es s) out
def fQ(al:List Nat)(es:List Ed):Nat->Nat->List Nat->List Nat|0,_,out=>out|k+1,i,out=>match out[i]? with|some s=>fQ al es k (i+1) (fRow al es s out)|none=>out
def found(a:Aut):List Nat:=fQ a.al a.es (a.n+1) 0 (if 0<a.n then[0]else[])
def idx(l:List Nat)(x:Nat):Nat:=l.findIdx (·==x)
def cRow(a:Aut)(f:List Nat)(i s:Nat):List Ed:=a.al.filterMap fun ev=>(stepA a.es s ev).map fun to=>(i,ev,idx f to)
def cRows(a:Aut)(f:List Nat):List Ed:=(List.range f.length).flatMap fun i=>cRow a f i (f.getD i 0)
def canon(a:Aut):Aut:=⟨a.al,(found a).length,(List.range (found a).length).filter fun i=>a.ms.contains ((found a).getD i 0),cRows a (found a)⟩
theorem Qfb{n:Nat}{es:List Ed}(a:∀e∈es,e.1<n/\e.2.2<n){s ev to:Nat}(h:stepA es s ev=some to):to<n:=by unfold stepA at h;cases hf:es.find? fun e=>e.1==s&&e.2.1==ev with|none=>rw[hf]at h;cases h|some e=>rw[hf]at h;cases h;exact(a e (Zbw hf)).2
structure FI(n:Nat)(out:List Nat):Prop where
 nd:out.Nodup
 lt:∀x∈out,x<n
theorem QaS:∀(n:Nat)(l:List Nat),l.Nodup->(∀x∈l,x<n)->l.length<=n
 |0,l,_,h=>by cases l with|nil=>exact ZaO _|cons x l=>have:=h x (by simp);omega
 |n+1,l,a,h=>by
  by_cases hm:n∈l
  ·have h1:=QaS n (l.erase n) (a.erase n) fun x c=>by grind
   simp_all
  have :=QaS n l a fun x c=>by grind
  omega
theorem FI.len{n:Nat}{out:List Nat}(h:FI n out):out.length<=n:=QaS n out h.nd h.lt
theorem FI.row{n:Nat}{es:List Ed}(g:∀e∈es,e.1<n/\e.2.2<n)(s:Nat):∀(al:List Nat)(out:List Nat),FI n out->FI n (al.foldl (fEv es s) out)/\(∃t,al.foldl (fEv es s) out=out++t)/\∀ev∈al,∀to,stepA es s ev=some to->to∈al.foldl (fEv es s) out:=by intro al;induction al with|nil=>intro out h;exact⟨h,⟨[],by simp⟩,fun ev f=>by cases f⟩|cons ev al j=>
 intro out h;rw[ZaN];have h1:FI n (fEv es s out ev)/\(∃t,fEv es s out ev=out++t)/\∀to,stepA es s ev=some to->to∈fEv es s out ev:=by unfold fEv;cases m:stepA es s ev with|none=>exact⟨h,⟨[],by simp⟩,fun to d=>by cases d⟩|some to=>
  dsimp only;split;·simp_all
  rename_i hc;refine⟨⟨?_,fun x c=>?_⟩,⟨[to],rfl⟩,fun t d=>by cases d;simp⟩;·rw[List.nodup_append];refine⟨h.nd,by simp,fun a r b v e=>?_⟩;simp_all
  rcases ZaI.1 c with c|c;·exact h.lt x c
  simp at c;subst c;exact Qfb g m
 obtain⟨l,⟨t,u⟩,p⟩:=h1;obtain⟨k,⟨i,o⟩,q⟩:=j _ l;refine⟨k,⟨t++i,by simp_all⟩,fun e he to d=>?_⟩;rcases ZaA.1 he with rfl|he;·grind
 grind
theorem fQ_ok{n:Nat}{al:List Nat}{es:List Ed}(x:∀e∈es,e.1<n/\e.2.2<n):∀(k i:Nat)(out:List Nat),FI n out->i<=out.length->n<k+i->(∀j s,j<i->out[j]?=some s->∀ev∈al,∀to,stepA es s ev=some to->to∈out)->FI n (fQ al es k i out)/\(∃t,fQ al es k i out=out++t)/\∀s∈fQ al es k i out,∀ev∈al,∀to,stepA es s ev=some to->to∈fQ al es k i out:=by intro k;induction k with|zero=>intro i out h hi m _;have:=h.len;omega|succ k p=>intro i out h hi m w;unfold fQ;cases g:out[i]? with|none=>have d:out.length<=i:=List.getElem?_eq_none_iff.1 g;refine⟨h,⟨[],by simp⟩,fun s hm ev a to l=>?_⟩;have hm:s∈out:=hm;obtain⟨j,c⟩:=List.getElem?_of_mem hm;have q:j<out.length:=(Zam.1 c).1;exact w j s (by omega) c ev a to l|some s=>
 dsimp only;obtain⟨y,⟨t,f⟩,B⟩:=FI.row x s al out h;have d:i<out.length:=(Zam.1 g).1;have f:fRow al es s out=out++t:=f;obtain⟨r,⟨v,z⟩,u⟩:=p (i+1) (fRow al es s out) y (by grind) (by omega) fun j A c o ev a to l=>by grind
 exact⟨r,⟨t++v,by simp_all⟩,u⟩
theorem Qfc{a:Aut}(d:∀e∈a.es,e.1<a.n/\e.2.2<a.n):FI a.n (found a)/\(∃t,found a=(if 0<a.n then[0]else[])++t)/\∀s∈found a,∀ev∈a.al,∀to,stepA a.es s ev=some to->to∈found a:=by
 refine fQ_ok d (a.n+1) 0 _ ?_ (Zah _) (by omega) fun j s g=>by omega
 split;·rename_i f;exact⟨by simp,fun x c=>by simp_all⟩
 exact⟨by simp,fun x c=>by cases c⟩
theorem Qei{l:List Nat}{x:Nat}(h:x∈l):idx l x<l.length:=Zbj ⟨x,h,by simp⟩
theorem QrR{l:List Nat}{x:Nat}(h:x∈l):l[idx l x]?=some x:=by have h1:=Qei h;rw[Zal h1];have:=List.findIdx_getElem (p:=(·==x)) (w:=h1);exact congrArg some (by simp_all:l[List.findIdx (·==x) l]'h1=x)
theorem QcC{l:List Nat}{f:Nat->List Ed}{R:Ed->Ed->Prop}(h1:∀i∈l,(f i).Pairwise R)(a:l.Pairwise fun i j=>∀x∈f i,∀y∈f j,R x y):(l.flatMap f).Pairwise R:=by grind
theorem QqQ{a:Aut}(h:a.al.Pairwise (·<·))(r:∀x∈a.al,x<32)(l:a.n<=4096)(t:∀e∈a.es,e.1<a.n/\e.2.2<a.n):WfA (canon a):=by
 obtain⟨h1,_,v⟩:=Qfc t;have c:∀i s,∀e∈cRow a (found a) i s,e.1=i/\e.2.1∈a.al/\(s∈found a->e.2.2<(found a).length):=by intro i s e he;obtain⟨ev,f,hm⟩:=ZbH.1 he;cases d:stepA a.es s ev with|none=>rw[d]at hm;cases hm|some to=>rw[d]at hm;cases hm;exact⟨rfl,f,fun n=>Qei (v s n ev f to d)⟩
 have g:∀i,i<(found a).length->(found a).getD i 0∈found a:=fun i hi=>by simp_all
 refine⟨h,r,Zax h1.len l,?_,fun x o=>?_,?_,fun e he=>?_,fun e he=>?_⟩;·exact List.pairwise_lt_range.filter _
 ·have :=(Zbq.1 o).1;exact Zau.1 this
 ·refine QcC (fun i hi=>?_) (List.pairwise_lt_range.imp fun u x o y A=>.inl ?_);·refine List.Pairwise.filterMap _ (R:=(·<·)) ?_ h;intro x y m p hp q k;cases d:stepA a.es ((found a).getD i 0) x with|none=>rw[d]at hp;cases hp|some to=>cases j:stepA a.es ((found a).getD i 0) y with|none=>rw[j]at k;cases k|some to2=>rw[d]at hp;rw[j]at k;cases hp;cases k;exact .inr ⟨rfl,m⟩
  grind
 ·obtain⟨i,hi,he⟩:=Zby.1 he;have hi:=Zau.1 hi;obtain⟨w,_,z⟩:=c _ _ e he;exact⟨by rw[w];exact hi,z (g i hi)⟩
 obtain⟨i,hi,he⟩:=Zby.1 he;exact(c _ _ e he).2.1
end Go.AM.SD
namespace Go.AM.SD
abbrev OE:=List Nat×List Ed
def sEd(i:Nat)(s:OE)(e:Ed):OE:=if s.1.contains e.2.2 then(s.1,s.2++[(i,e.2.1,idx s.1 e.2.2)])else(s.1++[e.2.2],s.2++[(i,e.2.1,s.1.length)])
def sOut(es:List Ed)(left:Nat->Bool)(v:Nat):List Ed:=es.filter fun e=>e.1==v&&left e.2.2
def sRow(es:List Ed)(left:Nat->Bool)(i v:Nat)(s:OE):OE:=(sOut es left v).foldl (sEd i) s
def sQ(es:List Ed)(left:Nat->Bool):Nat->Nat->OE->OE|0,_,s=>s|k+1,i,s=>match s.1[i]? with|some v=>sQ es left k (i+1) (sRow es left i v s)|none=>s
def sAll(a:Aut)(left:Nat->Bool):OE:=sQ a.es left (a.n+1) 0 (if decide (0<a.n)&&left 0 then[0]else[],[])
def restr(a:Aut)(left:Nat->Bool):Aut:=⟨a.al,(sAll a left).1.length,(List.range (sAll a left).1.length).filter fun i=>a.ms.contains ((sAll a left).1.getD i 0),(sAll a left).2⟩
theorem Qdc{l t:List Nat}{x:Nat}(h:x∈l):idx (l++t) x=idx l x:=by simp_all[idx,List.findIdx_append]
theorem QdU{l:List Nat}{x:Nat}(h:x∉l):idx (l++[x]) x=l.length:=by grind[idx]
theorem Qlv{l:List Nat}(a:l.Nodup){i x:Nat}(h:l[i]?=some x):idx l x=i:=by grind[QrR,List.getElem?_inj]
def num(o:List Nat)(i:Nat)(e:Ed):Ed:=(i,e.2.1,idx o e.2.2)
theorem Qb7{n:Nat}{left:Nat->Bool}(i:Nat):∀(c:List Ed)(s:OE),(∀e∈c,e.2.2<n/\left e.2.2=true)->FI n s.1->(∀x∈s.1,left x=true)->FI n (c.foldl (sEd i) s).1/\(∀x∈(c.foldl (sEd i) s).1,left x=true)/\(∃t,(c.foldl (sEd i) s).1=s.1++t)/\(∀e∈c,e.2.2∈(c.foldl (sEd i) s).1)/\(c.foldl (sEd i) s).2=s.2++c.map (num (c.foldl (sEd i) s).1 i):=by intro c;induction c with|nil=>intro s _ h k;exact⟨h,k,⟨[],by simp⟩,(fun e he=>by cases he),by simp⟩|cons e c o=>
 intro s f h k;rw[ZaN];obtain⟨r,u⟩:=f e (by simp);by_cases hc:s.1.contains e.2.2=true
 ·have m:sEd i s e=(s.1,s.2++[(i,e.2.1,idx s.1 e.2.2)]):=if_pos hc;have hm:e.2.2∈s.1:=by simpa using hc
  rw[m];obtain⟨l,j,⟨t,g⟩,p,q⟩:=o (s.1,s.2++[(i,e.2.1,idx s.1 e.2.2)]) (fun x d=>f x (by simp[d])) h k;refine⟨l,j,⟨t,g⟩,fun x d=>?_,?_⟩;·grind
  grind[num,Qdc]
 have m:sEd i s e=(s.1++[e.2.2],s.2++[(i,e.2.1,s.1.length)]):=if_neg hc;have hm:e.2.2∉s.1:=by simpa using hc
 rw[m];obtain⟨l,j,⟨t,g⟩,p,q⟩:=o (s.1++[e.2.2],s.2++[(i,e.2.1,s.1.length)]) (fun x d=>f x (by simp[d])) ⟨by rw[List.nodup_append];refine⟨h.nd,by simp,fun a v b w e=>?_⟩;simp_all,fun x d=>by
  rcases ZaI.1 d with d|d;·exact h.lt x d
  simp_all⟩ (fun x d=>by grind);have g:(c.foldl (sEd i) (s.1++[e.2.2],s.2++[(i,e.2.1,s.1.length)])).1=(s.1++[e.2.2])++t:=g;refine⟨l,j,⟨[e.2.2]++t,by simp_all⟩,fun x d=>?_,?_⟩;·grind
 grind[num,Qdc,QdU]
structure SI(n:Nat)(es:List Ed)(left:Nat->Bool)(i:Nat)(s:OE):Prop where
 fi:FI n s.1
 lft:∀x∈s.1,left x=true
 le:i<=s.1.length
 cl:∀j v,j<i->s.1[j]?=some v->∀e∈sOut es left v,e.2.2∈s.1
 ed:s.2=(List.range i).flatMap fun j=>(sOut es left (s.1.getD j 0)).map (num s.1 j)
theorem QaU{es:List Ed}{left:Nat->Bool}{v:Nat}{e:Ed}:e∈sOut es left v↔e∈es/\e.1=v/\left e.2.2=true:=by simp_all[sOut]
theorem SI.step{n:Nat}{es:List Ed}{left:Nat->Bool}(m:∀e∈es,e.1<n/\e.2.2<n){i v:Nat}{s:OE}(h:SI n es left i s)(q:s.1[i]?=some v):SI n es left (i+1) (sRow es left i v s):=by
 obtain⟨r,p,⟨t,a⟩,w,g⟩:=Qb7 i (sOut es left v) s (fun e he=>⟨(m e (QaU.1 he).1).2,(QaU.1 he).2.2⟩) h.fi h.lft;have o:i<s.1.length:=(Zam.1 q).1;have a:(sRow es left i v s).1=s.1++t:=a;have d:∀j,j<s.1.length->(sRow es left i v s).1.getD j 0=s.1.getD j 0:=fun j c=>by grind
 refine⟨r,p,by grind,fun j u c l e he=>?_,?_⟩
 ·rw[a,Za5 (by omega)]at l;by_cases k:j<i;·rw[a];exact List.mem_append_left _ (h.cl j u k l e he)
  grind
 show(sRow es left i v s).2=_;have g:(sRow es left i v s).2=s.2++(sOut es left v).map (num (sRow es left i v s).1 i):=g;rw[g,h.ed,ZaH,Zan];congr 1
 ·have :∀j∈List.range i,(sOut es left (s.1.getD j 0)).map (num s.1 j)=(sOut es left ((sRow es left i v s).1.getD j 0)).map (num (sRow es left i v s).1 j):=fun j c=>by
   have c:=Zau.1 c;rw[d j (by omega)];have f:s.1[j]?=some (s.1.getD j 0):=by grind
   refine Za0 fun e he=>?_;unfold num;rw[a,Qdc (h.cl j _ c f e he)]
  grind[Za0]
 simp_all
theorem sQ_ok{n:Nat}{es:List Ed}{left:Nat->Bool}(d:∀e∈es,e.1<n/\e.2.2<n):∀(k i:Nat)(s:OE),SI n es left i s->n<k+i->SI n es left (sQ es left k i s).1.length (sQ es left k i s)/\∃t,(sQ es left k i s).1=s.1++t:=by intro k;induction k with|zero=>intro i s h j;have:=h.fi.len;have:=h.le;omega|succ k g=>intro i s h j;unfold sQ;cases a:s.1[i]? with|some v=>obtain⟨h1,t,l⟩:=g (i+1) _ (h.step d a) (by omega);obtain⟨_,_,⟨c,f⟩,_,_⟩:=Qb7 i (sOut es left v) s (fun e he=>⟨(d e (QaU.1 he).1).2,(QaU.1 he).2.2⟩) h.fi h.lft;have f:(sRow es left i v s).1=s.1++c:=f;exact⟨h1,c++t,by simp_all⟩|none=>
 have:s.1.length=i:=by have:=List.getElem?_eq_none_iff.1 a;have:=h.le;omega
 dsimp only;rw[this];exact⟨h,[],by simp⟩
theorem QeM{a:Aut}{left:Nat->Bool}(h:WfA a):SI a.n a.es left (sAll a left).1.length (sAll a left)/\∃t,(sAll a left).1=(if decide (0<a.n)&&left 0 then[0]else[])++t:=by
 refine sQ_ok h.esn (a.n+1) 0 _ ?_ (by omega);refine⟨?_,fun x c=>?_,Zah _,fun j v d=>by omega,by simp⟩
 ·split;·rename_i hc;simp only[Zab,decide_eq_true_eq]at hc;exact⟨by simp,fun x c=>by simp_all⟩
  exact⟨by simp,fun x c=>by cases c⟩
 simp_all
theorem Qlw{a:Aut}{left:Nat->Bool}(h:WfA a):WfA (restr a left):=by
 obtain⟨k,_⟩:=QeM (left:=left) h;have f:∀(j:Nat)(e:Ed),j<(sAll a left).1.length->e∈(sOut a.es left ((sAll a left).1.getD j 0)).map (num (sAll a left).1 j)->∃c∈a.es,c.1=(sAll a left).1.getD j 0/\e=(j,c.2.1,idx (sAll a left).1 c.2.2)/\c.2.2∈(sAll a left).1:=by
  intro j e d he;obtain⟨c,g,rfl⟩:=Zaq.1 he;have n:(sAll a left).1[j]?=some ((sAll a left).1.getD j 0):=by simp_all
  exact⟨c,(QaU.1 g).1,(QaU.1 g).2.1,rfl,k.cl j _ d n c g⟩
 refine⟨h.al,h.al5,Zax k.fi.len h.n5,List.pairwise_lt_range.filter _,fun x l=>Zau.1 (Zbq.1 l).1,?_,fun e he=>?_,fun e he=>?_⟩
 ·show(sAll a left).2.Pairwise _;rw[k.ed];refine QcC (fun j d=>?_) (List.pairwise_lt_range.imp_of_mem fun{i j}hi d s x l y o=>.inl ?_);·rw[Zbp];have:(sOut a.es left ((sAll a left).1.getD j 0)).Pairwise fun x y=>x.1<y.1\/(x.1=y.1/\x.2.1<y.2.1):=h.es.filter _;refine this.imp_of_mem fun{x y}l o q=>.inr ⟨rfl,?_⟩;have h1:=(QaU.1 l).2.1;have t:=(QaU.1 o).2.1;show x.2.1<y.2.1;omega
  grind
 ·have he:e∈(sAll a left).2:=he;rw[k.ed]at he;obtain⟨j,d,he⟩:=Zby.1 he;obtain⟨c,_,_,m,p⟩:=f j e (Zau.1 d) he;rw[m];exact⟨Zau.1 d,Qei p⟩
 have he:e∈(sAll a left).2:=he;rw[k.ed]at he;obtain⟨j,d,he⟩:=Zby.1 he;obtain⟨c,r,_,m,p⟩:=f j e (Zau.1 d) he;rw[m];exact h.ev c r
theorem QrS{o:List Nat}(ho:o.Nodup)(i:Nat):∀(a:List Ed)(s:OE)(t:List Nat),(a.foldl (sEd i) s).1++t=o->(∃g,s.1++g=o)->(a.map (num o i)).foldl (sEd i) (List.range s.1.length,s.2)=(List.range (a.foldl (sEd i) s).1.length,(a.foldl (sEd i) s).2):=by intro a;induction a with|nil=>intro s t _ _;rfl|cons e a h=>
 intro s t k l;rw[ZaN]at k;rw[ZaR,ZaN,ZaN];obtain⟨g,l⟩:=l;have d:∀(a:List Ed)(s:OE),∃u,(a.foldl (sEd i) s).1=s.1++u:=by intro a;induction a with|nil=>intro s;exact⟨[],by simp⟩|cons e a h=>
  intro s;rw[ZaN];obtain⟨u,m⟩:=h (sEd i s e);rw[m];unfold sEd;split;·simp_all
  simp_all
 by_cases hc:s.1.contains e.2.2=true
 ·have j:sEd i s e=(s.1,s.2++[(i,e.2.1,idx s.1 e.2.2)]):=if_pos hc;have hm:e.2.2∈s.1:=by simpa using hc
  have c:idx o e.2.2=idx s.1 e.2.2:=by grind[Qdc]
  have p:sEd i (List.range s.1.length,s.2) (num o i e)=(List.range s.1.length,s.2++[(i,e.2.1,idx s.1 e.2.2)]):=by
   have f:idx o e.2.2<s.1.length:=by simp_all[Qei]
   unfold sEd num;rw[if_pos (by simpa using f)];have:idx (List.range s.1.length) (idx o e.2.2)=idx o e.2.2:=Qlv Za2 (Zbu f);simp_all
  grind
 have j:sEd i s e=(s.1++[e.2.2],s.2++[(i,e.2.1,s.1.length)]):=if_neg hc;have hm:e.2.2∉s.1:=by simpa using hc
 rw[j]at k⊢;obtain⟨u,m⟩:=d a (s.1++[e.2.2],s.2++[(i,e.2.1,s.1.length)]);have n:o=(s.1++[e.2.2])++(u++t):=by simp_all
 have c:idx o e.2.2=s.1.length:=by grind[Qdc,QdU]
 have p:sEd i (List.range s.1.length,s.2) (num o i e)=(List.range (s.1++[e.2.2]).length,s.2++[(i,e.2.1,s.1.length)]):=by simp_all[sEd,num,ZaH]
 grind
theorem Qs0{n:Nat}{es es':List Ed}{left:Nat->Bool}{o:List Nat}(ho:o.Nodup)(l:∀e∈es,e.1<n/\e.2.2<n)(m:∀i v,o[i]?=some v->sOut es' (fun _=>true) i=(sOut es left v).map (num o i)):∀(k i:Nat)(s:OE)(d:Nat),SI n es left i s->n<k+i->n<d+i->(sQ es left k i s).1=o->sQ es' (fun _=>true) d i (List.range s.1.length,s.2)=(List.range o.length,(sQ es left k i s).2):=by intro k;induction k with|zero=>intro i s d h y _ _;have:=h.fi.len;have:=h.le;omega|succ k x=>intro i s d h y w c;cases d with|zero=>have:=h.fi.len;have:=h.le;omega|succ d=>unfold sQ at c⊢;cases j:s.1[i]? with|none=>have f:s.1.length<=i:=List.getElem?_eq_none_iff.1 j;rw[j]at c;have c:s.1=o:=c;have:(List.range s.1.length)[i]?=none:=Zat (by simpa using f);dsimp only;rw[this,c]|some v=>
 have f:i<s.1.length:=(Zam.1 j).1;rw[j]at c;have c:(sQ es left k (i+1) (sRow es left i v s)).1=o:=c;have:(List.range s.1.length)[i]?=some i:=Zbu f;dsimp only;rw[this];dsimp only;have a:=h.step l j;obtain⟨_,t,q⟩:=sQ_ok l k (i+1) _ a (by omega);rw[c]at q;obtain⟨_,_,⟨r,p⟩,_,_⟩:=Qb7 i (sOut es left v) s (fun e he=>⟨(l e (QaU.1 he).1).2,(QaU.1 he).2.2⟩) h.fi h.lft;have p:(sRow es left i v s).1=s.1++r:=p;have u:o[i]?=some v:=by grind
 have g:sRow es' (fun _=>true) i i (List.range s.1.length,s.2)=(List.range (sRow es left i v s).1.length,(sRow es left i v s).2):=by simp_all[sRow,QrS]
 rw[g];exact x (i+1) _ d a (by omega) (by omega) c
theorem Qoi{a:Aut}{left:Nat->Bool}(h:WfA a){i v:Nat}(f:(sAll a left).1[i]?=some v):sOut (restr a left).es (fun _=>true) i=(sOut a.es left v).map (num (sAll a left).1 i):=by
 obtain⟨g,_⟩:=QeM (left:=left) h;have m:i<(sAll a left).1.length:=(Zam.1 f).1;show(sAll a left).2.filter _=_;rw[g.ed,List.filter_flatMap];have h1:∀j∈List.range (sAll a left).1.length,(((sOut a.es left ((sAll a left).1.getD j 0)).map (num (sAll a left).1 j)).filter fun e=>e.1==i&&true)=if j=i then(sOut a.es left v).map (num (sAll a left).1 i)else[]:=by
  intro j _;by_cases e:j=i;·subst e;rw[if_pos rfl,Zak,f];refine ZbP.2 fun x c=>?_;obtain⟨y,_,rfl⟩:=Zaq.1 c;simp[num]
  rw[if_neg e];refine List.filter_eq_nil_iff.2 fun x c=>?_;obtain⟨y,_,rfl⟩:=Zaq.1 c;simp[num,e]
 rw[List.flatMap_def,Za0 h1,<-List.flatMap_def];have key:∀(l:List Nat)(X:List Ed),l.Nodup->(l.flatMap fun j=>if j=i then X else[])=if i∈l then X else[]:=by intro l X;induction l with|nil=>intro _;rfl|cons j l k=>
  intro d;rw[Zb6]at d;rw[Zav,k d.2];by_cases e:j=i;·simp_all
  grind
 simp_all[Za2]
theorem Qoj{a:Aut}{left:Nat->Bool}(h:WfA a):sAll (restr a left) (fun _=>true)=(List.range (restr a left).n,(restr a left).es):=by
 obtain⟨u,t,r⟩:=QeM (left:=left) h;have q:SI a.n a.es left 0 ((if decide (0<a.n)&&left 0 then[0]else[],[]):OE):=by
  refine⟨?_,fun x d=>?_,Zah _,fun j v y=>by omega,by simp⟩
  ·split;·rename_i hc;simp only[Zab,decide_eq_true_eq]at hc;exact⟨by simp,fun x d=>by simp_all⟩
   exact⟨by simp,fun x d=>by cases d⟩
  simp_all
 have C:(restr a left).n<=a.n:=u.fi.len;by_cases hc:(decide (0<a.n)&&left 0)=true
 ·rw[if_pos hc]at q r;have p:sAll a left=sQ a.es left (a.n+1) 0 ([0],[]):=by simp_all[sAll]
  have o:0<(restr a left).n:=by show 0<(sAll a left).1.length;rw[r];simp
  have A:sAll (restr a left) (fun _=>true)=sQ (restr a left).es (fun _=>true) ((restr a left).n+1) 0 (List.range ([0]:List Nat).length,[]):=by simp_all[sAll]
  rw[A];have n:∀(es:List Ed)(left:Nat->Bool)(k i:Nat)(s:OE)(m:Nat),SI m es left i s->(∀e∈es,e.1<m/\e.2.2<m)->m<k+i->∀c,k<=c->sQ es left k i s=sQ es left c i s:=by intro es left k;induction k with|zero=>intro i s m h _ B;have:=h.fi.len;have:=h.le;omega|succ k z=>intro i s m h hm B c w;cases c with|zero=>omega|succ c=>unfold sQ;cases l:s.1[i]? with|none=>rfl|some v=>exact z (i+1) _ m (h.step hm l) hm (by omega) c (by omega)
  have g:=Qlw (left:=left) h;have f:SI (restr a left).n (restr a left).es (fun _=>true) 0 ((List.range ([0]:List Nat).length,[]):OE):=⟨⟨Za2,fun x d=>by simp_all⟩,fun _ _=>rfl,Zah _,fun j v y=>by omega,by simp⟩;rw[n _ _ ((restr a left).n+1) 0 _ (restr a left).n f g.esn (by omega) (a.n+1) (by omega)];have:=Qs0 (n:=a.n) (es:=a.es) (es':=(restr a left).es) (left:=left) (o:=(sAll a left).1) u.fi.nd h.esn (fun i v l=>Qoi h l) (a.n+1) 0 ([0],[]) (a.n+1) q (by omega) (by omega) (by rw[p]);rw[this];show _=(List.range (sAll a left).1.length,(sAll a left).2);rw[p]
 simp_all[sAll,if_neg,sQ,restr]
theorem QmM{a:Aut}{left:Nat->Bool}(h:WfA a):restr (restr a left) (fun _=>true)=restr a left:=by
 have h1:=Qoj (left:=left) h;have c:(sAll (restr a left) fun _=>true).1.length=(restr a left).n:=by rw[h1];simp
 have e:∀(A B:Aut),A.al=B.al->A.n=B.n->A.ms=B.ms->A.es=B.es->A=B:=fun A B h1 g j f=>by cases A;simp_all
 refine e _ _ rfl c ?_ (by simp_all[restr]);show(List.range (sAll (restr a left) fun _=>true).1.length).filter _=_;rw[c,h1];have d:(restr a left).ms=(List.range (restr a left).n).filter fun i=>a.ms.contains ((sAll a left).1.getD i 0):=rfl;have:∀i∈List.range (restr a left).n,(restr a left).ms.contains ((List.range (restr a left).n).getD i 0)=a.ms.contains ((sAll a left).1.getD i 0):=fun i hi=>by simp_all
 grind[ZbM]
end Go.AM.SD
namespace Go.AM.SD
def part(n bits:Nat):List Nat:=(List.range n).filter fun i=>bits.testBit i
theorem Qlx{n bits x:Nat}:x∈part n bits↔x<n/\bits.testBit x=true:=by simp[part]
theorem Qdp(n bits:Nat):(part n bits).Pairwise (·<·):=List.pairwise_lt_range.filter _
def kept(n:Nat)(l:LB):List Nat:=(List.range n).filter (lf l)
end Go.AM.SD
