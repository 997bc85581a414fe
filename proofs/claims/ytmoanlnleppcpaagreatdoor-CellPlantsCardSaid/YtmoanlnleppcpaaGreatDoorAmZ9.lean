/- A part of the proof of CellPlantsCardSaid: lemmas on the way (AmGa, AmO, AmOa, AmP, AmQ, AmQa, AmQb, AmQc, AmQd, AmQw, AmTc, AmTd, AmTe, AmTw, AmQe, AmTf, AmTg, AmTa, AmTb, AmTh, AmTj, AmTk, AmTl, AmTi, AmTn, AmCx, AmDa, AmDb, AmDc, AmDd, AmDe, AmDf, AmDg, AmDh, AmDi). Conditions: none of ours. -/
import Derived.Test.YtmoanlnleppcpaaGreatDoorProg
import Derived.KernelRfl
import Derived.Test.YtmoanlnleppcpaaGreatDoorAmZ8
set_option linter.unusedSectionVars false
set_option maxHeartbeats 32000000
set_option maxRecDepth 100000
set_option linter.unusedVariables false
set_option linter.unusedSimpArgs false
namespace Go.AM.TP
open Go.Proofs
def s5:SFn:=⟨94,[.tmp 2],
 (.seq (.region [Zz 1 (.box .dyn (.t 0)) [],
 Zz 2 (.mov (.c (.bool false))) []] [] [0,2])
 (.seq (.seq (.region [Zz 13 (.call .pure (.f 15) []) [],
 Zz 14 (.un .not (.t 13)) [0],
 Zm 15 14 [1,0],
 Zx 16 (.load (some 152) (.t 1)) [2] 15 false,
 Zx 17 (.call .pure (.f 25) [(.t 16)]) [3,2,2] 15 false,
 Zx 18 (.un .not (.t 17)) [4,2] 15 false,
 Zz 19 (.pick (.t 15) (.c (.bool true)) (.t 18)) [2,5]] [] [13,14,15,16,17,18])
 (.cond (.t 19)
 (.seq (.region [Zz 20 (.call .pure (.f 15) []) [],
 Zm 2 20 [0,0,0]] [] [1,19,20])
 .ret)
 .skip))
 (.seq (.region [Zw 21 152 1 [],
 Zz 22 (.call .pure (.f 26) [(.t 21)]) [0],
 Zz 3 (.alloc .dyn (.agg [.nilsl,.nilsl,.nilsl,.nilsl,.nilsl])) [],
 Zs 5 3 22 [2,1,1,0,1,2]] [] [2,1,19,21,22])
 (.seq (.region [Zw 24 5 3 [],
 Zz 25 (.call .pure (.f 27) [(.t 24)]) [0],
 Zm 23 25 [1],
 Zz 26 (.extract 0 (.t 23)) [2],
 Zz 27 (.extract 1 (.t 23)) [2],
 Zz 4 (.alloc .dyn (.agg [.nilsl,.nilsl,.nilsl])) [],
 Zs 3 4 26 [5,3,1,0,1,2,3,5],
 Zm 5 27 (Za [4,6] 7)] [] [24,25,23,26,27])
 (.seq (.region [Zw 29 5 3 [],
 Zz 30 (.call .pure (.f 17) [(.t 29)]) [0],
 Zm 28 30 [1],
 Zz 31 (.extract 0 (.t 28)) [2],
 Zz 32 (.extract 1 (.t 28)) [2],
 Zz 33 (.extract 2 (.t 28)) [2],
 Zz 6 (.alloc .dyn (.agg [.nilsl,(.int .i64 0),.nilsl,.nilsl])) [],
 Zs 4 6 31 [6,3,1,0,1,2,3,6],
 Zm 7 32 [4,7,0,1,2,3,4,6,7],
 Zm 8 33 (Za [5,8] 9)] [] [29,30,28,31,32,33])
 (.seq (.region [Zf 35 1 3 [],
 Zl 36 35 [0],
 Zz 37 (.call .pure (.f 29) [(.t 36)]) [1],
 Zz 38 (.call .pure (.f 28) [(.t 37)]) [2,2],
 Zm 34 38 [3],
 Zz 39 (.extract 0 (.t 34)) [4],
 Zz 40 (.extract 1 (.t 34)) [4],
 Zz 41 (.extract 2 (.t 34)) [4],
 Zz 9 (.alloc .dyn (.agg [.nilsl,(.int .i64 0),.nilsl,.nilsl])) [],
 Zs 4 9 39 [8,5,3,0,1,2,3,4,5,8],
 Zm 10 40 [6,9,0,1,2,3,4,5,6,8,9],
 Zm 11 41 (Za [7,10] 11)] [] [35,36,37,38,34,39,40,41])
 (.seq (.region [Zw 42 5 3 [],
 Zz 43 (.call .pure (.f 30) [(.t 42)]) [0],
 Zz 12 (.alloc .dyn (.agg [.nilsl,.nilsl,.nilsl])) [],
 Zs 3 12 43 [2,1,1,0,1,2]] [] [3,42,43])
 (.seq (.region [Zm 44 5 [],
 Zz 45 (.bin .eql (.t 44) (.c (.int .i64 0))) [0],
 Zm 46 45 [1],
 Zx 47 (.mov (.t 8)) [2] 46 true,
 Zx 48 (.bin .eql (.t 47) (.c (.int .i64 0))) [3,2] 46 true,
 Zz 49 (.pick (.t 46) (.t 48) (.c (.bool false))) [2,4],
 Zm 50 49 [5,2],
 Zx 51 (.mov (.t 11)) [6] 50 true,
 Zx 52 (.bin .eql (.t 51) (.c (.int .i64 0))) [7,6] 50 true,
 Zz 53 (.pick (.t 50) (.t 52) (.c (.bool false))) [6,8],
 Zm 54 53 [9,6],
 Zx 55 (.faddr 0 (.t 4)) [10] 54 true,
 Zx 56 (.load none (.t 55)) [11,10] 54 true,
 Zx 57 (.faddr 0 (.t 12)) [10] 54 true,
 Zx 58 (.load none (.t 57)) [13,10] 54 true,
 Zx 59 (.call .pure (.f 31) [(.t 56),(.t 58)]) [12,14,10,10] 54 true,
 Zz 60 (.pick (.t 54) (.t 59) (.c (.bool false))) [10,15],
 Zm 61 60 [16,15],
 Zx 62 (.faddr 1 (.t 4)) [17] 61 true,
 Zx 63 (.load none (.t 62)) [18,17] 61 true,
 Zx 64 (.len 1 (.t 63)) [19,17] 61 true,
 Zx 65 (.faddr 1 (.t 12)) [17] 61 true,
 Zx 66 (.load none (.t 65)) [21,17] 61 true,
 Zx 67 (.len 1 (.t 66)) [22,17] 61 true,
 Zx 68 (.bin .eql (.t 64) (.t 67)) [20,23,17] 61 true,
 Zz 69 (.pick (.t 61) (.t 68) (.c (.bool false))) [17,24],
 Zm 70 69 [25,17],
 Zx 71 (.faddr 2 (.t 4)) [26] 70 true,
 Zx 72 (.load none (.t 71)) [27,26] 70 true,
 Zx 73 (.len 1 (.t 72)) [28,26] 70 true,
 Zx 74 (.faddr 2 (.t 12)) [26] 70 true,
 Zx 75 (.load none (.t 74)) [30,26] 70 true,
 Zx 76 (.len 1 (.t 75)) [31,26] 70 true,
 Zx 77 (.bin .eql (.t 73) (.t 76)) [29,32,26] 70 true,
 Zz 78 (.pick (.t 70) (.t 77) (.c (.bool false))) [26,33],
 Zm 79 78 [34,26],
 Zx 80 (.load (some 3) (.t 4)) [35] 79 true,
 Zx 81 (.call .pure (.f 32) [(.t 80)]) [36,35,35] 79 true,
 Zx 82 (.bin .eql (.t 81) (.c (.int .i64 0))) [37,35] 79 true,
 Zz 83 (.pick (.t 79) (.t 82) (.c (.bool false))) [35,38],
 Zm 84 83 [39,37],
 Zx 85 (.load (some 4) (.t 6)) [40] 84 true,
 Zx 86 (.load (some 4) (.t 9)) [40] 84 true,
 Zx 87 (.call .pure (.f 33) [(.t 85),(.t 86)]) [41,42,40,40] 84 true,
 Zz 88 (.pick (.t 84) (.t 87) (.c (.bool false))) [40,43],
 Zm 89 88 [44,43],
 Zx 90 (.mov (.t 7)) [45] 89 true,
 Zx 91 (.mov (.t 10)) [45] 89 true,
 Zx 92 (.call .pure (.f 34) [(.t 90),(.t 91)]) [46,47,45,45] 89 true,
 Zz 93 (.pick (.t 89) (.t 92) (.c (.bool false))) [45,48],
 Zm 2 93 (Za [49,48] 50)] [] [4,5,6,7,8,9,10,11,12,44,45,46,47,48,49,50,51,52,53,54,55,56,57,58,59,60,61,62,63,64,65,66,67,68,69,70,71,72,73,74,75,76,77,78,79,80,81,82,83,84,85,86,87,88,89,90,91,92,93])
 .ret))))))))⟩
def s17:SFn:=⟨19,[.cell 2 (some 4),.tmp 3,.tmp 4],
 (.seq (.region [Zz 1 (.box .dyn (.t 0)) [],
 Zz 2 (.alloc .dyn (.agg [.nilsl,(.int .i64 0),.nilsl,.nilsl])) [],
 Zz 3 (.mov (.c .nilsl)) [],
 Zz 4 (.mov (.c (.int .i64 0))) [2]] [] [0,3,4])
 (.seq (.seq (.region [Zw 6 5 1 [],
 Zz 7 (.call .pure (.f 21) [(.t 6)]) [0],
 Zm 5 7 [1,1,0,1]] [] [6,7])
 (.seq (.region [Zm 8 5 [],
 Zz 9 (.bin .neq (.t 8) (.c (.int .i64 0))) [0]] [] [8])
 (.cond (.t 9)
 (.seq (.region [Zz 10 (.build [.nilsl,(.int .i64 0),.nilsl,.nilsl] []) [],
 Zm 11 5 [],
 Zs 4 2 10 [0,0],
 Zz 3 (.mov (.c .nilsl)) [2,0,2],
 Zm 4 11 [1,3,0,1,2,3]] [] [1,5,9,10,11])
 .ret)
 .skip)))
 (.seq (.region [Zf 12 1 1 [],
 Zl 13 12 [0],
 Zz 14 (.call .pure (.f 69) [(.t 13)]) [1],
 Zz 15 (.call .pure (.f 28) [(.t 14)]) [2,2],
 Zz 16 (.extract 0 (.t 15)) [3],
 Zz 17 (.extract 1 (.t 15)) [3],
 Zz 18 (.extract 2 (.t 15)) [3],
 Zs 4 2 16 (Za [4,3] 7),
 Zm 3 17 (Za [5,7] 8),
 Zm 4 18 (Za [6,8] 9)] [] [1,5,9,12,13,14,15,16,17,18])
 .ret)))⟩
def s27:SFn:=⟨13,[.cell 2 (some 3),.tmp 3],
 (.seq (.region [Zz 1 (.box .dyn (.t 0)) [],
 Zz 2 (.alloc .dyn (.agg [.nilsl,.nilsl,.nilsl])) [],
 Zz 3 (.mov (.c (.int .i64 0))) []] [] [0,3])
 (.seq (.seq (.region [Zw 5 5 1 [],
 Zz 6 (.call .pure (.f 21) [(.t 5)]) [0],
 Zm 4 6 [1,1,0,1]] [] [5,6])
 (.seq (.region [Zm 7 4 [],
 Zz 8 (.bin .neq (.t 7) (.c (.int .i64 0))) [0]] [] [7])
 (.cond (.t 8)
 (.seq (.region [Zz 9 (.build [.nilsl,.nilsl,.nilsl] []) [],
 Zm 10 4 [],
 Zs 3 2 9 [0,0],
 Zm 3 10 [1,2,0,1,2]] [] [1,4,8,9,10])
 .ret)
 .skip)))
 (.seq (.region [Zw 11 5 1 [],
 Zz 12 (.call .pure (.f 85) [(.t 11)]) [0],
 Zs 3 2 12 [1,1,0,1],
 Zz 3 (.mov (.c (.int .i64 0))) [2,0,1,2]] [] [1,4,8,11,12])
 .ret)))⟩
def s28:SFn:=⟨117,[.cell 2 (some 4),.tmp 3,.tmp 4],
 (.seq (.region [Zz 2 (.alloc .dyn (.agg [.nilsl,(.int .i64 0),.nilsl,.nilsl])) [],
 Zz 3 (.mov (.c .nilsl)) [],
 Zz 4 (.mov (.c (.int .i64 0))) [1]] [] [3,4])
 (.seq (.seq (.region [Zm 17 0 [],
 Zz 18 (.call .pure (.f 95) [(.t 17)]) [0],
 Zm 5 18 [1,1,0,1]] [] [17,18])
 (.seq (.region [Zm 19 5 [],
 Zz 20 (.bin .neq (.t 19) (.c (.int .i64 0))) [0]] [] [19])
 (.cond (.t 20)
 (.seq (.region [Zz 21 (.build [.nilsl,(.int .i64 0),.nilsl,.nilsl] []) [],
 Zm 22 5 [],
 Zs 4 2 21 [0,0],
 Zz 3 (.mov (.c .nilsl)) [2,0,2],
 Zm 4 22 [1,3,0,1,2,3]] [] [0,5,20,21,22])
 .ret)
 .skip)))
 (.seq (.region [Zm 23 0 [],
 Zz 24 (.call .pure (.f 96) [(.t 23)]) [0],
 Zz 6 (.alloc .dyn (.agg [.nilsl,.nilsl,.nilsl])) [],
 Zs 3 6 24 [2,1,1,0,1,2]] [] [3,4,0,5,20,23,24])
 (.seq (.region [Zf 25 1 6 [],
 Zl 26 25 [0],
 Zf 27 0 2 [0,1],
 Zs 1 27 26 [2,1,0,1]] [] [25,26,27])
 (.seq (.region [Zw 29 3 6 [],
 Zz 30 (.call .pure (.f 97) [(.t 29)]) [0],
 Zm 28 30 [1],
 Zz 31 (.extract 0 (.t 28)) [2],
 Zz 32 (.extract 1 (.t 28)) [2],
 Zm 7 31 [3,1,0,1,2,3],
 Zm 8 32 (Za [4,5] 6)] [] [29,30,28,31,32])
 (.seq (.seq (.region [Zm 33 8 [],
 Zz 34 (.un .not (.t 33)) [0]] [] [8,33])
 (.cond (.t 34)
 (.seq (.region [Zw 35 4 2 [],
 Zs 4 2 35 [0,0],
 Zz 3 (.mov (.c .nilsl)) [1,0,1],
 Zz 4 (.mov (.c (.int .i64 0))) [2,0,1,2]] [] [6,7,34,35])
 .ret)
 .skip))
 (.seq (.region [Zm 36 7 [],
 Zz 37 (.bslice false .dyn 1 1 [.nilsl] [(0,1,(.t 36))]) [0],
 Zm 3 37 [1,0,1]] [] [4,34,36,37])
 (.seq (.region [Zz 38 (.mkmap .dyn) [],
 Zm 39 7 [],
 Zz 40 (.call .pure (.f 98) [(.t 39)]) [1],
 Zy (.mupd false [.s] (.t 38) (.t 40) (.c (.int .i64 0))) [0,2],
 Zm 41 38 [0,1,2,3],
 Zm 9 41 (Za [4,2] 5)] [] [7,38,39,40,41])
 (.seq (.seq (.region [Zz 10 (.mov (.c (.int .i64 0))) []] [] [])
 (.block 0 (.loop (.seq (.seq (.region [Zm 42 10 [],
 Zm 43 3 [],
 Zv 44 43 [1],
 Zb 45 .lss 42 44 [0,2]] [] [42,43,44])
 (.cond (.t 45)
 .skip
 (.exit 0)))
 (.seq (.block 1 (.seq (.seq (.region [Zw 48 3 6 [],
 Zm 49 3 [],
 Zm 50 10 [],
 Zi 51 1 49 50 [1,2],
 Zl 52 51 [3],
 Zz 53 (.call .pure (.f 99) [(.t 48),(.t 52)]) [0,4]] [] [45,48,49,50,51,52])
 (.cond (.t 53)
 (.region [Zf 54 2 2 [],
 Zl 55 54 [0],
 Zm 56 10 [],
 Zz 57 (.bslice false .dyn 1 1 [(.int .i64 0)] [(0,1,(.t 56))]) [2],
 Zz 58 (.append .dyn 1 8 (.t 55) (.t 57)) [1,3],
 Zf 59 2 2 (Za [] 5),
 Zs 1 59 58 (Za [5,4,4] 5)] [] [53,54,55,56,57,58,59])
 .skip))
 (.seq (.region [Zf 60 1 6 [],
 Zl 61 60 [0],
 Zv 62 61 [1],
 Zz 63 (.mov (.c (.int .i64 0))) []] [] [53,60])
 (.block 2 (.loop (.seq (.region [Zb 64 .lss 63 62 []] [] [])
 (.seq (.cond (.t 64)
 .skip
 (.exit 2))
 (.seq (.block 3 (.seq (.region [Zi 65 1 61 63 [],
 Zl 66 65 [0],
 Zm 12 66 [1,0,1]] [] [64,65,66])
 (.seq (.region [Zw 68 3 6 [],
 Zm 69 3 [],
 Zm 70 10 [],
 Zi 71 1 69 70 [1,2],
 Zl 72 71 [3],
 Zm 73 12 [],
 Zz 74 (.call .pure (.f 100) [(.t 68),(.t 72),(.t 73)]) [0,4,5],
 Zm 67 74 [6],
 Zz 75 (.extract 0 (.t 67)) [7],
 Zz 76 (.extract 1 (.t 67)) [7],
 Zm 13 75 (Za [8,6] 9),
 Zm 14 76 (Za [9,10] 11)] [] [68,69,70,71,72,73,74,67,75,76])
 (.seq (.seq (.region [Zm 77 14 [],
 Zz 78 (.un .not (.t 77)) [0]] [] [14,77])
 (.cond (.t 78)
 (.exit 3)
 .skip))
 (.seq (.region [Zm 80 9 [],
 Zm 81 13 [],
 Zz 82 (.call .pure (.f 98) [(.t 81)]) [1],
 Zz 83 (.lookup false [.s] (.int .i64 0) true (.t 80) (.t 82)) [0,2],
 Zm 79 83 [3],
 Zz 84 (.extract 0 (.t 79)) [4],
 Zz 85 (.extract 1 (.t 79)) [4],
 Zm 15 84 (Za [5,2] 6),
 Zm 16 85 (Za [6,7] 8)] [] [78,80,81,82,83,79,84,85])
 (.seq (.seq (.region [Zm 86 16 [],
 Zz 87 (.un .not (.t 86)) [0]] [] [16,86])
 (.cond (.t 87)
 (.seq (.seq (.region [Zm 88 3 [],
 Zv 89 88 [0],
 Zz 90 (.bin .eql (.t 89) (.c (.int .i64 4096))) [1]] [] [15,87,88,89])
 (.cond (.t 90)
 (.seq (.region [Zz 91 (.build [.nilsl,(.int .i64 0),.nilsl,.nilsl] []) [],
 Zs 4 2 91 [0,0],
 Zz 3 (.mov (.c .nilsl)) [1,0,1],
 Zz 4 (.mov (.c (.int .i64 3))) [2,0,1,2]] [] [6,9,10,61,62,63,12,13,90,91])
 .ret)
 .skip))
 (.seq (.region [Zm 92 3 [],
 Zv 93 92 [0],
 Zm 15 93 [1,0,1]] [] [4,90,92,93])
 (.seq (.region [Zm 94 9 [],
 Zm 95 13 [],
 Zz 96 (.call .pure (.f 98) [(.t 95)]) [1],
 Zm 97 15 [],
 Zy (.mupd false [.s] (.t 94) (.t 96) (.t 97)) [0,2,3,2,0,1,2,3]] [] [94,95,96,97])
 (.region [Zm 98 3 [],
 Zm 99 13 [],
 Zz 100 (.bslice false .dyn 1 1 [.nilsl] [(0,1,(.t 99))]) [1],
 Zz 101 (.append .dyn 1 24 (.t 98) (.t 100)) [0,2],
 Zm 3 101 [3,3,0,1,2,3]] [] [13,98,99,100,101]))))
 .skip))
 (.region [Zf 102 3 2 [],
 Zl 103 102 [0],
 Zm 104 10 [],
 Zm 105 12 [],
 Zm 106 15 [],
 Zz 107 (.build [(.int .i64 0),(.int .i64 0),(.int .i64 0)] [(0,1,(.t 104)),(1,1,(.t 105)),(2,1,(.t 106))]) [2,3,4],
 Zz 108 (.bslice false .dyn 3 1 [(.int .i64 0),(.int .i64 0),(.int .i64 0)] [(0,3,(.t 107))]) [5],
 Zz 109 (.append .dyn 3 24 (.t 103) (.t 108)) [1,6],
 Zf 110 3 2 (Za [] 8),
 Zs 1 110 109 (Za [8,7,7] 8)] [] [12,15,13,87,102,103,104,105,106,107,108,109,110])))))))
 (.region [Zz 111 (.bin .add (.t 63) (.c (.int .i64 1))) [],
 Zm 63 111 [0]] [] [111])))))))))
 (.region [Zm 46 10 [],
 Zz 47 (.bin .add (.t 46) (.c (.int .i64 1))) [0],
 Zm 10 47 [1,0,1]] [] [61,62,63,46,47]))))))
 (.seq (.region [Zm 112 3 [],
 Zv 113 112 [0],
 Zf 114 1 2 [0,1],
 Zs 1 114 113 [2,1,0,1]] [] [6,9,10,112,113,114])
 (.seq (.region [Zw 115 4 2 [],
 Zm 116 3 [],
 Zs 4 2 115 [0,0],
 Zm 3 116 [1,2,0,1,2],
 Zz 4 (.mov (.c (.int .i64 0))) [3,0,1,2,3]] [] [115,116])
 .ret)))))))))))⟩
def s29:SFn:=⟨19,[.tmp 2],
 (.seq (.region [Zz 2 (.mov (.c .nilsl)) []] [] [2])
 (.seq (.region [Zz 3 (.mov (.c .nilsl)) []] [] [])
 (.seq (.seq (.region [Zm 6 0 [],
 Zv 7 6 [0],
 Zz 8 (.mov (.c (.int .i64 0))) []] [] [0])
 (.block 0 (.loop (.seq (.region [Zb 9 .lss 8 7 []] [] [])
 (.seq (.cond (.t 9)
 .skip
 (.exit 0))
 (.seq (.block 1 (.seq (.region [Zi 10 5 6 8 [],
 Zw 11 5 10 [0],
 Zz 5 (.alloc .dyn (.agg [(.str []),.nilsl,(.int .i64 0),.nilsl,.nilsl])) [],
 Zs 5 5 11 [2,1,0,1,2]] [] [9,10,11])
 (.region [Zm 12 3 [],
 Zf 13 1 5 [],
 Zw 14 4 13 [1],
 Zz 15 (.bslice false .dyn 4 1 [.nilsl,(.int .i64 0),.nilsl,.nilsl] [(0,4,(.t 14))]) [2],
 Zz 16 (.append .dyn 4 80 (.t 12) (.t 15)) [0,3],
 Zm 3 16 (Za [4,4] 5)] [] [5,12,13,14,15,16])))
 (.region [Zz 17 (.bin .add (.t 8) (.c (.int .i64 1))) [],
 Zm 8 17 [0]] [] [17])))))))
 (.seq (.region [Zm 18 3 [],
 Zm 2 18 [0,0]] [] [3,6,7,8,18])
 .ret))))⟩
def s30:SFn:=⟨28,[.cell 2 (some 3)],
 (.seq (.region [Zz 1 (.box .dyn (.t 0)) [],
 Zz 2 (.alloc .dyn (.agg [.nilsl,.nilsl,.nilsl])) []] [] [0])
 (.seq (.region [Zf 6 3 1 [],
 Zl 7 6 [0],
 Zf 8 4 1 [],
 Zl 9 8 [2],
 Zz 10 (.build [.nilsl,.nilsl,.nilsl] [(1,1,(.t 7)),(2,1,(.t 9))]) [1,3],
 Zz 3 (.alloc .dyn (.agg [.nilsl,.nilsl,.nilsl])) [],
 Zs 3 3 10 (Za [5,4] 6)] [] [6,7,8,9,10])
 (.seq (.seq (.region [Zf 11 1 1 [],
 Zl 12 11 [0],
 Zv 13 12 [1],
 Zz 14 (.mov (.c (.int .i64 0))) []] [] [1,11])
 (.block 0 (.loop (.seq (.region [Zb 15 .lss 14 13 []] [] [])
 (.seq (.cond (.t 15)
 .skip
 (.exit 0))
 (.seq (.block 1 (.seq (.region [Zi 16 5 12 14 [],
 Zw 17 5 16 [0],
 Zz 5 (.alloc .dyn (.agg [(.str []),.nilsl,(.int .i64 0),.nilsl,.nilsl])) [],
 Zs 5 5 17 [2,1,0,1,2]] [] [15,16,17])
 (.region [Zf 18 0 3 [],
 Zl 19 18 [0],
 Zf 20 1 5 [],
 Zf 21 1 20 [2],
 Zl 22 21 [3],
 Zz 23 (.bslice false .dyn 1 1 [(.int .i64 0)] [(0,1,(.t 22))]) [4],
 Zz 24 (.append .dyn 1 8 (.t 19) (.t 23)) [1,5],
 Zf 25 0 3 (Za [] 7),
 Zs 1 25 24 (Za [7,6,6] 7)] [] [5,18,19,20,21,22,23,24,25])))
 (.region [Zz 26 (.bin .add (.t 14) (.c (.int .i64 1))) [],
 Zm 14 26 [0]] [] [26])))))))
 (.seq (.region [Zw 27 3 3 [],
 Zs 3 2 27 [0,0]] [] [3,12,13,14,27])
 .ret))))⟩
def s34:SFn:=⟨8,[.tmp 4],
 (.seq (.region [Zz 4 (.mov (.c (.bool false))) []] [] [4])
 (.seq (.region [Zm 5 0 [],
 Zm 6 1 [],
 Zz 7 (.call .pure (.f 107) [(.t 5),(.t 6),(.f 108)]) [0,1],
 Zm 4 7 [2,2,0,1,2]] [] [0,1,5,6,7])
 .ret))⟩
def s69:SFn:=⟨19,[.tmp 2],
 (.seq (.region [Zz 2 (.mov (.c .nilsl)) []] [] [2])
 (.seq (.region [Zz 3 (.mov (.c .nilsl)) []] [] [])
 (.seq (.seq (.region [Zm 6 0 [],
 Zv 7 6 [0],
 Zz 8 (.mov (.c (.int .i64 0))) []] [] [0])
 (.block 0 (.loop (.seq (.region [Zb 9 .lss 8 7 []] [] [])
 (.seq (.cond (.t 9)
 .skip
 (.exit 0))
 (.seq (.block 1 (.seq (.region [Zi 10 5 6 8 [],
 Zw 11 5 10 [0],
 Zz 5 (.alloc .dyn (.agg [(.str []),.nilsl,(.int .i64 0),.nilsl,.nilsl])) [],
 Zs 5 5 11 [2,1,0,1,2]] [] [9,10,11])
 (.region [Zm 12 3 [],
 Zf 13 1 5 [],
 Zw 14 4 13 [1],
 Zz 15 (.bslice false .dyn 4 1 [.nilsl,(.int .i64 0),.nilsl,.nilsl] [(0,4,(.t 14))]) [2],
 Zz 16 (.append .dyn 4 80 (.t 12) (.t 15)) [0,3],
 Zm 3 16 (Za [4,4] 5)] [] [5,12,13,14,15,16])))
 (.region [Zz 17 (.bin .add (.t 8) (.c (.int .i64 1))) [],
 Zm 8 17 [0]] [] [17])))))))
 (.seq (.region [Zm 18 3 [],
 Zm 2 18 [0,0]] [] [3,6,7,8,18])
 .ret))))⟩
def s95:SFn:=⟨21,[.tmp 2],
 (.seq (.region [Zz 2 (.mov (.c (.int .i64 0))) []] [] [2])
 (.seq (.seq (.region [Zm 6 0 [],
 Zv 7 6 [0],
 Zz 8 (.bin .gtr (.t 7) (.c (.int .i64 12))) [1]] [] [6,7])
 (.cond (.t 8)
 (.seq (.region [Zz 2 (.mov (.c (.int .i64 3))) []] [] [0,8])
 .ret)
 .skip))
 (.seq (.seq (.region [Zm 9 0 [],
 Zv 10 9 [0],
 Zz 11 (.mov (.c (.int .i64 0))) []] [] [2,0,8])
 (.block 0 (.loop (.seq (.region [Zb 12 .lss 11 10 []] [] [])
 (.seq (.cond (.t 12)
 .skip
 (.exit 0))
 (.seq (.block 1 (.seq (.region [Zi 13 4 9 11 [],
 Zw 14 4 13 [0],
 Zz 4 (.alloc .dyn (.agg [.nilsl,(.int .i64 0),.nilsl,.nilsl])) [],
 Zs 4 4 14 [2,1,0,1,2]] [] [12,13,14])
 (.seq (.region [Zw 15 4 4 [],
 Zz 16 (.call .pure (.f 112) [(.t 15)]) [0],
 Zm 5 16 [1,1,0,1]] [] [4,15,16])
 (.seq (.region [Zm 17 5 [],
 Zz 18 (.bin .neq (.t 17) (.c (.int .i64 0))) [0]] [] [17])
 (.cond (.t 18)
 (.seq (.region [Zm 19 5 [],
 Zm 2 19 [0,0]] [] [9,10,11,5,18,19])
 .ret)
 .skip)))))
 (.region [Zz 20 (.bin .add (.t 11) (.c (.int .i64 1))) [],
 Zm 11 20 [0]] [] [2,5,18,20])))))))
 (.seq (.region [Zz 2 (.mov (.c (.int .i64 0))) []] [] [9,10,11])
 .ret))))⟩
def s96:SFn:=⟨44,[.cell 2 (some 3)],
 (.seq (.region [Zz 2 (.alloc .dyn (.agg [.nilsl,.nilsl,.nilsl])) []] [] [])
 (.seq (.region [Zm 9 0 [],
 Zm 10 0 [],
 Zz 11 (.call .pure (.f 187) [(.t 10)]) [1],
 Zz 12 (.build [.nilsl,.nilsl,.nilsl] [(0,1,(.t 9)),(1,1,(.t 11))]) [0,2],
 Zz 3 (.alloc .dyn (.agg [.nilsl,.nilsl,.nilsl])) [],
 Zs 3 3 12 (Za [4,3,2] 5)] [] [9,10,11,12])
 (.seq (.seq (.region [Zm 13 0 [],
 Zv 14 13 [0],
 Zz 15 (.mov (.c (.int .i64 0))) []] [] [0])
 (.block 0 (.loop (.seq (.region [Zb 16 .lss 15 14 []] [] [])
 (.seq (.cond (.t 16)
 .skip
 (.exit 0))
 (.seq (.block 1 (.seq (.region [Zi 17 4 13 15 [],
 Zw 18 4 17 [0],
 Zz 5 (.alloc .dyn (.agg [.nilsl,(.int .i64 0),.nilsl,.nilsl])) [],
 Zs 4 5 18 [2,1,0,1,2]] [] [16,17,18])
 (.seq (.region [Zz 19 (.mkmap .dyn) [],
 Zm 6 19 [0,0]] [] [19])
 (.seq (.seq (.region [Zf 20 3 5 [],
 Zl 21 20 [0],
 Zv 22 21 [1],
 Zz 23 (.mov (.c (.int .i64 0))) []] [] [5,20])
 (.block 2 (.loop (.seq (.region [Zb 24 .lss 23 22 []] [] [])
 (.seq (.cond (.t 24)
 .skip
 (.exit 2))
 (.seq (.block 3 (.seq (.region [Zi 25 3 21 23 [],
 Zw 26 3 25 [0],
 Zz 8 (.alloc .dyn (.agg [(.int .i64 0),(.int .i64 0),(.int .i64 0)])) [],
 Zs 3 8 26 [2,1,0,1,2]] [] [24,25,26])
 (.region [Zm 27 6 [],
 Zf 28 0 8 [],
 Zl 29 28 [1],
 Zf 30 1 8 [],
 Zl 31 30 [3],
 Zz 32 (.build [(.int .i64 0),(.int .i64 0)] [(0,1,(.t 29)),(1,1,(.t 31))]) [2,4],
 Zf 33 2 8 [],
 Zl 34 33 [6],
 Zy (.mupd true [.i,.i] (.t 27) (.t 32) (.t 34)) (Za [0,5,7] 8)] [] [8,27,28,29,30,31,32,33,34])))
 (.region [Zz 35 (.bin .add (.t 23) (.c (.int .i64 1))) [],
 Zm 23 35 [0]] [] [35])))))))
 (.region [Zf 36 2 3 [],
 Zl 37 36 [0],
 Zm 38 6 [],
 Zz 39 (.bslice false .dyn 1 1 [.nilmap] [(0,1,(.t 38))]) [2],
 Zz 40 (.append .dyn 1 8 (.t 37) (.t 39)) [1,3],
 Zf 41 2 3 (Za [] 5),
 Zs 1 41 40 (Za [5,4,4] 5)] [] [6,21,22,23,36,37,38,39,40,41])))))
 (.region [Zz 42 (.bin .add (.t 15) (.c (.int .i64 1))) [],
 Zm 15 42 [0]] [] [42])))))))
 (.seq (.region [Zw 43 3 3 [],
 Zs 3 2 43 [0,0]] [] [3,13,14,15,43])
 .ret))))⟩
def s97:SFn:=⟨21,[.tmp 2,.tmp 3],
 (.seq (.region [Zz 1 (.box .dyn (.t 0)) [],
 Zz 2 (.mov (.c .nilsl)) [],
 Zz 3 (.mov (.c (.bool false))) [1]] [] [0,2,3])
 (.seq (.seq (.region [Zf 6 0 1 [],
 Zl 7 6 [0],
 Zv 8 7 [1],
 Zz 9 (.mov (.c (.int .i64 0))) []] [] [6])
 (.block 0 (.loop (.seq (.region [Zb 10 .lss 9 8 []] [] [])
 (.seq (.cond (.t 10)
 .skip
 (.exit 0))
 (.seq (.block 1 (.seq (.region [Zi 11 4 7 9 [],
 Zw 12 4 11 [0],
 Zz 5 (.alloc .dyn (.agg [.nilsl,(.int .i64 0),.nilsl,.nilsl])) [],
 Zs 4 5 12 [2,1,0,1,2]] [] [10,11,12])
 (.seq (.region [Zf 13 1 5 [],
 Zl 14 13 [0],
 Zz 15 (.bin .eql (.t 14) (.c (.int .i64 0))) [1]] [] [5,13,14])
 (.cond (.t 15)
 (.seq (.region [Zz 2 (.mov (.c .nilsl)) [],
 Zz 3 (.mov (.c (.bool false))) [0,0]] [] [1,7,8,9,15])
 .ret)
 .skip))))
 (.region [Zz 16 (.bin .add (.t 9) (.c (.int .i64 1))) [],
 Zm 9 16 [0]] [] [2,3,15,16])))))))
 (.seq (.region [Zf 17 0 1 [],
 Zl 18 17 [0],
 Zv 19 18 [1],
 Zz 20 (.mkslice .dyn 1 8 [(.int .i64 0)] (.t 19) (.t 19)) [2,2],
 Zm 2 20 [3,0,1,2,3],
 Zz 3 (.mov (.c (.bool true))) (Za [4] 5)] [] [1,7,8,9,17,18,19,20])
 .ret)))⟩
def s99:SFn:=⟨24,[.tmp 4],
 (.seq (.region [Zz 2 (.box .dyn (.t 0)) [],
 Zz 4 (.mov (.c (.bool false))) []] [] [0,4])
 (.seq (.seq (.region [Zf 7 0 2 [],
 Zl 8 7 [0],
 Zv 9 8 [1],
 Zz 10 (.mov (.c (.int .i64 0))) []] [] [2,7])
 (.block 0 (.loop (.seq (.region [Zb 11 .lss 10 9 []] [] [])
 (.seq (.cond (.t 11)
 .skip
 (.exit 0))
 (.seq (.block 1 (.seq (.region [Zm 12 10 [],
 Zi 13 4 8 10 [],
 Zw 14 4 13 [1],
 Zz 6 (.alloc .dyn (.agg [.nilsl,(.int .i64 0),.nilsl,.nilsl])) [],
 Zm 5 12 [0,0,1,2,3],
 Zs 4 6 14 (Za [3,2,4] 5)] [] [11,12,13,14])
 (.seq (.region [Zf 15 2 6 [],
 Zl 16 15 [0],
 Zm 17 1 [],
 Zm 18 5 [],
 Zi 19 1 17 18 [2,3],
 Zl 20 19 [4],
 Zz 21 (.call .pure (.f 189) [(.t 16),(.t 20)]) [1,5],
 Zz 22 (.un .not (.t 21)) [6]] [] [6,5,15,16,17,18,19,20,21])
 (.cond (.t 22)
 (.seq (.region [Zz 4 (.mov (.c (.bool false))) []] [] [1,8,9,10,22])
 .ret)
 .skip))))
 (.region [Zz 23 (.bin .add (.t 10) (.c (.int .i64 1))) [],
 Zm 10 23 [0]] [] [4,22,23])))))))
 (.seq (.region [Zz 4 (.mov (.c (.bool true))) []] [] [1,8,9,10])
 .ret)))⟩
def s100:SFn:=⟨51,[.tmp 6,.tmp 7],
 (.seq (.region [Zz 3 (.box .dyn (.t 0)) [],
 Zz 6 (.mov (.c .nilsl)) [],
 Zz 7 (.mov (.c (.bool false))) [1]] [] [0,6,7])
 (.seq (.region [Zm 13 1 [],
 Zz 14 (.call .heap (.f 41) [(.t 13)]) [0],
 Zm 8 14 [1,1,0,1]] [] [13,14])
 (.seq (.seq (.region [Zf 15 0 3 [],
 Zl 16 15 [0],
 Zv 17 16 [1],
 Zz 18 (.mov (.c (.int .i64 0))) []] [] [15])
 (.block 0 (.loop (.seq (.region [Zb 19 .lss 18 17 []] [] [])
 (.seq (.cond (.t 19)
 .skip
 (.exit 0))
 (.seq (.block 1 (.seq (.region [Zm 20 18 [],
 Zi 21 4 16 18 [],
 Zw 22 4 21 [1],
 Zz 10 (.alloc .dyn (.agg [.nilsl,(.int .i64 0),.nilsl,.nilsl])) [],
 Zm 9 20 [0,0,1,2,3],
 Zs 4 10 22 (Za [3,2,4] 5)] [] [19,20,21,22])
 (.seq (.seq (.region [Zf 23 0 10 [],
 Zl 24 23 [0],
 Zm 25 2 [],
 Zz 26 (.call .pure (.f 189) [(.t 24),(.t 25)]) [1,2],
 Zz 27 (.un .not (.t 26)) [3]] [] [10,23,24,25,26])
 (.cond (.t 27)
 (.exit 1)
 .skip))
 (.seq (.region [Zf 29 2 3 [],
 Zl 30 29 [0],
 Zm 31 9 [],
 Zi 32 1 30 31 [1,2],
 Zl 33 32 [3],
 Zm 34 1 [],
 Zm 35 9 [],
 Zi 36 1 34 35 [5,6],
 Zl 37 36 [7],
 Zm 38 2 [],
 Zz 39 (.build [(.int .i64 0),(.int .i64 0)] [(0,1,(.t 37)),(1,1,(.t 38))]) [8,9],
 Zz 40 (.lookup true [.i,.i] (.int .i64 0) true (.t 33) (.t 39)) [4,10],
 Zm 28 40 [11],
 Zz 41 (.extract 0 (.t 28)) [12],
 Zz 42 (.extract 1 (.t 28)) [12],
 Zm 11 41 (Za [13] 14),
 Zm 12 42 (Za [14,15] 16)] [] [27,29,30,31,32,33,34,35,36,37,38,39,40,28,41,42])
 (.seq (.seq (.region [Zm 43 12 [],
 Zz 44 (.un .not (.t 43)) [0]] [] [12,43])
 (.cond (.t 44)
 (.seq (.region [Zz 6 (.mov (.c .nilsl)) [],
 Zz 7 (.mov (.c (.bool false))) [0,0]] [] [1,2,3,8,16,17,18,9,11,44])
 .ret)
 .skip))
 (.region [Zm 45 8 [],
 Zm 46 9 [],
 Zm 47 11 [],
 Zi 48 1 45 46 [0,1,0,1,2],
 Zs 1 48 47 [3,2,0,1,2]] [] [6,7,9,11,44,45,46,47,48]))))))
 (.region [Zz 49 (.bin .add (.t 18) (.c (.int .i64 1))) [],
 Zm 18 49 [0]] [] [49])))))))
 (.seq (.region [Zm 50 8 [],
 Zm 6 50 [0,0],
 Zz 7 (.mov (.c (.bool true))) [1,0,1]] [] [1,2,3,8,16,17,18,50])
 .ret))))⟩
def s107:SFn:=⟨32,[.tmp 6],
 (.seq (.region [Zz 6 (.mov (.c (.bool false))) []] [] [6])
 (.seq (.seq (.region [Zm 10 0 [],
 Zv 11 10 [0],
 Zm 12 1 [],
 Zv 13 12 [2],
 Zb 14 .neq 11 13 [1,3]] [] [10,11,12,13])
 (.cond (.t 14)
 (.seq (.region [Zz 6 (.mov (.c (.bool false))) []] [] [0,1,2,14])
 .ret)
 .skip))
 (.seq (.seq (.region [Zm 15 0 [],
 Zv 16 15 [0],
 Zz 17 (.mov (.c (.int .i64 0))) []] [] [6,0,14])
 (.block 0 (.loop (.seq (.region [Zb 18 .lss 17 16 []] [] [])
 (.seq (.cond (.t 18)
 .skip
 (.exit 0))
 (.seq (.block 1 (.seq (.region [Zm 19 17 [],
 Zi 20 1 15 17 [],
 Zl 21 20 [1],
 Zm 7 19 [0,0,1,2],
 Zm 8 21 [2,3,0,1,2,3]] [] [18,19,20,21])
 (.seq (.region [Zm 22 1 [],
 Zm 23 7 [],
 Zi 24 1 22 23 [0,1],
 Zl 25 24 [2],
 Zm 9 25 [3,0,1,2,3]] [] [7,22,23,24,25])
 (.seq (.region [Zm 26 2 [],
 Zm 27 8 [],
 Zm 28 9 [],
 Zz 29 (.call .heap (.t 26) [(.t 27),(.t 28)]) [0,1,2],
 Zz 30 (.un .not (.t 29)) [3]] [] [8,9,26,27,28,29])
 (.cond (.t 30)
 (.seq (.region [Zz 6 (.mov (.c (.bool false))) []] [] [1,2,15,16,17,30])
 .ret)
 .skip)))))
 (.region [Zz 31 (.bin .add (.t 17) (.c (.int .i64 1))) [],
 Zm 17 31 [0]] [] [6,30,31])))))))
 (.seq (.region [Zz 6 (.mov (.c (.bool true))) []] [] [1,2,15,16,17])
 .ret))))⟩
def s108:SFn:=⟨8,[.tmp 4],
 (.seq (.region [Zz 4 (.mov (.c (.bool false))) []] [] [4])
 (.seq (.region [Zm 5 0 [],
 Zm 6 1 [],
 Zz 7 (.call .pure (.f 31) [(.t 5),(.t 6)]) [0,1],
 Zm 4 7 [2,2,0,1,2]] [] [0,1,5,6,7])
 .ret))⟩
def s187:SFn:=⟨18,[.tmp 2],
 (.seq (.region [Zz 2 (.mov (.c .nilsl)) []] [] [2])
 (.seq (.region [Zz 3 (.mov (.c .nilsl)) []] [] [])
 (.seq (.seq (.region [Zm 6 0 [],
 Zv 7 6 [0],
 Zz 8 (.mov (.c (.int .i64 0))) []] [] [0])
 (.block 0 (.loop (.seq (.region [Zb 9 .lss 8 7 []] [] [])
 (.seq (.cond (.t 9)
 .skip
 (.exit 0))
 (.seq (.block 1 (.seq (.region [Zi 10 4 6 8 [],
 Zw 11 4 10 [0],
 Zz 5 (.alloc .dyn (.agg [.nilsl,(.int .i64 0),.nilsl,.nilsl])) [],
 Zs 4 5 11 [2,1,0,1,2]] [] [9,10,11])
 (.region [Zm 12 3 [],
 Zf 13 0 5 [],
 Zl 14 13 [1],
 Zz 15 (.call .pure (.f 84) [(.t 12),(.t 14)]) [0,2],
 Zm 3 15 [3,3,0,1,2,3]] [] [5,12,13,14,15])))
 (.region [Zz 16 (.bin .add (.t 8) (.c (.int .i64 1))) [],
 Zm 8 16 [0]] [] [16])))))))
 (.seq (.region [Zm 17 3 [],
 Zm 2 17 [0,0]] [] [3,6,7,8,17])
 .ret))))⟩
def s189:SFn:=⟨14,[.tmp 4],
 (.seq (.region [Zz 4 (.mov (.c (.bool false))) []] [] [4])
 (.seq (.region [Zm 8 0 [],
 Zm 9 1 [],
 Zz 10 (.call .pure (.f 144) [(.t 8),(.t 9)]) [0,1],
 Zm 7 10 [2],
 Zz 11 (.extract 0 (.t 7)) [3],
 Zz 12 (.extract 1 (.t 7)) [3],
 Zm 5 11 (Za [4,2] 5),
 Zm 6 12 (Za [5,6] 7)] [] [0,1,8,9,10,7,11,12,5])
 (.seq (.region [Zm 13 6 [],
 Zm 4 13 [0,0]] [] [6,13])
 .ret)))⟩
theorem ok5:okFn Tryz.prog 5 s5=true:=by kernel_rfl
theorem ok17:okFn Tryz.prog 17 s17=true:=by kernel_rfl
theorem ok27:okFn Tryz.prog 27 s27=true:=by kernel_rfl
theorem ok28:okFn Tryz.prog 28 s28=true:=by kernel_rfl
theorem ok29:okFn Tryz.prog 29 s29=true:=by kernel_rfl
theorem ok30:okFn Tryz.prog 30 s30=true:=by kernel_rfl
theorem ok34:okFn Tryz.prog 34 s34=true:=by kernel_rfl
theorem ok69:okFn Tryz.prog 69 s69=true:=by kernel_rfl
theorem ok95:okFn Tryz.prog 95 s95=true:=by kernel_rfl
theorem ok96:okFn Tryz.prog 96 s96=true:=by kernel_rfl
theorem ok97:okFn Tryz.prog 97 s97=true:=by kernel_rfl
theorem ok99:okFn Tryz.prog 99 s99=true:=by kernel_rfl
theorem ok100:okFn Tryz.prog 100 s100=true:=by kernel_rfl
theorem ok107:okFn Tryz.prog 107 s107=true:=by kernel_rfl
theorem ok108:okFn Tryz.prog 108 s108=true:=by kernel_rfl
theorem ok187:okFn Tryz.prog 187 s187=true:=by kernel_rfl
theorem ok189:okFn Tryz.prog 189 s189=true:=by kernel_rfl
end Go.AM.TP
namespace Go.AM
open Go.RowKit
variable {P:Program}
def WR (P:Program) (base:Nat):Nat->List SOper->Tmps->Heap->(Tmps->Heap->Prop)->Prop
 |_,[],T,h,K=>K T h
 |i,s::r,T,h,K=>∃f v h1,StepV P (base+i) s T h v h1 f/\WR P base (i+1) r (putD T s.dst v) h1 K
theorem WR.toF {base:Nat}:∀{r:List SOper} {i:Nat} {T:Tmps} {h:Heap} {K:Tmps->Heap->Prop},WR P base i r T h K->∃fs T' h',RunF P base i r fs ⟨T,h⟩ ⟨T',h'⟩/\K T' h'
 |[],i,T,h,K,hk=>⟨[],T,h,⟨rfl,rfl⟩,hk⟩
 |s::r,i,T,h,K,⟨f,v,h1,hs,hr⟩=>by
  obtain⟨fs,T',h',h2,hk⟩:=WR.toF hr
  exact⟨f::fs,T',h',⟨f,fs,v,h1,rfl,hs,h2⟩,hk⟩
theorem W.regionR {N:Nat} {Q:SX->St->Prop} {T:Tmps} {h:Heap} {sops:List SOper} {dead:List Nat} (base:Nat)
  (hr:WR P base 0 sops T h fun T h=>Q .normal ⟨rm T dead,h⟩):W P N (.region sops [] dead) Q ⟨T,h⟩:=by
 obtain⟨fs,T',h',h1,h2⟩:=WR.toF hr
 exact W.regionF base fs h1 (by simp) h2
section
variable {base i:Nat} {d:Option Nat} {s:SOp} {af:List Nat} {r:List SOper} {T:Tmps} {h h1:Heap} {K:Tmps->Heap->Prop} {v:AV}
end
end Go.AM
namespace Go.AM
variable {P:Program}
structure NM where
 n:Nat
 m:Nat
variable {ok:Okc}
structure Evo2 (m:Nat) (c:Ctx ok) (w:World) (c':Ctx ok) (w':World):Prop where
 os:w'.os=w.os
 tape:w'.tape=w.tape
 output:w'.output=w.output
 size:w.heap.size<=w'.heap.size
 shape:∀(cb:Nat) (C:Array Value) (e:TypeId) (fr:Nat×Nat),w.heap[cb]?=some (.cells C e fr)->∃(C':Array Value) (fr':Nat×Nat),w'.heap[cb]?=some (.cells C' e fr')/\C'.size=C.size
 keep:∀cb,cb<w.heap.size->¬c.O cb->w'.heap[cb]?=w.heap[cb]?
 rho:∀b g p,b<m->c.ρ b g=some p->c'.ρ b g=some p
 frz:∀cb,c.F cb->c'.F cb
 frzNew:∀cb,c'.F cb->c.F cb\/c.O cb\/w.heap.size<=cb
 own:∀cb,c'.O cb->c.O cb\/w.heap.size<=cb
 base:c'.base=c.base
theorem Evo.to2 {m:Nat} {c c':Ctx ok} {w w':World} (E:Evo c w c' w'):Evo2 m c w c' w':=
 ⟨E.os,E.tape,E.output,E.size,E.shape,E.keep,fun b g p _ h=>E.rho b g p h,E.frz,E.frzNew,E.own,E.base⟩
theorem Marks.mono2 {m:Nat} {c c':Ctx ok} {w w':World} (E:Evo2 m c w c' w'):∀{ds:List Deferred},Marks c w ds->Marks c' w' ds
 |[],h=>by have h:c.base<=w.heap.size:=h;have:=E.size;show c'.base<=w'.heap.size;rw[E.base];omega
 | d :: ds, ⟨⟨D, h1, h2, h3, h4, h5, h6⟩, hr⟩ => by
  have hlt:=QaE h5
  refine⟨⟨D,h1,by rw[E.base];exact h2,fun h=>?_,fun h=>?_,by rw[E.keep D hlt h3];exact h5,h6⟩,Marks.mono2 E hr⟩
  ·rcases E.own D h with h | h
   ·exact h3 h
   ·omega
  ·rcases E.frzNew D h with h | h | h
   ·exact h4 h
   ·exact h3 h
   ·omega
theorem Evo2.trans {m:Nat} {c1 c2 c3:Ctx ok} {w1 w2 w3:World} (a:Evo2 m c1 w1 c2 w2) (b:Evo2 m c2 w2 c3 w3):Evo2 m c1 w1 c3 w3 where
 os:=b.os.trans a.os
 tape:=b.tape.trans a.tape
 output:=b.output.trans a.output
 size:=Nat.le_trans a.size b.size
 shape:=fun cb C e fr h=>by
  obtain⟨C',fr',h',e'⟩:=a.shape cb C e fr h
  obtain⟨C'',fr'',h'',e''⟩:=b.shape cb C' e fr' h'
  exact⟨C'',fr'',h'',e''.trans e'⟩
 keep:=fun cb hlt hO=>by
  rw[b.keep cb (Nat.lt_of_lt_of_le hlt a.size) (fun h=>(a.own cb h).elim hO (by omega)),a.keep cb hlt hO]
 rho:=fun b' g p hb h=>b.rho _ _ _ hb (a.rho _ _ _ hb h)
 frz:=fun cb h=>b.frz _ (a.frz _ h)
 frzNew:=fun cb h=>by
  rcases b.frzNew cb h with h|h|h
  ·exact a.frzNew cb h
  ·rcases a.own cb h with h | h
   ·exact .inr (.inl h)
   ·exact .inr (.inr h)
  ·exact .inr (.inr (Nat.le_trans a.size h))
 own:=fun cb h=>by
  rcases b.own cb h with h|h
  ·exact a.own cb h
  ·exact .inr (Nat.le_trans a.size h)
 base:=b.base.trans a.base
def W2 (P:Program) (N:NM) (sc:SCode) (Q:SX->St->Prop) (A:St):Prop:=
 ∀code,okCode P N.n code sc=true->∀(c:Ctx (okc P)) (a:Act) (w:World),SRel N.n c A a w->∀(ro:Option Nat),(sc.rf=true->ro=none)->∀(Q':Exit->Act->World->Prop),
  (∀e B c' a' w',Q e B->SRel N.n c' B a' w'->Evo2 N.m c w c' w'->Q' e.toExit a' w')->code.wpIn (FW ro) 0 P Q' a w
section rules
variable {N:NM} {Q:SX->St->Prop} {A:St}
theorem W2.of_W {sc:SCode} (h:W P N.n sc Q A):W2 P N sc Q A:=
 fun code hok c a w S ro hro R hR=>h code hok c a w S ro hro R fun e B c' a' w' hQ S' E'=>hR e B c' a' w' hQ S' E'.to2
theorem W2.mono {sc:SCode} {Q':SX->St->Prop} (h:W2 P N sc Q A) (hq:∀e B,Q e B->Q' e B):W2 P N sc Q' A:=
 fun code hok c a w S ro hro R hR=>h code hok c a w S ro hro R fun e B c' a' w' hQ S' E'=>hR e B c' a' w' (hq e B hQ) S' E'
theorem W2.skip (h:Q .normal A):W2 P N .skip Q A:= .of_W (.skip h)
theorem W2.ret (h:Q .ret A):W2 P N .ret Q A:= .of_W (.ret h)
theorem W2.exit {i:Nat} (h:Q (.exit i) A):W2 P N (.exit i) Q A:= .of_W (.exit h)
theorem W2.seq {x y:SCode} (h:W2 P N x (fun e B=>match e with| .normal=>W2 P N y Q B|e=>Q e B) A):W2 P N (.seq x y) Q A:=by
 intro code hok c a w S ro hro Q' hQ
 cases code<;>simp only[okCode,Bool.false_eq_true,Bool.and_eq_true]at hok
 rename_i cx cy
 refine wpIn_seq (h cx hok.1 c a w S ro (fun e=>hro (by simp[SCode.rf,e])) _ ?_)
 intro e B c' a' w' hq S' E'
 cases e with
 |normal=>exact hq cy hok.2 c' a' w' S' ro (fun e=>hro (by simp[SCode.rf,e])) Q' fun e2 B2 c2 a2 w2 h2 S2 E2=>hQ e2 B2 c2 a2 w2 h2 S2 (E'.trans E2)
 |exit i=>exact hQ (.exit i) B c' a' w' hq S' E'
 |ret=>exact hQ .ret B c' a' w' hq S' E'
theorem W2.cond {x:Opd} {y z:SCode} {t:Bool} (hx:ev A.T x= .bool t) (h1:t=true->W2 P N y Q A) (h2:t=false->W2 P N z Q A):W2 P N (.cond x y z) Q A:=by
 intro code hok c a w S ro hro Q' hQ
 cases code<;>simp only[okCode,Bool.false_eq_true,Bool.and_eq_true]at hok
 rename_i o cy cz
 have hr:=Qaf S.tmps hok.1.1
 rw[hx]at hr
 simp only[VRel]at hr
 refine wpIn_cond hr ?_
 cases t with
 |true=>exact h1 rfl cy hok.1.2 c a w S ro (fun e=>hro (by simp[SCode.rf,e])) Q' hQ
 |false=>exact h2 rfl cz hok.2 c a w S ro (fun e=>hro (by simp[SCode.rf,e])) Q' hQ
theorem W2.block {i:Nat} {b:SCode} (h:W2 P N b (fun e B=>match e with| .exit j=>if j=i then Q .normal B else Q (.exit j) B|e=>Q e B) A):W2 P N (.block i b) Q A:=by
 intro code hok c a w S ro hro Q' hQ
 cases code<;>simp only[okCode,Bool.false_eq_true,Bool.and_eq_true,beq_iff_eq]at hok
 rename_i j cb
 obtain⟨rfl,hok⟩:=hok
 refine wpIn_block (h cb hok c a w S ro (fun e=>hro (by simp[SCode.rf,e])) _ ?_)
 intro e B c' a' w' hq S' E'
 cases e with
 |normal=>exact hQ .normal B c' a' w' hq S' E'
 |ret=>exact hQ .ret B c' a' w' hq S' E'
 |exit k=>
  simp only at hq
  show(if k=j then Q' .normal a' w' else Q' (.exit k) a' w')
  split
  ·rename_i e;rw[if_pos e]at hq;exact hQ .normal B c' a' w' hq S' E'
  ·rename_i e;rw[if_neg e]at hq;exact hQ (.exit k) B c' a' w' hq S' E'
def WL2 (P:Program) (N:NM) (b:SCode) (Q:SX->St->Prop) (A:St):Prop:=
 ∀cb,okCode P N.n cb b=true->∀(c:Ctx (okc P)) (a:Act) (w:World),SRel N.n c A a w->∀(ro:Option Nat),(b.rf=true->ro=none)->∀(Q':Exit->Act->World->Prop),
  (∀e B c' a' w',Q e B->SRel N.n c' B a' w'->Evo2 N.m c w c' w'->Q' e.toExit a' w')->Lp ro P cb Q' a w
theorem WL2.loop {b:SCode} (h:WL2 P N b Q A):W2 P N (.loop b) Q A:=by
 intro code hok c a w S ro hro Q' hQ
 cases code<;>simp only[okCode,Bool.false_eq_true]at hok
 exact(h _ hok c a w S ro (fun e=>hro (by simp[SCode.rf,e])) Q' hQ).loop
theorem WL2.round {b:SCode} (h:W2 P N b (fun e B=>match e with| .normal=>WL2 P N b Q B|e=>Q e B) A):WL2 P N b Q A:=by
 intro cb hok c a w S ro hro Q' hQ
 refine Lp.round (h cb hok c a w S ro hro _ ?_)
 intro e B c2 a2 w2 hq S2 E2
 cases e with
 |normal=>exact hq cb hok c2 a2 w2 S2 ro hro Q' fun e3 B3 c3 a3 w3 h3 S3 E3=>hQ e3 B3 c3 a3 w3 h3 S3 (E2.trans E3)
 |ret=>exact hQ .ret B c2 a2 w2 hq S2 E2
 |exit i=>exact hQ (.exit i) B c2 a2 w2 hq S2 E2
theorem W2.loop {b:SCode} (I:Nat->St->Prop) (n:Nat) (h0:I n A)
  (round:∀n B,I n B->W2 P N b (fun e C=>match e with| .normal=>∃m,m<n/\I m C|e=>Q e C) B):W2 P N (.loop b) Q A:=by
 refine WL2.loop ?_
 have key:∀n B,I n B->WL2 P N b Q B:=by
  intro n
  induction n using Nat.strongRecOn with
  |_ n ih=>
   intro B hI
   refine WL2.round ((round n B hI).mono ?_)
   intro e C hq
   cases e with
   |normal=>obtain⟨m,hm,hIm⟩:=hq;exact ih m hm C hIm
   |exit i=>exact hq
   |ret=>exact hq
 exact key n A h0
end rules
inductive Src where
 |nil
 |blk (b g:Nat)
def Mapped (m:Nat) (π:Nat->Option Src) (h:Heap) (c:Ctx ok) (k:Nat):Prop:=
 (∃b g base,b<m/\Live h b g/\c.ρ b g=some (.loc k base))\/∃b' b g base,m<=b'/\π b'=some (.blk b g)/\c.ρ b g=some (.loc k base)
def nctx (m:Nat) (π:Nat->Option Src) (h:Heap) (c:Ctx ok):Ctx ok where
 ρ:=fun b' g'=>if b'<m then c.ρ b' g' else if g'=0 then(match π b' with|some .nil=>some .nil|some (.blk b g)=>c.ρ b g|none=>none)else none
 F:=fun k=>c.F k\/(c.O k/\¬Mapped m π h c k)
 O:=fun k=>c.O k/\Mapped m π h c k
 base:=c.base
structure Maps (m:Nat) (π:Nat->Option Src) (h:Heap):Prop where
 live:∀b' b g,m<=b'->π b'=some (.blk b g)->Live h b g/\m<=b
 inj:∀b1 b2 b g g2,m<=b1->m<=b2->π b1=some (.blk b g)->π b2=some (.blk b g2)->b1=b2
def Rn (m:Nat) (π:Nat->Option Src) (h:Heap) (x y:AV):Prop:=∀(ok:Okc) (c:Ctx ok) (w:World) (v:Value),HRel c h w->Maps m π h->VRel c w y v->VRel (nctx m π h c) w x v
def RnL (m:Nat) (π:Nat->Option Src) (h:Heap):List AV->List AV->Prop
 |[],[]=>True
 |x::xs,y::ys=>Rn m π h x y/\RnL m π h xs ys
 |_,_=>False
def RnM (m:Nat) (π:Nat->Option Src) (h:Heap):List (AV×AV)->List (AV×AV)->Prop
 |[],[]=>True
 |x::xs,y::ys=>(Rn m π h x.1 y.1/\Rn m π h x.2 y.2)/\RnM m π h xs ys
 |_,_=>False
section
variable {m:Nat} {π:Nat->Option Src} {h:Heap}
theorem Qbw {c:Ctx ok} {b g:Nat} (hm:b<m):(nctx m π h c).ρ b g=c.ρ b g:=if_pos hm
theorem Qdf {c:Ctx ok} {b' b g:Nat} (hm:m<=b') (hp:π b'=some (.blk b g)):(nctx m π h c).ρ b' 0=c.ρ b g:=by
 show(if b'<m then c.ρ b' 0 else if 0=0 then(match π b' with|some .nil=>some .nil|some (.blk b g)=>c.ρ b g|none=>none)else none)=_
 rw[if_neg (by omega),if_pos rfl,hp]
theorem QfH {c:Ctx ok} {b':Nat} (hm:m<=b') (hp:π b'=some .nil):(nctx m π h c).ρ b' 0=some .nil:=by
 show(if b'<m then c.ρ b' 0 else if 0=0 then(match π b' with|some .nil=>some .nil|some (.blk b g)=>c.ρ b g|none=>none)else none)=_
 rw[if_neg (by omega),if_pos rfl,hp]
theorem Qhj {c:Ctx ok} {b' g:Nat} (hm:m<=b') (hp:π b'=none):(nctx m π h c).ρ b' g=none:=by
 show(if b'<m then c.ρ b' g else if g=0 then(match π b' with|some .nil=>some .nil|some (.blk b g)=>c.ρ b g|none=>none)else none)=_
 rw[if_neg (by omega),hp];simp
theorem Qle {c:Ctx ok} {b' g:Nat} (hm:m<=b') (hg:g≠0):(nctx m π h c).ρ b' g=none:=by
 show(if b'<m then c.ρ b' g else if g=0 then(match π b' with|some .nil=>some .nil|some (.blk b g)=>c.ρ b g|none=>none)else none)=_
 rw[if_neg (by omega),if_neg hg]
theorem Rn.any {y:AV}:Rn m π h .any y:=fun _ c w v _ _ _=>by simp[VRel]
theorem Rn.same {x:AV} (hn:noRef x=true):Rn m π h x x:=fun _ c w v _ _ hv=>VRel.noRef (c:=c) (c':=nctx m π h c) (fun _ hk=> .inl hk) _ _ hn hv
theorem Rn.ptr {b' b g off:Nat} (hm:m<=b') (hp:π b'=some (.blk b g)):Rn m π h (.ptr b' 0 off) (.ptr b g off):=fun _ c w v _ _ hv=>by
 simp only[VRel]at hv⊢
 obtain⟨cb,base,h1,h2⟩:=hv
 exact⟨cb,base,(Qdf hm hp).trans h1,h2⟩
theorem Rn.map {b' b g:Nat} (hm:m<=b') (hp:π b'=some (.blk b g)):Rn m π h (.map b' 0) (.map b g):=fun _ c w v _ _ hv=>by
 simp only[VRel]at hv⊢
 obtain⟨cb,h1,h2⟩:=hv
 exact⟨cb,(Qdf hm hp).trans h1,h2⟩
theorem Rn.sl {b' b g off len sz:Nat} (hm:m<=b') (hp:π b'=some (.blk b g)):Rn m π h (.sl b' 0 off len sz) (.sl b g off len sz):=fun _ c w v _ _ hv=>by
 have e:(nctx m π h c).ρ b' 0=c.ρ b g:=Qdf hm hp
 simp only[VRel]at hv⊢
 rw[e]
 exact hv
theorem Rn.slnil {b' sz:Nat} (hm:m<=b') (hp:π b'=some .nil):Rn m π h (.sl b' 0 0 0 sz) .nilsl:=fun _ c w v _ _ hv=>by
 simp only[VRel]at hv⊢
 exact .inl ⟨QfH hm hp,by simp,by simp,hv⟩
theorem Rn.ptrB {b g off:Nat} (hm:b<m):Rn m π h (.ptr b g off) (.ptr b g off):=fun _ c w v _ _ hv=>by
 have e:(nctx m π h c).ρ b g=c.ρ b g:=Qbw hm
 simp only[VRel]at hv⊢
 rw[e];exact hv
theorem Rn.mapB {b g:Nat} (hm:b<m):Rn m π h (.map b g) (.map b g):=fun _ c w v _ _ hv=>by
 have e:(nctx m π h c).ρ b g=c.ρ b g:=Qbw hm
 simp only[VRel]at hv⊢
 rw[e];exact hv
theorem Rn.slB {b g off len sz:Nat} (hm:b<m):Rn m π h (.sl b g off len sz) (.sl b g off len sz):=fun _ c w v _ _ hv=>by
 have e:(nctx m π h c).ρ b g=c.ρ b g:=Qbw hm
 simp only[VRel]at hv⊢
 rw[e];exact hv
theorem RnL.same:∀{xs:List AV},noRefs xs=true->RnL m π h xs xs
 |[],_=>trivial
 |x::xs,hn=>by
  simp only[noRefs,Bool.and_eq_true]at hn
  exact⟨Rn.same hn.1,RnL.same hn.2⟩
theorem RnL.eq {xs ys:List AV} (e:xs=ys) (hn:noRefs xs=true):RnL m π h xs ys:=e▸RnL.same hn
theorem RnL.length:∀{xs ys:List AV},RnL m π h xs ys->xs.length=ys.length
 |[],[],_=>rfl
 |[],_::_,hh=>hh.elim
 |_::_,[],hh=>hh.elim
 |x::xs,y::ys,hh=>by simp[RnL.length hh.2]
theorem RnL.pre {c:Ctx ok} {w:World} (H:HRel c h w) (M:Maps m π h):∀{xs ys:List AV} {vs:List Value},RnL m π h xs ys->VPre c w ys vs->VPre (nctx m π h c) w xs vs
 |[],[],_,_,_=>by simp[VPre]
 |[],_::_,_,hh,_=>hh.elim
 |_::_,[],_,hh,_=>hh.elim
 |x::xs,y::ys,vs,hh,hv=>by
  simp only[VPre]at hv⊢
  obtain⟨v,vs',rfl,g1,g2⟩:=hv
  exact⟨v,vs',rfl,hh.1 _ c w v H M g1,RnL.pre H M hh.2 g2⟩
theorem RnL.rels {c:Ctx ok} {w:World} (H:HRel c h w) (M:Maps m π h):∀{xs ys:List AV} {vs:List Value},RnL m π h xs ys->VRels c w ys vs->VRels (nctx m π h c) w xs vs
 |[],[],_,_,hv=>by simpa[VRels]using hv
 |[],_::_,_,hh,_=>hh.elim
 |_::_,[],_,hh,_=>hh.elim
 |x::xs,y::ys,vs,hh,hv=>by
  simp only[VRels]at hv⊢
  obtain⟨v,vs',rfl,g1,g2⟩:=hv
  exact⟨v,vs',rfl,hh.1 _ c w v H M g1,RnL.rels H M hh.2 g2⟩
theorem Rn.agg {xs ys:List AV} (hL:RnL m π h xs ys):Rn m π h (.agg xs) (.agg ys):=fun _ c w v H M hv=>by
 simp only[VRel]at hv⊢
 obtain⟨vs,rfl,hv⟩:=hv
 exact⟨vs,rfl,hL.rels H M hv⟩
theorem Rn.tup {xs ys:List AV} (hL:RnL m π h xs ys):Rn m π h (.tup xs) (.tup ys):=fun _ c w v H M hv=>by
 simp only[VRel]at hv⊢
 obtain⟨vs,rfl,hv⟩:=hv
 exact⟨vs,rfl,hL.rels H M hv⟩
theorem Rn.fn {f:Nat} {xs ys us vs:List AV} (hL:RnL m π h xs ys) (hK:RnL m π h us vs):Rn m π h (.fn f xs us) (.fn f ys vs):=fun _ c w v H M hv=>by
 simp only[VRel]at hv⊢
 obtain⟨x',y',rfl,h1,h2⟩:=hv
 exact⟨x',y',rfl,hL.rels H M h1,hK.rels H M h2⟩
theorem Maps.out {c:Ctx ok} {w:World} (H:HRel c h w) (M:Maps m π h) {b g cb base:Nat} (hl:Live h b g) (hp:c.ρ b g=some (.loc cb base)) (hm:m<=b) (hn:∀b' g',m<=b'->π b'≠some (.blk b g')):¬Mapped m π h c cb:=by
 rintro(⟨b1,g1,base1,h1,hl1,h2⟩|⟨b',b1,g1,base1,h0,h1,h2⟩)
 ·have := H.inj _ _ _ _ _ _ _ hl hl1 hp h2
  omega
 ·obtain ⟨l1, l2⟩ := M.live _ _ _ h0 h1
  have:=H.inj _ _ _ _ _ _ _ hl l1 hp h2
  subst this
  exact hn _ _ h0 h1
theorem Rn.frz {b g off len sz : Nat} {cs ds : List AV} (hb : h.get b = some (.cells g ds)) (hm : m <= b) (hn : ∀ b' g', m <= b' -> π b' ≠ some (.blk b g')) (hl : off + len * sz <= ds.length)
    (hL:RnL m π h cs ((ds.drop off).take (len*sz))):Rn m π h (.fsl cs len sz) (.sl b g off len sz):=fun _ c w v H M hv=>by
  have hlen:=hL.length
  simp only[VRel]at hv
  rcases hv with⟨hp,rfl,rfl,rfl⟩|⟨cb,base,o,cap,C,e,fr,hp,rfl,hlc,hC,hcap⟩
  · have hys : cs = [] := by
      apply List.eq_nil_of_length_eq_zero
      rw[hlen];simp
    subst hys
    simp only[VRel];exact .inl (by simp)
  · obtain ⟨C', e', fr', hO, hC', hfr, hbs, hpre⟩ := H.here hb hp
    have hout:=M.out H ⟨_,hb,rfl,fun k=>by simp⟩ hp hm hn
    rw[hC]at hC';cases hC'
    by_cases h0:cap=0
    · have hl0 : len = 0 := by omega
      subst hl0
      have hys:cs=[]:=by
        apply List.eq_nil_of_length_eq_zero
        rw[hlen];simp
      subst hys
      simp only[VRel]
      exact .inr ⟨cb,o,cap,C,e,fr,rfl,hlc,by simp,.inr ⟨hO,hout⟩,hC,by simp[VPre]⟩
    · obtain ⟨rfl, hbd⟩ := hcap.resolve_left h0
      have hp2:=Qbu (len*sz) (QaY off hpre)
      rw[List.drop_drop]at hp2
      simp only[VRel]
      exact .inr ⟨cb,base+off,cap,C,e,fr,rfl,hlc,by rw[hlen];simp;omega,.inr ⟨hO,hout⟩,hC,hL.pre H M hp2⟩
def BRn (m:Nat) (π:Nat->Option Src) (h:Heap):Option Src->Blk->Prop
 |some .nil,.cells _ cs=>cs=[]
 |some (.blk b g),.cells _ cs=>∃ds k,h.get b=some (.cells g ds)/\RnL m π h cs (ds.take k)
 |some (.blk b g),.map _ es=>∃fs,h.get b=some (.map g fs)/\RnM m π h es fs
 |some (.blk b g),.loop _ N T ps asg body st=>∃T0,h.get b=some (.loop g N T0 ps asg body st)/\∀i,Rn m π h (lk T i) (lk T0 i)
 |some (.blk b g),.dead _=>h.get b=some (.dead g)
 |_,_=>False
def RH (m:Nat) (π:Nat->Option Src) (h h':Heap):Prop:=∀b' x',h'.get b'=some x'->(b'<m/\BRn m π h (some (.blk b' x'.gen)) x')\/(m<=b'/\x'.gen=0/\(∀g,x'≠ .dead g)/\BRn m π h (π b') x')
def RD (m:Nat) (π:Nat->Option Src) (h h':Heap):Prop:=∀b',h'.get b'=none->(b'<m->h.get b'=none)/\(m<=b'->π b'=none)
def RT (m:Nat) (π:Nat->Option Src) (h:Heap) (T' T:Tmps):Prop:=∀i,Rn m π h (lk T' i) (lk T i)
theorem RnM.rel {c:Ctx ok} {w:World} (H:HRel c h w) (M:Maps m π h):∀{xs ys:List (AV×AV)} {es:List MapEntry} {k:Nat},RnM m π h xs ys->MRel c w ys es k->MRel (nctx m π h c) w xs es k
 |[],[],_,_,_,hv=>by simpa[MRel]using hv
 |[],_::_,_,_,hh,_=>hh.elim
 |_::_,[],_,_,hh,_=>hh.elim
 | (k1, x1) :: xs, (k2, x2) :: ys, es, k, hh, hv => by
  simp only[MRel]at hv⊢
  obtain⟨e,es',rfl,h2,h3,h4,h5,h6⟩:=hv
  have hl:xs.length=ys.length:=by
   have:∀{xs ys:List (AV×AV)},RnM m π h xs ys->xs.length=ys.length:=by
    intro xs
    induction xs with
    |nil=>intro ys hh;cases ys with|nil=>rfl|cons=>exact hh.elim
    |cons x xs ih=>intro ys hh;cases ys with|nil=>exact hh.elim|cons y ys=>simp[ih hh.2]
   exact this hh.2
  exact⟨e,es',rfl,hh.1.1 _ c w _ H M h2,hh.1.2 _ c w _ H M h3,h4,by rw[hl];exact h5,RnM.rel H M hh.2 h6⟩
theorem RnM.length:∀{xs ys:List (AV×AV)},RnM m π h xs ys->xs.length=ys.length
 |[],[],_=>rfl
 |[],_::_,hh=>hh.elim
 |_::_,[],hh=>hh.elim
 |x::xs,y::ys,hh=>by simp[RnM.length hh.2]
theorem RH.hrel {h':Heap} {c:Ctx ok} {w:World} (hb:RH m π h h') (hd:RD m π h h') (M:Maps m π h) (H:HRel c h w):HRel (nctx m π h c) h' w:=by
 have base:∀b' x',b'<m->BRn m π h (some (.blk b' x'.gen)) x'->∃x,h.get b'=some x/\x.gen=x'.gen/\((∀k,x'≠ .dead k)->∀k,x≠ .dead k):=by
  intro b' x' _ hx
  cases x' with
  |cells g cs=>obtain⟨ds,_,h1,_⟩:=hx;exact⟨_,h1,rfl,fun _ k=>by simp⟩
  |map g es=>obtain⟨ds,h1,_⟩:=hx;exact⟨_,h1,rfl,fun _ k=>by simp⟩
  |loop g N T ps asg body st=>obtain⟨T0,h1,_⟩:=hx;exact⟨_,h1,rfl,fun _ k=>by simp⟩
  |dead g=>exact⟨_,hx,rfl,fun hh=>absurd rfl (hh g)⟩
 refine⟨?_,?_,?_,?_,?_,?_,?_⟩
 ·intro b' hg g
  obtain⟨d1,d2⟩:=hd b' hg
  rcases Nat.lt_or_ge b' m with hlt|hlt
  ·rw[Qbw hlt];exact H.fresh b' (d1 hlt) g
  ·exact Qhj hlt (d2 hlt)
 ·intro b' x' hg g hlt
  rcases hb b' x' hg with⟨hm,hx⟩|⟨hm,h0,_,hx⟩
  ·obtain ⟨x, h1, h2, _⟩ := base b' x' hm hx
   rw[Qbw hm]
   exact H.later b' x h1 g (by omega)
  ·exact Qle hm (by omega)
 ·intro b' x' hg
  have own:∀(b g:Nat),(b<m/\Live h b g)\/(m<=b'/\π b'=some (.blk b g))->∀cb base,c.ρ b g=some (.loc cb base)->c.O cb->(nctx m π h c).O cb:=by
   intro b g hs cb base hp hO
   refine⟨hO,?_⟩
   rcases hs with⟨h1,h2⟩|⟨h1,h2⟩
   ·exact .inl ⟨b,g,base,h1,h2,hp⟩
   ·exact .inr ⟨b',b,g,base,h1,h2,hp⟩
  have main:∀(b g:Nat),((b<m/\Live h b g)\/(m<=b'/\π b'=some (.blk b g)))\/(∃k,x'= .dead k)->(nctx m π h c).ρ b' x'.gen=c.ρ b g->BRn m π h (some (.blk b g)) x'->BRel (nctx m π h c) w b' x':=by
   intro b g hs hr hx
   cases x' with
   |dead k=>trivial
   | cells g' cs =>
    have hs:=hs.resolve_right (by simp)
    obtain⟨ds,kk,h1,h2⟩:=hx
    change(nctx m π h c).ρ b' g'=_ at hr
    rcases H.blk b _ h1 with⟨k1,rfl⟩|⟨cb,bs,C,e,fr,k1,k2,k3,k4,k5,k6⟩
    ·left
     refine⟨hr.trans k1,?_⟩
     rw[List.take_nil]at h2
     cases cs with
     |nil=>rfl
     |cons=>exact h2.elim
    ·right
     exact⟨cb,bs,C,e,fr,hr.trans k1,own b g hs cb bs k1 k2,k3,k4,k5,h2.pre H M (Qbu kk k6)⟩
   |map g' es=>
    have hs:=hs.resolve_right (by simp)
    obtain⟨fs,h1,h2⟩:=hx
    change(nctx m π h c).ρ b' g'=_ at hr
    obtain⟨cb,es',clock,k1,k2,k3,k4⟩:=H.blk b _ h1
    exact⟨cb,es',clock,hr.trans k1,own b g hs cb 0 k1 k2,k3,h2.rel H M k4.1,by rw[h2.length];exact k4.2⟩
   |loop g' N T ps asg body st=>
    have hs:=hs.resolve_right (by simp)
    obtain⟨T0,h1,h2⟩:=hx
    change(nctx m π h c).ρ b' g'=_ at hr
    obtain⟨cb,r,k1,k2,k3,L⟩:=H.blk b _ h1
    exact⟨cb,r,hr.trans k1,own b g hs cb 0 k1 k2,k3,L.params,L.size,fun i=>h2 i _ c w _ H M (L.tmps i),L.okA,L.okB,L.state,L.pend⟩
  rcases hb b' x' hg with⟨hm,hx⟩|⟨hm,h0,hnd,hx⟩
  ·obtain ⟨x, h1, h2, h3⟩ := base b' x' hm hx
   refine main b' x'.gen ?_ (Qbw hm) hx
   by_cases hdead:∃k,x'= .dead k
   ·exact .inr hdead
   ·exact .inl (.inl ⟨hm,x,h1,h2,h3 fun k e=>hdead ⟨k,e⟩⟩)
  ·rcases hp : π b' with _ | _ | ⟨b, g⟩
   ·rw[hp]at hx;exact hx.elim
   ·rw [hp] at hx
    cases x' with
    |dead k=>trivial
    |map g' es=>exact hx.elim
    |loop g' N T ps asg body st=>exact hx.elim
    |cells g' cs=>
     have hx:cs=[]:=hx
     have h0:g'=0:=h0
     subst h0
     left
     exact⟨QfH hm hp,hx⟩
   ·rw [hp] at hx
    refine main b g (.inl (.inr ⟨hm,hp⟩)) ?_ hx
    rw[h0];exact Qdf hm hp
 ·intro b1 g1 b2 g2 cb base1 base2 l1 l2 p1 p2
  have key:∀b1 g1 base1,Live h' b1 g1->(nctx m π h c).ρ b1 g1=some (.loc cb base1)->(b1<m/\Live h b1 g1/\c.ρ b1 g1=some (.loc cb base1))\/(m<=b1/\∃b g,π b1=some (.blk b g)/\c.ρ b g=some (.loc cb base1)):=by
   rintro b1 g1 base1 ⟨x1,hx1,rfl,hd1⟩ p1
   rcases hb b1 x1 hx1 with⟨hm,hx⟩|⟨hm,h0,hnd,hx⟩
   ·rw [Qbw hm] at p1
    obtain⟨x,k1,k2,k3⟩:=base b1 x1 hm hx
    exact .inl ⟨hm,⟨x,k1,k2,k3 hd1⟩,p1⟩
   ·rw [h0] at p1
    rcases hp:π b1 with _|_|⟨b,g⟩
    ·rw[Qhj hm hp]at p1;cases p1
    ·rw[QfH hm hp]at p1;cases p1
    ·rw[Qdf hm hp]at p1;exact .inr ⟨hm,b,g,rfl,p1⟩
  rcases key b1 g1 base1 l1 p1 with⟨k1,k2,k3⟩|⟨k1,b,g,k2,k3⟩<;>rcases key b2 g2 base2 l2 p2 with⟨j1,j2,j3⟩|⟨j1,b',g',j2,j3⟩
  ·exact H.inj _ _ _ _ _ _ _ k2 j2 k3 j3
  ·obtain ⟨q1, q2⟩ := M.live _ _ _ j1 j2
   have:=H.inj _ _ _ _ _ _ _ k2 q1 k3 j3
   omega
  ·obtain ⟨q1, q2⟩ := M.live _ _ _ k1 k2
   have:=H.inj _ _ _ _ _ _ _ q1 j2 k3 j3
   omega
  ·obtain ⟨q1, q2⟩ := M.live _ _ _ j1 j2
   obtain⟨r1,r2⟩:=M.live _ _ _ k1 k2
   have:=H.inj _ _ _ _ _ _ _ r1 q1 k3 j3
   subst this
   exact M.inj _ _ _ _ _ k1 j1 k2 j2
 ·intro k hF hO
  rcases hF with hF|hF
  ·exact H.disj k hF hO.1
  ·exact hF.2 hO.2
 ·intro k hF
  rcases hF with hF|hF
  ·exact H.inF k hF
  ·exact H.inO k hF.1
 ·intro k hO;exact H.inO k hO.1
theorem Qdg (c:Ctx ok) (w:World):Evo2 m c w (nctx m π h c) w:=
 ⟨rfl, rfl, rfl, Nat.le_refl _, fun _ C _ fr hh => ⟨C, fr, hh, rfl⟩, fun _ _ _ => rfl, fun b g p hb hp => (Qbw hb).trans hp, fun _ hk => .inl hk,
  fun k hk=>hk.elim .inl fun hk=> .inr (.inl hk.1),fun k hk=> .inl hk.1,rfl⟩
theorem W2.recast {N:NM} {sc:SCode} {Q:SX->St->Prop} {T T':Tmps} {h':Heap} (M:Maps N.m π h) (hb:RH N.m π h h') (hd:RD N.m π h h') (ht:RT N.m π h T' T) (hw:W2 P N sc Q ⟨T',h'⟩):W2 P N sc Q ⟨T,h⟩:=by
 intro code hok c a w S ro hro Q' hQ
 refine hw code hok (nctx N.m π h c) a w ⟨hb.hrel hd M S.heap,fun i=>ht i _ c w _ S.heap M (S.tmps i),S.size,S.defers.mono2 (Qdg (m:=N.m) (π:=π) (h:=h) c w)⟩ ro hro Q' ?_
 intro e B c' a' w' hq S' E'
 exact hQ e B c' a' w' hq S' ((Qdg c w).trans E')
end
theorem Evo2.rebase {m:Nat} {c c':Ctx ok} {w w':World} {n:Nat} (E:Evo2 m (c.rb n) w c' w'):Evo2 m c w (c'.rb (c.base)) w':=
 ⟨E.os,E.tape,E.output,E.size,E.shape,E.keep,E.rho,E.frz,E.frzNew,E.own,rfl⟩
theorem Qf7 {m : Nat} {c0 : Ctx (okc P)} {w0 : World} {fn : Func} {a : Act} {T : Tmps} {h : Heap} {c : Ctx (okc P)} {R : Ending -> World -> Prop} (hb : w0.heap.size <= c.base)
    (fin:∀w,HRel c h w->TRel c w T a->Evo2 m c0 w0 c w->∃v,(results fn a.tmps).run P w= .ok v w/\R (.returned v) w):
    ∀(ds:List Deferred) (w:World),Marks c w ds->HRel c h w->TRel c w T a->Evo2 m c0 w0 c w->LeavesInM Fence.wide 0 P fn a.tmps R ds .returning w
  |[],w,_,H,ht,E=>fin w H ht E
  | d :: ds, w, ⟨⟨D, h1, h2, h3, h4, h5, h6⟩, hr⟩, H, ht, E => by
    obtain⟨H',X⟩:=H.mark (o:= .deferred none) h3 h4 h5
    have other:∀k,k≠D->(w.putObj D (.deferred none)).heap[k]?=w.heap[k]?:=fun k hk=>World.putObj_heap_other hk
    refine⟨by simp,.inl ⟨D,w.putObj D (.deferred none),by rw[h1],run_takeDeferred h5,?_⟩⟩
    refine Qf7 hb fin ds _ ?_ H' (fun i=>VRel.mono X _ _ (ht i)) ?_
    · clear fin
      induction ds with
      |nil=>show c.base<=_;rw[World.putObj_size];exact hr
      | cons d2 ds ih =>
        obtain⟨⟨D2,k1,k2,k3,k4,k5,k6⟩,kr⟩:=hr
        refine⟨⟨D2,k1,k2,k3,k4,?_,k6⟩,ih (fun d' hd'=>h6 d' (List.mem_cons_of_mem _ hd')) kr⟩
        rw[other D2 (fun e=>?_)]
        · exact k5
        · have := h6 d2 (List.mem_cons_self ..)
          rw[k1,e]at this;exact this rfl
    · refine ⟨E.os, E.tape, E.output, by rw [World.putObj_size]; exact E.size, fun cb C e fr hc => ?_, fun cb hlt hO => ?_, E.rho, E.frz, E.frzNew, E.own, E.base⟩
      · obtain ⟨C', fr', g1, g2⟩ := E.shape cb C e fr hc
        exact⟨C',fr',by rw[other cb (fun e=>by subst e;rw[h5]at g1;cases g1)];exact g1,g2⟩
      · rw[other cb (by omega)];exact E.keep cb hlt hO
theorem Qd8 {f m:Nat} {sf:SFn} {args:List AV} {h:Heap} {R:List AV->Heap->Prop} (hok:okFn P f sf=true) (hl:args.length<=sf.n)
  (hw:W2 P ⟨sf.n,m⟩ sf.body (fun e B=>(e= .normal\/e= .ret)/\∃vs,resV B.T B.h sf.res=some vs/\R vs B.h) ⟨argT 0 args,h⟩)
  {c:Ctx (okc P)} {w:World} {cargs:Array Value} (H:HRel c h w) (ha:VRels c w args cargs.toList):
  Calls P f cargs w fun e w'=>∃cv c' vs h',e= .returned cv/\Evo2 m c w c' w'/\HRel c' h' w'/\VRel c' w' (resOf vs) cv/\R vs h':=by
 obtain⟨fn,code,hf,hb,hc,hn,hr,_⟩:=Qb8 hok
 have hlen:=Qam ha
 have hlen:args.length=cargs.size:=by simpa using hlen
 refine(callsIn_wide (n:=0)).1 (callsIn_of_wp_marks hf hb trivial ?_)
 refine hw code hc (c.rb (w.heap.size)) _ w ⟨H.rebase _,?_,?_,Nat.le_refl _⟩ none (fun _=>rfl) _ ?_
 ·intro i
  refine VRel.rebase _ ?_
  by_cases hi:i<args.length
  ·have := QfF args cargs.toList 0 [] i ha rfl
   simp only[List.nil_append]at this
   have e:(cargs++Array.replicate (fn.ntmps-cargs.size) undef).getD i undef=cargs.toList.getD i undef:=by
    rw[Array.getD_eq_getD_getElem?,Array.getElem?_append_left (by omega)]
    simp[List.getD_eq_getElem?_getD]
   rw[e];exact this
  ·rw[QfG args 0 i (by omega)];simp[VRel]
 ·simp;omega
 ·intro e B c' a' w' hq S' E'
  obtain⟨he,vs,hvs,hR⟩:=hq
  have out:LeavesInM Fence.wide 0 P fn a'.tmps (fun e w'=>∃cv c' vs h',e= .returned cv/\Evo2 m c w c' w'/\HRel c' h' w'/\VRel c' w' (resOf vs) cv/\R vs h') a'.defers .returning w':=by
   refine Qf7 (m:=m) (c0:=(c.rb (w.heap.size))) (w0:=w) (T:=B.T) (h:=B.h) (c:=c') (by rw[E'.base];exact Nat.le_refl _) ?_ a'.defers w' S'.defers S'.heap S'.tmps E'
   intro w2 H2 ht2 E2
   obtain⟨cv,k1,k2⟩:=Qep H2 ht2 hr hvs
   exact⟨cv,k1,cv,(c'.rb (c.base)),vs,B.h,rfl,E2.rebase,H2.rebase _,k2.rebase _,hR⟩
  rcases he with rfl|rfl
  ·exact out
  ·exact out
abbrev π0:Nat->Option Src:=fun _=>none
theorem maps0 {h:Heap}:Maps 0 π0 h:=⟨fun b' b g _ hh=>by simp[π0]at hh,fun b1 b2 b g g2 _ _ hh _=>by simp[π0]at hh⟩
theorem PSpec.of_W2 {f:Nat} {sf:SFn} {args:List AV} {v:AV} (hok:okFn P f sf=true) (hl:args.length<=sf.n) (ha:noRefs args=true) (hv:noRef v=true)
  (hw:W2 P ⟨sf.n,0⟩ sf.body (fun e B=>(e= .normal\/e= .ret)/\∃vs,resV B.T B.h sf.res=some vs/\Rn 0 π0 B.h v (resOf vs)) ⟨argT 0 args,.e⟩):PSpec P f args v:=by
 obtain⟨_,_,_,_,_,_,_,hc⟩:=Qb8 hok
 refine⟨ha,hv,.e,hc,fun c w cargs H ha=>(Qd8 (R:=fun vs k=>Rn 0 π0 k v (resOf vs)) hok hl hw H ha).mono ?_⟩
 rintro e w' ⟨cv,c',vs,k,rfl,E,H',V,hk⟩
 have V':=hk _ c' w' cv H' maps0 V
 have hF:∀b,c'.F b\/c'.O b->b<w'.heap.size:=fun b hb=>hb.elim (H'.inF b) (H'.inO b)
 refine⟨cv,only (fun b=>c'.F b\/c'.O b) c.base,rfl,?_,HRel.only hF,VRel.noRef (c:=nctx 0 π0 k c') (c':=only (fun b=>c'.F b\/c'.O b) c.base) (fun _ h=>h.elim .inl fun h=> .inr h.1) _ _ hv V'⟩
 refine⟨E.os,E.tape,E.output,E.size,E.shape,E.keep,fun b g p hp=>?_,fun b hb=> .inl (E.frz b hb),fun b hb=>?_,fun b hb=>hb.elim,rfl⟩
 ·rw[H.fresh b rfl g]at hp;cases hp
 ·rcases hb with hb | hb
  ·exact E.frzNew b hb
  ·rcases E.own b hb with h1 | h1
   ·exact .inr (.inl h1)
   ·exact .inr (.inr h1)
theorem HSpec.of_W2 {f m:Nat} {sf:SFn} {args:List AV} {h h':Heap} {v:AV} (hok:okFn P f sf=true) (hl:args.length<=sf.n) (hm:∀b,m<=b->h.get b=none)
  (hw:W2 P ⟨sf.n,m⟩ sf.body (fun e B=>(e= .normal\/e= .ret)/\∃vs π,resV B.T B.h sf.res=some vs/\Maps m π B.h/\RH m π B.h h'/\RD m π B.h h'/\Rn m π B.h v (resOf vs)) ⟨argT 0 args,h⟩):HSpec P f args h v h':=by
 obtain⟨_,_,_,_,_,_,_,hc⟩:=Qb8 hok
 refine⟨hc,fun c w cargs H ha=>(Qd8 (R:=fun vs k=>∃π,Maps m π k/\RH m π k h'/\RD m π k h'/\Rn m π k v (resOf vs)) hok hl (hw.mono fun e B ⟨h1,vs,π,h2,h3⟩=>⟨h1,vs,h2,π,h3⟩) H ha).mono ?_⟩
 rintro e w' ⟨cv,c',vs,k,rfl,E,H',V,π,M,hb,hd,hk⟩
 have E2:=E.trans (Qdg (m:=m) (π:=π) (h:=k) c' w')
 refine⟨cv,nctx m π k c',rfl,?_,hb.hrel hd M H',hk _ c' w' cv H' M V⟩
 refine⟨E2.os,E2.tape,E2.output,E2.size,E2.shape,E2.keep,fun b g p hp=>?_,E2.frz,E2.frzNew,E2.own,E2.base⟩
 rcases Nat.lt_or_ge b m with h1|h1
 ·exact E2.rho b g p h1 hp
 ·rw[H.fresh b (hm b h1) g]at hp;cases hp
end Go.AM
namespace Go.AM
variable {P:Program}
def wpR (P:Program):Nat->List SOper->Tmps->Heap->(Tmps->Heap->Nat->Prop)->Prop
 |n,[],T,h,K=>K T h n
 |n,s::r,T,h,K=>∃v h1 f,StepV P n s T h v h1 f/\wpR P (n+1) r (putD T s.dst v) h1 K
theorem wpR.toWR:∀{r:List SOper} {n i:Nat} {T:Tmps} {h:Heap} {K:Tmps->Heap->Nat->Prop},wpR P (n+i) r T h K->WR P n i r T h fun T h=>K T h (n+i+r.length)
 |[],n,i,T,h,K,hk=>hk
 |s::r,n,i,T,h,K,⟨v,h1,f,hs,hr⟩=>by
  refine⟨f,v,h1,hs,?_⟩
  have:=wpR.toWR (i:=i+1) hr
  have e:n+(i+1)+r.length=n+i+(s::r).length:=by simp;omega
  rw[e]at this
  exact this
def wpRF (P:Program):Nat->List SOper->Tmps->Heap->(List FP->Tmps->Heap->Nat->Prop)->Prop
 |n,[],T,h,K=>K [] T h n
 |n,s::r,T,h,K=>∃v h1 f,StepV P n s T h v h1 f/\wpRF P (n+1) r (putD T s.dst v) h1 fun fs T h n=>K (f::fs) T h n
theorem wpRF.toF:∀{r:List SOper} {n i:Nat} {T:Tmps} {h:Heap} {K:List FP->Tmps->Heap->Nat->Prop},wpRF P (n+i) r T h K->
  ∃fs T' h',RunF P n i r fs ⟨T,h⟩ ⟨T',h'⟩/\K fs T' h' (n+i+r.length)
 |[],n,i,T,h,K,hk=>⟨[],T,h,⟨rfl,rfl⟩,hk⟩
 |s::r,n,i,T,h,K,⟨v,h1,f,hs,hr⟩=>by
  obtain⟨fs,T',h',h2,hk⟩:=wpRF.toF (i:=i+1) hr
  refine⟨f::fs,T',h',⟨f,fs,v,h1,rfl,hs,h2⟩,?_⟩
  have e:n+i+(s::r).length=n+(i+1)+r.length:=by simp;omega
  rw[e];exact hk
abbrev QC:=SX->Tmps->Heap->Nat->Prop
def wpC (P:Program) (N:NM):SCode->Nat->Tmps->Heap->QC->Prop
 | .skip,n,T,h,Q=>Q .normal T h n
 | .ret,n,T,h,Q=>Q .ret T h n
 | .exit i,n,T,h,Q=>Q (.exit i) T h n
 | .bad,_,_,_,_=>False
 | .mloop pre x it nx ok en b1 b2 rest body,n,T,h,Q=>W2 P N (.mloop pre x it nx ok en b1 b2 rest body) (fun e B=>∃n,Q e B.T B.h n) ⟨T,h⟩
 | .rfunc g ps M asg body,n,T,h,Q=>W2 P N (.rfunc g ps M asg body) (fun e B=>∃n,Q e B.T B.h n) ⟨T,h⟩
 | .region ops [] dead,n,T,h,Q=>wpR P n ops T h fun T h n=>Q .normal (rm T dead) h n
 | .region ops (p::ps) dead,n,T,h,Q=>wpRF P n ops T h fun fs T h n=>((p::ps).all fun p=>(fs.getD p.1 ⟨false,[],[]⟩).apart (fs.getD p.2 ⟨false,[],[]⟩))=true/\Q .normal (rm T dead) h n
 | .seq a b,n,T,h,Q=>wpC P N a n T h fun e T h n=>match e with
  | .normal=>wpC P N b n T h Q
  |e=>Q e T h n
 | .cond x a b,n,T,h,Q=>∃t,ev T x= .bool t/\if t=true then wpC P N a n T h Q else wpC P N b n T h Q
 | .block i b,n,T,h,Q=>wpC P N b n T h fun e T h n=>match e with
  | .exit j=>if j=i then Q .normal T h n else Q (.exit j) T h n
  |e=>Q e T h n
 | .loop b,n,T,h,Q=>W2 P N (.loop b) (fun e B=>∃n,Q e B.T B.h n) ⟨T,h⟩
theorem wpC.toW {N:NM}:∀{c:SCode} {n:Nat} {T:Tmps} {h:Heap} {Q:QC},wpC P N c n T h Q->W2 P N c (fun e B=>∃n,Q e B.T B.h n) ⟨T,h⟩
 | .skip,n,T,h,Q,hk=>W2.skip ⟨n,hk⟩
 | .ret,n,T,h,Q,hk=>W2.ret ⟨n,hk⟩
 | .exit i,n,T,h,Q,hk=>W2.exit ⟨n,hk⟩
 | .bad,_,_,_,_,hk=>hk.elim
 | .mloop ..,n,T,h,Q,hk=>hk
 | .rfunc ..,n,T,h,Q,hk=>hk
 | .region ops [] dead,n,T,h,Q,hk=>by
  have:=wpR.toWR (i:=0) hk
  exact W2.of_W<|W.regionR n (this|>fun h=>by simpa using(show _ from(wr_mono h)))
 | .region ops (p::ps) dead,n,T,h,Q,hk=>by
  obtain⟨fs,T',h',h1,h2,h3⟩:=wpRF.toF (i:=0) hk
  exact W2.of_W<|W.regionF n fs h1 h2 ⟨_,h3⟩
 | .seq a b,n,T,h,Q,hk=>by
  simp only[wpC]at hk
  refine W2.seq ((wpC.toW (c:=a) hk).mono ?_)
  rintro e B ⟨n',hq⟩
  cases e with
  |normal=>exact wpC.toW hq
  |exit i=>exact⟨n',hq⟩
  |ret=>exact⟨n',hq⟩
 | .cond x a b,n,T,h,Q,⟨t,hx,hk⟩=>by
  refine W2.cond hx ?_ ?_
  ·intro e;rw[if_pos e]at hk;exact wpC.toW hk
  ·intro e;rw[if_neg (by simp[e])]at hk;exact wpC.toW hk
 | .block i b, n, T, h, Q, hk => by
  simp only[wpC]at hk
  refine W2.block ((wpC.toW (c:=b) hk).mono ?_)
  rintro e B ⟨n',hq⟩
  cases e with
  |normal=>exact⟨n',hq⟩
  |ret=>exact⟨n',hq⟩
  |exit j=>
   simp only at hq⊢
   split
   ·rename_i e;rw[if_pos e]at hq;exact⟨n',hq⟩
   ·rename_i e;rw[if_neg e]at hq;exact⟨n',hq⟩
 | .loop b,n,T,h,Q,hk=>hk
where
 wr_mono {ops:List SOper} {n:Nat} {T:Tmps} {h:Heap} {dead:List Nat} {Q:QC} {m:Nat} (hk:WR P n 0 ops T h fun T h=>Q .normal (rm T dead) h m):WR P n 0 ops T h fun T h=>∃n,Q .normal (rm T dead) h n:=by
  have:∀{r:List SOper} {i:Nat} {T:Tmps} {h:Heap} {K K':Tmps->Heap->Prop},WR P n i r T h K->(∀T h,K T h->K' T h)->WR P n i r T h K':=by
   intro r
   induction r with
   |nil=>intro i T h K K' hk hK;exact hK _ _ hk
   |cons s r ih=>
    intro i T h K K' ⟨f,v,h1,hs,hr⟩ hK
    exact⟨f,v,h1,hs,ih hr hK⟩
  exact this hk fun T h hq=>⟨m,hq⟩
end Go.AM
namespace Go.AM
variable {P:Program}
inductive Fr where
 |sq (b:SCode)
 |blk (i:Nat)
def ct (P:Program) (N:NM):List Fr->QC->QC
 |[],Q=>Q
 | .sq b::fs,Q=>fun e T h n=>match e with
  | .normal=>wpC P N b n T h (ct P N fs Q)
  |e=>ct P N fs Q e T h n
 | .blk i::fs,Q=>fun e T h n=>match e with
  | .exit j=>if j=i then ct P N fs Q .normal T h n else ct P N fs Q (.exit j) T h n
  |e=>ct P N fs Q e T h n
def wS (P:Program) (N:NM) (c:SCode) (fs:List Fr) (n:Nat) (T:Tmps) (h:Heap) (Q:QC):Prop:=wpC P N c n T h (ct P N fs Q)
def wR (P:Program) (N:NM) (ops:List SOper) (dead:List Nat) (fs:List Fr) (n:Nat) (T:Tmps) (h:Heap) (Q:QC):Prop:=wpR P n ops T h fun T h n=>ct P N fs Q .normal (rm T dead) h n
def wX (P:Program) (N:NM) (e:SX) (fs:List Fr) (n:Nat) (T:Tmps) (h:Heap) (Q:QC):Prop:=ct P N fs Q e T h n
def wO (P:Program) (N:NM) (o:Option AV) (d:Option Nat) (ops:List SOper) (dead:List Nat) (fs:List Fr) (n:Nat) (T:Tmps) (h:Heap) (Q:QC):Prop:=
 ∃v,o=some v/\wR P N ops dead fs (n+1) (putD T d v) h Q
def wM (P:Program) (N:NM) (m:HM AV) (d:Option Nat) (ops:List SOper) (dead:List Nat) (fs:List Fr) (n:Nat) (T:Tmps) (h:Heap) (Q:QC):Prop:=
 ∃v h1,m.run h=some (v,h1)/\wR P N ops dead fs (n+1) (putD T d v) h1 Q
def wG (P:Program) (N:NM) (o:Option Bool) (d:Option Nat) (op:SOp) (ops:List SOper) (dead:List Nat) (fs:List Fr) (n:Nat) (T:Tmps) (h:Heap) (Q:QC):Prop:=
 match o with
 |some true=>wR P N (⟨d,op,[],none⟩::ops) dead fs n T h Q
 |some false=>wR P N ops dead fs (n+1) (putD T d (.tup [])) h Q
 |none=>False
def wC (P:Program) (N:NM) (x:AV) (a b:SCode) (fs:List Fr) (n:Nat) (T:Tmps) (h:Heap) (Q:QC):Prop:=
 ∃t,x= .bool t/\if t=true then wS P N a fs n T h Q else wS P N b fs n T h Q
def wCall (P:Program) (N:NM) (m:CallM) (x:AV) (args:List AV) (d:Option Nat) (ops:List SOper) (dead:List Nat) (fs:List Fr) (n:Nat) (T:Tmps) (h:Heap) (Q:QC):Prop:=
 match x with
 | .fn f a c=>match m with
  | .pure=>∃v,PSpec P f (a++args++c) v/\wR P N ops dead fs (n+1) (putD T d v) h Q
  | .heap=>∃v h1,HSpec P f (a++args++c) h v h1/\wR P N ops dead fs (n+1) (putD T d v) h1 Q
  | .borrow=>∃asg h1 v,(mapH (frzH 4) (a++args++c)).run h=some (asg,h1)/\PSpec P f asg v/\flatV v=true/\wR P N ops dead fs (n+1) (putD T d v) h1 Q
 | .yld b g=>match m with
  | .heap=>∃v h1,RSpec P b g args h v h1/\wR P N ops dead fs (n+1) (putD T d v) h1 Q
  |_=>False
 |_=>False
section
variable {N:NM} {n:Nat} {T:Tmps} {h:Heap} {Q:QC} {fs:List Fr}
theorem Qj7:wS P N .skip fs n T h Q=wX P N .normal fs n T h Q:=rfl
theorem QlS:wS P N .ret fs n T h Q=wX P N .ret fs n T h Q:=rfl
theorem Qj8 {i:Nat}:wS P N (.exit i) fs n T h Q=wX P N (.exit i) fs n T h Q:=rfl
theorem Qhk {ops:List SOper} {dead:List Nat}:wS P N (.region ops [] dead) fs n T h Q=wR P N ops dead fs n T h Q:=rfl
theorem QlT {a b:SCode}:wS P N (.seq a b) fs n T h Q=wS P N a (.sq b::fs) n T h Q:=rfl
theorem Qj9 {x:Opd} {a b:SCode}:wS P N (.cond x a b) fs n T h Q=wC P N (ev T x) a b fs n T h Q:=rfl
theorem Qiv {i:Nat} {b:SCode}:wS P N (.block i b) fs n T h Q=wS P N b (.blk i::fs) n T h Q:=rfl
theorem Qka {a b:SCode}:wC P N (.bool true) a b fs n T h Q=wS P N a fs n T h Q:=by simp[wC]
theorem Qiw {a b:SCode}:wC P N (.bool false) a b fs n T h Q=wS P N b fs n T h Q:=by simp[wC]
theorem Qkb {t:Bool} {a b:SCode}:wC P N (.bool t) a b fs n T h Q=if t=true then wS P N a fs n T h Q else wS P N b fs n T h Q:=by cases t<;>simp[wC]
theorem QlU {e:SX}:wX P N e [] n T h Q=Q e T h n:=rfl
theorem wX_sq {b:SCode}:wX P N .normal (.sq b::fs) n T h Q=wS P N b fs n T h Q:=rfl
theorem Qhl {b:SCode}:wX P N .ret (.sq b::fs) n T h Q=wX P N .ret fs n T h Q:=rfl
theorem Qf8 {b:SCode} {i:Nat}:wX P N (.exit i) (.sq b::fs) n T h Q=wX P N (.exit i) fs n T h Q:=rfl
theorem QlV {i:Nat}:wX P N .normal (.blk i::fs) n T h Q=wX P N .normal fs n T h Q:=rfl
theorem Qf9 {i:Nat}:wX P N .ret (.blk i::fs) n T h Q=wX P N .ret fs n T h Q:=rfl
theorem Qfb {i j:Nat}:wX P N (.exit j) (.blk i::fs) n T h Q=if j=i then wX P N .normal fs n T h Q else wX P N (.exit j) fs n T h Q:=rfl
end
theorem ev_t (T:Tmps) (i:Nat):ev T (.t i)=lk T i:=rfl
theorem ev_c (T:Tmps) (v:AV):ev T (.c v)=v:=rfl
theorem ev_f (T:Tmps) (n:Nat):ev T (.f n)= .fn n [] []:=rfl
theorem QlW (i:Nat):lk [] i= .any:=rfl
theorem QaM (j:Nat) (v:AV) (r:Tmps) (i:Nat):lk ((j,v)::r) i=if j=i then v else lk r i:=by
  simp only[lk];by_cases h:j=i
  · subst h;simp
  · have : Nat.beq j i = false := by rw [Bool.eq_false_iff]; simpa using h
    rw[this,if_neg h];rfl
theorem QgL (j:Nat) (u:AV) (r:Tmps) (i:Nat) (v:AV):up ((j,u)::r) i v=if j=i then(j,v)::r else(j,u)::up r i v:=by
  simp only[up];by_cases h:j=i
  · subst h;simp
  · have : Nat.beq j i = false := by rw [Bool.eq_false_iff]; simpa using h
    rw[this,if_neg h];rfl
theorem QlX (i:Nat) (v:AV):up [] i v=[(i,v)]:=rfl
theorem QlY (l:List Nat):rm [] l=[]:=rfl
theorem rm_no (T:Tmps):rm T []=T:=by
 induction T with
 |nil=>rfl
 |cons p T ih=>obtain⟨j,u⟩:=p;simp[rm,ih]
theorem Qkc (j:Nat) (u:AV) (r:Tmps) (l:List Nat):rm ((j,u)::r) l=if l.elem j=true then rm r l else(j,u)::rm r l:=by
  simp only[rm]
  by_cases h:j∈l
  · have : l.any (Nat.beq j) = true := List.any_eq_true.2 ⟨j, h, by simp⟩
    rw[this,if_pos (by simpa using h)];rfl
  · have : l.any (Nat.beq j) = false := by
      rw[Bool.eq_false_iff];intro h'
      obtain⟨x,hx,e⟩:=List.any_eq_true.1 h'
      have:j=x:=by simpa using e
      exact h (this▸hx)
    rw[this,if_neg (by simpa using h)];rfl
theorem Qhm (T:Tmps) (d:Nat) (v:AV):putD T (some d) v=up T d v:=rfl
theorem Qhn (T:Tmps) (v:AV):putD T none v=T:=rfl
theorem Qix (k:Nat):argT k []=[]:=rfl
theorem Qho (k:Nat) (x:AV) (xs:List AV):argT k (x::xs)=(k,x)::argT (k+1) xs:=rfl
theorem Qkd (T:Tmps):evs T []=[]:=rfl
theorem Qiy (T:Tmps) (x:Opd) (r:List Opd):evs T (x::r)=ev T x::evs T r:=rfl
theorem Qiz (T:Tmps):evo T none=none:=rfl
theorem QiA (T:Tmps) (x:Opd):evo T (some x)=some (ev T x):=rfl
theorem Qfc (T:Tmps):evParts T []=[]:=rfl
theorem QeF (T:Tmps) (a b:Nat) (x:Opd) (r:List (Nat×Nat×Opd)):evParts T ((a,b,x)::r)=(a,b,ev T x)::evParts T r:=rfl
section
variable {N:NM} {n:Nat} {d:Option Nat} {af dead:List Nat} {r:List SOper} {T:Tmps} {h:Heap} {Q:QC} {fs:List Fr}
theorem QlZ:wR P N [] dead fs n T h Q=wX P N .normal fs n (rm T dead) h Q:=rfl
theorem QiB {op:SOp} {g:Nat} {w:Bool}:wR P N (⟨d,op,af,some (g,w)⟩::r) dead fs n T h Q=wG P N (wantedA (lk T g) w) d op r dead fs n T h Q:=by
 apply propext
 unfold wG
 constructor
 ·rintro ⟨v, h1, f, ⟨b, hw, hb⟩, hk⟩
  rw[hw]
  cases b with
  |true=>rw[if_pos rfl]at hb;exact⟨v,h1,f,hb,hk⟩
  |false=>
   rw[if_neg (by simp)]at hb
   obtain⟨rfl,rfl,rfl⟩:=hb
   exact hk
 ·intro hk
  cases hw:wantedA (lk T g) w with
  |none=>rw[hw]at hk;exact hk.elim
  | some b =>
   rw[hw]at hk
   cases b with
   |true=>
    obtain⟨v,h1,f,hs,hk⟩:=hk
    exact⟨v,h1,f,⟨true,hw,by rw[if_pos rfl];exact hs⟩,hk⟩
   |false=>exact⟨.tup [],h,⟨false,[],[]⟩,⟨false,hw,by simp⟩,hk⟩
theorem Qke {b w:Bool} {op:SOp}:wG P N (wantedA (.bool b) w) d op r dead fs n T h Q=if b=w then wR P N (⟨d,op,[],none⟩::r) dead fs n T h Q else wR P N r dead fs (n+1) (putD T d (.tup [])) h Q:=by
 cases b<;>cases w<;>simp[wG,wantedA]
theorem Qkf {w:Bool} {op:SOp}:wG P N (wantedA (.tup []) w) d op r dead fs n T h Q=wR P N r dead fs (n+1) (putD T d (.tup [])) h Q:=by simp[wG,wantedA]
theorem Qa4 {op:SOp} {o:Option AV} (e:aop n T op=lift o):wR P N (⟨d,op,af,none⟩::r) dead fs n T h Q=wO P N o d r dead fs n T h Q:=by
 apply propext
 constructor
 ·rintro ⟨v, h1, f, ⟨out, h2, hm, ho⟩, hk⟩
  rw[e]at hm
  obtain⟨u,hu,he⟩:=QaC hm
  cases he
  obtain⟨rfl,rfl,_⟩:=ho
  exact⟨_,hu,hk⟩
 ·rintro ⟨v, hv, hk⟩
  refine⟨v,h,_,⟨.val v,h,?_,rfl,rfl,rfl⟩,hk⟩
  rw[e,hv];rfl
theorem run_hval' {v:AV} {h1:Heap}:∀(m:HM AV) (h:Heap),m.run h=some (v,h1)->(hval m).run h=some (.val v,h1):=by
 intro m
 induction m with
 |ret a=>intro h hm;simp only[HM.run,Option.some.injEq,Prod.mk.injEq]at hm;obtain⟨rfl,rfl⟩:=hm;rfl
 |fail=>intro h hm;simp[HM.run]at hm
 |look b k ih=>intro h hm;exact ih _ h hm
 |put b x k ih=>
  intro h hm
  obtain⟨hl,hm⟩:=QaF hm
  have:=ih _ hm
  simp only[hval,HM.bind,HM.run]
  have hl':Nat.blt b lim=true:=by simp[Nat.blt];omega
  rw[hl'];exact this
theorem Qba {op:SOp} {m:HM AV} (e:aop n T op=hval m):wR P N (⟨d,op,af,none⟩::r) dead fs n T h Q=wM P N m d r dead fs n T h Q:=by
 apply propext
 constructor
 ·rintro ⟨v, h1, f, ⟨out, h2, hm, ho⟩, hk⟩
  rw[e]at hm
  obtain⟨u,h3,hu,he⟩:=QaA hm
  cases he
  obtain⟨rfl,rfl,_⟩:=ho
  exact⟨_,_,hu,hk⟩
 ·rintro ⟨v, h1, hv, hk⟩
  exact⟨v,h1,_,⟨.val v,h1,by rw[e];exact run_hval' m h hv,rfl,rfl,rfl⟩,hk⟩
theorem Ql0 {x:Opd}:wR P N (⟨d,.mov x,af,none⟩::r) dead fs n T h Q=wR P N r dead fs (n+1) (putD T d (ev T x)) h Q:=by
 rw[Qa4 (o:=some (ev T x)) rfl];simp[wO]
theorem Qkg {f:Nat} {xs ys:List Opd}:wR P N (⟨d,.mkfn f xs ys,af,none⟩::r) dead fs n T h Q=wR P N r dead fs (n+1) (putD T d (.fn f (evs T xs) (evs T ys))) h Q:=by
 rw[Qa4 (o:=some (.fn f (evs T xs) (evs T ys))) rfl];simp[wO]
theorem Qkh {c a b:Opd}:wR P N (⟨d,.pick c a b,af,none⟩::r) dead fs n T h Q=wO P N (aPick (ev T c) (ev T a) (ev T b)) d r dead fs n T h Q:=Qa4 rfl
theorem QiC {z:List AV} {ps:List (Nat×Nat×Opd)}:wR P N (⟨d,.build z ps,af,none⟩::r) dead fs n T h Q=wO P N (aBuild z (evParts T ps)) d r dead fs n T h Q:=Qa4 rfl
theorem Qhp {x:Opd}:wR P N (⟨d,.nilchk x,af,none⟩::r) dead fs n T h Q=wO P N (aNil (ev T x)) d r dead fs n T h Q:=Qa4 rfl
theorem Ql1 {op:BinOp} {x y:Opd}:wR P N (⟨d,.bin op x y,af,none⟩::r) dead fs n T h Q=wO P N (aBin op (ev T x) (ev T y)) d r dead fs n T h Q:=Qa4 rfl
theorem wR_eq {k:EqK} {neg:Bool} {x y:Opd}:wR P N (⟨d,.eq k neg x y,af,none⟩::r) dead fs n T h Q=wO P N (aEq k neg (ev T x) (ev T y)) d r dead fs n T h Q:=Qa4 rfl
theorem Ql2 {neg:Bool} {x:Opd}:wR P N (⟨d,.eqn neg x,af,none⟩::r) dead fs n T h Q=wM P N (aEqN neg (ev T x)) d r dead fs n T h Q:=Qba rfl
theorem QiD {sz bytes:Nat} {zero:List AV} {x:Opd}:wR P N (⟨d,.clear sz bytes zero x,af,none⟩::r) dead fs n T h Q=wM P N (aClear sz zero (ev T x)) d r dead fs n T h Q:=Qba rfl
theorem wR_un {op:UnOp} {x:Opd}:wR P N (⟨d,.un op x,af,none⟩::r) dead fs n T h Q=wO P N (aUn op (ev T x)) d r dead fs n T h Q:=Qa4 rfl
theorem Qki {k:IntKind} {x:Opd}:wR P N (⟨d,.conv k x,af,none⟩::r) dead fs n T h Q=wO P N (aConv k (ev T x)) d r dead fs n T h Q:=Qa4 rfl
theorem Qdh {x:Opd}:wR P N (⟨d,.convS x,af,none⟩::r) dead fs n T h Q=wO P N (aConvS (ev T x)) d r dead fs n T h Q:=Qa4 rfl
theorem Qne {x:Opd}:wR P N (⟨d,.convB x,af,none⟩::r) dead fs n T h Q=wM P N (aConvB (ev T x)) d r dead fs n T h Q:=Qba rfl
theorem QiE {sz:Option Nat} {x:Opd} {l hh m:Option Opd}:wR P N (⟨d,.slice sz x l hh m,af,none⟩::r) dead fs n T h Q=wO P N (aSliceC sz (ev T x) (evo T l) (evo T hh) (evo T m)) d r dead fs n T h Q:=Qa4 rfl
theorem QiF {o:Nat} {x:Opd}:wR P N (⟨d,.faddr o x,af,none⟩::r) dead fs n T h Q=wO P N (aFAddr o (ev T x)) d r dead fs n T h Q:=Qa4 rfl
theorem QiG {k:Option Nat} {o:Nat} {x:Opd}:wR P N (⟨d,.field k o x,af,none⟩::r) dead fs n T h Q=wO P N (aField k o (ev T x)) d r dead fs n T h Q:=Qa4 rfl
theorem QiH {a:Option Nat} {sz:Nat} {x j:Opd}:wR P N (⟨d,.iaddr a sz x j,af,none⟩::r) dead fs n T h Q=wO P N (aIAddr a sz (ev T x) (ev T j)) d r dead fs n T h Q:=Qa4 rfl
theorem QiI {a:Option (Nat×Nat×Bool)} {x j:Opd}:wR P N (⟨d,.index a x j,af,none⟩::r) dead fs n T h Q=wO P N (aIndex a (ev T x) (ev T j)) d r dead fs n T h Q:=Qa4 rfl
theorem Qga {j:Nat} {x:Opd}:wR P N (⟨d,.extract j x,af,none⟩::r) dead fs n T h Q=wO P N (aExtract j (ev T x)) d r dead fs n T h Q:=Qa4 rfl
theorem Qhq {mn:Bool} {xs:List Opd}:wR P N (⟨d,.maxmin mn xs,af,none⟩::r) dead fs n T h Q=wO P N (aMax mn (evs T xs)) d r dead fs n T h Q:=Qa4 rfl
theorem QiJ {s:Site} {z:AV}:wR P N (⟨d,.alloc s z,af,none⟩::r) dead fs n T h Q=wM P N (aBox s n z) d r dead fs n T h Q:=Qba rfl
theorem Ql3 {s:Site} {x:Opd}:wR P N (⟨d,.box s x,af,none⟩::r) dead fs n T h Q=wM P N (aBox s n (ev T x)) d r dead fs n T h Q:=Qba rfl
theorem Qhr {fz:Bool} {s:Site} {sz len:Nat} {z:List AV} {ps:List (Nat×Nat×Opd)}:wR P N (⟨d,.bslice fz s sz len z ps,af,none⟩::r) dead fs n T h Q=wM P N (aBuildSlice fz s n sz len z (evParts T ps)) d r dead fs n T h Q:=Qba rfl
theorem Qkj {k:Option Nat} {x:Opd}:wR P N (⟨d,.load k x,af,none⟩::r) dead fs n T h Q=wM P N (aLoad k (ev T x)) d r dead fs n T h Q:=Qba rfl
theorem QiK {k:Nat} {x v:Opd}:wR P N (⟨d,.store k x v,af,none⟩::r) dead fs n T h Q=wM P N (aStore k (ev T x) (ev T v)) d r dead fs n T h Q:=Qba rfl
theorem QiL {s:Site}:wR P N (⟨d,.mkmap s,af,none⟩::r) dead fs n T h Q=wM P N (aMakeMap s n) d r dead fs n T h Q:=Qba rfl
theorem Qgb {s:Site} {sz b:Nat} {z:List AV} {l c:Opd}:wR P N (⟨d,.mkslice s sz b z l c,af,none⟩::r) dead fs n T h Q=wM P N (aMakeSlice s n sz b z (ev T l) (ev T c)) d r dead fs n T h Q:=Qba rfl
theorem Qhs {row:Bool} {ks:List LK} {z:AV} {ok:Bool} {x k:Opd}:wR P N (⟨d,.lookup row ks z ok x k,af,none⟩::r) dead fs n T h Q=wM P N (aLookup row ks z ok (ev T x) (ev T k)) d r dead fs n T h Q:=Qba rfl
theorem Qkk {row:Bool} {ks:List LK} {x k v:Opd}:wR P N (⟨d,.mupd row ks x k v,af,none⟩::r) dead fs n T h Q=wM P N (aMapUpd row ks (ev T x) (ev T k) (ev T v)) d r dead fs n T h Q:=Qba rfl
theorem Ql4 {k:Nat} {x:Opd}:wR P N (⟨d,.len k x,af,none⟩::r) dead fs n T h Q=wM P N (aLenC k (ev T x)) d r dead fs n T h Q:=Qba rfl
theorem Qht {s:Site} {sz b:Nat} {x y:Opd}:wR P N (⟨d,.append s sz b x y,af,none⟩::r) dead fs n T h Q=wM P N (aAppend s n sz b (ev T x) (ev T y)) d r dead fs n T h Q:=Qba rfl
theorem Qkl {sz:Nat} {x y:Opd}:wR P N (⟨d,.copy sz x y,af,none⟩::r) dead fs n T h Q=wM P N (aCopy sz (ev T x) (ev T y)) d r dead fs n T h Q:=Qba rfl
theorem Qkm {m:CallM} {x:Opd} {args:List Opd}:wR P N (⟨d,.call m x args,af,none⟩::r) dead fs n T h Q=wCall P N m (ev T x) (evs T args) d r dead fs n T h Q:=by
 apply propext
 have e:aop n T (.call m x args)=aCall m (ev T x) (evs T args):=rfl
 constructor
 ·rintro ⟨v, h1, f, ⟨out, h2, hm, ho⟩, hk⟩
  rw[e]at hm
  unfold aCall at hm
  unfold wCall
  cases hx:ev T x<;>rw[hx]at hm<;>first|(simp[HM.run]at hm;done)|skip
  rotate_left
  ·cases m <;> simp only [HM.run, Option.some.injEq, Prod.mk.injEq, reduceCtorEq] at hm
   obtain⟨rfl,rfl⟩:=hm
   exact⟨_,_,ho.1,hk⟩
  simp only at hm
  rename_i g a c
  cases m
  ·simp only [HM.run, Option.some.injEq, Prod.mk.injEq] at hm
   obtain⟨rfl,rfl⟩:=hm
   rcases ho with⟨ho,_⟩|⟨b,y,xs,hg,hb,rfl,_⟩|ho|ho
   ·exact⟨_,_,ho,hk⟩
   ·exact⟨_,_,hg.heap hb,hk⟩
   ·exact⟨_,_,ho.heap,hk⟩
   ·exact⟨_,_,ho.heap,hk⟩
  ·simp only [HM.run, Option.some.injEq, Prod.mk.injEq] at hm
   obtain⟨rfl,rfl⟩:=hm
   obtain⟨hp,rfl,_⟩:=ho
   exact⟨_,hp,hk⟩
  ·obtain ⟨asg, h3, k1, k2⟩ := run_bind hm
   simp only[HM.run,Option.some.injEq,Prod.mk.injEq]at k2
   obtain⟨rfl,rfl⟩:=k2
   obtain⟨hp,hf,rfl,_⟩:=ho
   exact⟨_,_,_,k1,hp,hf,hk⟩
 ·intro hk
  unfold wCall at hk
  cases hx:ev T x<;>rw[hx]at hk<;>first|exact hk.elim|skip
  rotate_left
  ·rename_i b g
   cases m
   ·obtain ⟨v, h1, hs, hk⟩ := hk
    exact⟨v,h1,_,⟨.round b g (evs T args),h,by rw[e,hx];rfl,hs,rfl⟩,hk⟩
   ·exact hk.elim
   ·exact hk.elim
  rename_i g a c
  cases m
  ·obtain ⟨v, h1, hs, hk⟩ := hk
   exact⟨v,h1,_,⟨.call .heap g (a++evs T args++c),h,by rw[e,hx];rfl,.inl ⟨hs,rfl⟩⟩,hk⟩
  ·obtain ⟨v, hs, hk⟩ := hk
   exact⟨v,h,_,⟨.call .pure g (a++evs T args++c),h,by rw[e,hx];rfl,hs,rfl,rfl⟩,hk⟩
  ·obtain ⟨asg, h1, v, hm, hs, hf, hk⟩ := hk
   refine⟨v,h1,_,⟨.call .borrow g asg,h1,?_,hs,hf,rfl,rfl⟩,hk⟩
   rw[e,hx]
   have:∀(m:HM (List AV)) (h:Heap) (k:List AV->AOut),m.run h=some (asg,h1)->(m.bind fun asg=> .ret (k asg)).run h=some (k asg,h1):=by
    intro m
    induction m with
    |ret a=>intro h k hm;simp only[HM.run,Option.some.injEq,Prod.mk.injEq]at hm;obtain⟨rfl,rfl⟩:=hm;rfl
    |fail=>intro h k hm;simp[HM.run]at hm
    |look b k' ih=>intro h k hm;exact ih _ h k hm
    |put b x k' ih=>
     intro h k hm
     obtain⟨hl,hm⟩:=QaF hm
     have:=ih _ k hm
     simp only[HM.bind,HM.run]
     have hl':Nat.blt b lim=true:=by simp[Nat.blt];omega
     rw[hl'];exact this
   exact this _ h (fun asg=> .call .borrow g asg) hm
theorem Qc2 {v:AV}:wO P N (some v) d r dead fs n T h Q=wR P N r dead fs (n+1) (putD T d v) h Q:=by simp[wO]
theorem Qkn:wO P N none d r dead fs n T h Q=False:=by simp[wO]
theorem QiM {c:Prop} [Decidable c] {a b:Option AV} (hc:c):wO P N (if c then a else b) d r dead fs n T h Q=wO P N a d r dead fs n T h Q:=by rw[if_pos hc]
theorem Ql5 {c:Prop} [Decidable c] {a b:Option AV} (hc:¬c):wO P N (if c then a else b) d r dead fs n T h Q=wO P N b d r dead fs n T h Q:=by rw[if_neg hc]
theorem QoI {c:Prop} [Decidable c] {a:Option AV}:wO P N (if c then a else none) d r dead fs n T h Q=(c/\wO P N a d r dead fs n T h Q):=by by_cases hc:c<;>simp[hc,Qkn]
theorem cp {f:Nat} {args:List AV} {v:AV} (hp:PSpec P f args v) (k:wR P N r dead fs (n+1) (putD T d v) h Q):wCall P N .pure (.fn f [] []) args d r dead fs n T h Q:=⟨v,by simpa using hp,k⟩
theorem ch {f:Nat} {args:List AV} {v:AV} {h1:Heap} (hp:HSpec P f args h v h1) (k:wR P N r dead fs (n+1) (putD T d v) h1 Q):wCall P N .heap (.fn f [] []) args d r dead fs n T h Q:=⟨v,h1,by simpa using hp,k⟩
def ldB (o:Option Blk) (g off:Nat) (m:Option Nat):Option AV:=
 match o with
 |some (.cells g' cs)=>if g'=g then(match m with|none=>cs[off]?|some m=>if off+m<=cs.length then some (.agg ((cs.drop off).take m))else none)else none
 |_=>none
def stB (o:Option Blk) (g off m:Nat) (v:AV):Option Blk:=
 match o with
 |some (.cells g' cs)=>if g'=g/\v.cells.length=m/\off+m<=cs.length/\v.cells.all AV.one=true then some (.cells g (putR cs off v.cells))else none
 |_=>none
def wB (P:Program) (N:NM) (o:Option Blk) (b:Nat) (v:AV) (d:Option Nat) (ops:List SOper) (dead:List Nat) (fs:List Fr) (n:Nat) (T:Tmps) (h:Heap) (Q:QC):Prop:=
 ∃x,o=some x/\b<lim/\wR P N ops dead fs (n+1) (putD T d v) (h.set b x) Q
def wN (P:Program) (N:NM) (x:List AV) (v:AV) (d:Option Nat) (ops:List SOper) (dead:List Nat) (fs:List Fr) (n:Nat) (T:Tmps) (h:Heap) (Q:QC):Prop:=
 h.get n=none/\n<lim/\wR P N ops dead fs (n+1) (putD T d v) (h.set n (.cells 0 x)) Q
theorem QbO {v:AV}:wM P N (.ret v) d r dead fs n T h Q=wR P N r dead fs (n+1) (putD T d v) h Q:=by
 apply propext;constructor
 ·rintro⟨v',h1,hm,k⟩;simp only[HM.run,Option.some.injEq,Prod.mk.injEq]at hm;obtain⟨rfl,rfl⟩:=hm;exact k
 ·intro k;exact⟨v,h,rfl,k⟩
theorem Qc3:wM P N .fail d r dead fs n T h Q=False:=by simp[wM,HM.run]
theorem QiN {o:Option AV}:wM P N (.opt o) d r dead fs n T h Q=wO P N o d r dead fs n T h Q:=by
 cases o with
 |none=>simp[HM.opt,Qc3,Qkn]
 |some v=>simp[HM.opt,QbO,Qc2]
theorem Qcl {c:Prop} [Decidable c] {m:HM AV}:wM P N (if c then m else .fail) d r dead fs n T h Q=(c/\wM P N m d r dead fs n T h Q):=by
 by_cases hc:c<;>simp[hc,Qc3]
theorem QeG {b:Nat} {x:Blk} {v:AV}:wM P N (.put b x (.ret v)) d r dead fs n T h Q=wB P N (some x) b v d r dead fs n T h Q:=by
 apply propext;constructor
 ·rintro ⟨v', h1, hm, k⟩
  obtain⟨hl,hm⟩:=QaF hm
  simp only[HM.run,Option.some.injEq,Prod.mk.injEq]at hm
  obtain⟨rfl,rfl⟩:=hm
  exact⟨x,rfl,hl,k⟩
 ·rintro ⟨x', hx, hl, k⟩
  cases hx
  refine⟨v,_,?_,k⟩
  simp only[HM.run]
  have hl':Nat.blt b lim=true:=by simp[Nat.blt];omega
  rw[hl'];rfl
theorem QgM {x:Blk} {b:Nat} {v:AV} (hl:b<lim):wB P N (some x) b v d r dead fs n T h Q=wR P N r dead fs (n+1) (putD T d v) (h.set b x) Q:=by simp[wB,hl]
theorem Qcz {b g:Nat} {k:List AV->HM AV}:wM P N (.cells b g k) d r dead fs n T h Q=∃cs,h.get b=some (.cells g cs)/\wM P N (k cs) d r dead fs n T h Q:=by
 apply propext;constructor
 ·rintro ⟨v', h1, hm, hk⟩
  obtain⟨cs,hb,hm⟩:=QaZ hm
  exact⟨cs,hb,v',h1,hm,hk⟩
 ·rintro ⟨cs, hb, v', h1, hm, hk⟩
  refine⟨v',h1,?_,hk⟩
  unfold HM.cells
  simp only[HM.run,hb]
  have:Nat.beq g g=true:=by simp
  rw[this];exact hm
theorem Qhu {g g' off:Nat} {cs:List AV}:ldB (some (.cells g' cs)) g off none=if g'=g then cs[off]? else none:=rfl
theorem Qhv {g g' off m:Nat} {cs:List AV}:ldB (some (.cells g' cs)) g off (some m)=if g'=g then(if off+m<=cs.length then some (.agg ((cs.drop off).take m))else none)else none:=rfl
theorem Qhw {m:Option Nat} {b g off:Nat}:wM P N (aLoad m (.ptr b g off)) d r dead fs n T h Q=wO P N (ldB (h.get b) g off m) d r dead fs n T h Q:=by
 simp only[aLoad,Qcz]
 apply propext;constructor
 ·rintro ⟨cs, hb, hk⟩
  rw[hb]
  cases m with
  |none=>simpa[ldB,QiN]using hk
  |some m=>
   simp only[Qcl,QbO]at hk
   simp only[ldB,if_true]
   rw[QiM hk.1,Qc2];exact hk.2
 ·rintro ⟨v, hv, hk⟩
  unfold ldB at hv
  split at hv
  ·rename_i g' cs hb
   split at hv
   ·rename_i e
    subst e
    refine⟨cs,hb,?_⟩
    cases m with
    |none=>simp only at hv;simp only[QiN,hv,Qc2];exact hk
    | some m =>
     simp only at hv
     split at hv
     ·rename_i hl
      cases hv
      simp only[Qcl,QbO]
      exact⟨hl,hk⟩
     ·cases hv
   ·cases hv
  ·cases hv
theorem Qfd {cs:List AV}:wM P N (aLoad none (.fptr cs)) d r dead fs n T h Q=wO P N cs.head? d r dead fs n T h Q:=by simp only[aLoad,QiN]
theorem Qfe {m:Nat} {cs:List AV}:wM P N (aLoad (some m) (.fptr cs)) d r dead fs n T h Q=wO P N (if m<=cs.length then some (.agg (cs.take m))else none) d r dead fs n T h Q:=by
 simp only[aLoad,Qcl,QbO,QoI,Qc2]
theorem QfI {g g' off m:Nat} {cs:List AV} {v:AV}:stB (some (.cells g' cs)) g off m v=if g'=g/\v.cells.length=m/\off+m<=cs.length/\v.cells.all AV.one=true then some (.cells g (putR cs off v.cells))else none:=rfl
theorem Qgc {m b g off:Nat} {v:AV}:wM P N (aStore m (.ptr b g off) v) d r dead fs n T h Q=wB P N (stB (h.get b) g off m v) b .any d r dead fs n T h Q:=by
 simp only[aStore,Qcz]
 apply propext;constructor
 ·rintro ⟨cs, hb, hk⟩
  simp only[Qcl,QeG]at hk
  rw[hb,QfI,if_pos ⟨rfl,hk.1⟩]
  exact hk.2
 ·rintro ⟨x, hx, hl, hk⟩
  unfold stB at hx
  split at hx
  ·rename_i g' cs hb
   split at hx
   ·rename_i e
    obtain⟨rfl,e⟩:=e
    cases hx
    refine⟨cs,hb,?_⟩
    simp only[Qcl,QeG]
    exact⟨e,_,rfl,hl,hk⟩
   ·cases hx
  ·cases hx
theorem Qnf {x:AV} (hx:x.boxable=true):wM P N (aBox .dyn n x) d r dead fs n T h Q=wN P N x.cells (.ptr n 0 0) d r dead fs n T h Q:=by
 simp only[aBox,if_pos hx]
 apply propext;constructor
 ·rintro ⟨v', h1, hm, hk⟩
  unfold HM.new at hm
  simp only[HM.run]at hm
  cases hn:h.get n with
  |none=>
   rw[hn]at hm
   obtain⟨hl,hm⟩:=QaF hm
   simp only[HM.run,Option.some.injEq,Prod.mk.injEq]at hm
   obtain⟨rfl,rfl⟩:=hm
   exact⟨hn,hl,hk⟩
  |some z=>rw[hn]at hm;cases hm
 ·rintro ⟨hn, hl, hk⟩
  refine⟨_,_,?_,hk⟩
  unfold HM.new
  simp only[HM.run,hn]
  have hl':Nat.blt n lim=true:=by simp[Nat.blt];omega
  rw[hl'];rfl
theorem QoJ {x:List AV} {v:AV} (hn:h.get n=none) (hl:n<lim):wN P N x v d r dead fs n T h Q=wR P N r dead fs (n+1) (putD T d v) (h.set n (.cells 0 x)) Q:=by simp[wN,hn,hl]
theorem Qhx {s:List UInt8}:wM P N (aLenC 0 (.str s)) d r dead fs n T h Q=wR P N r dead fs (n+1) (putD T d (.int .i64 s.length)) h Q:=by simp[aLenC,lenKind,aLen,QbO]
theorem QiO {b g off len sz:Nat}:wM P N (aLenC 1 (.sl b g off len sz)) d r dead fs n T h Q=wR P N r dead fs (n+1) (putD T d (.int .i64 len)) h Q:=by simp[aLenC,lenKind,aLen,QbO]
theorem Qhy {cs:List AV} {len sz:Nat}:wM P N (aLenC 1 (.fsl cs len sz)) d r dead fs n T h Q=wR P N r dead fs (n+1) (putD T d (.int .i64 len)) h Q:=by simp[aLenC,lenKind,aLen,QbO]
theorem Qff:wM P N (aLenC 1 .nilsl) d r dead fs n T h Q=wR P N r dead fs (n+1) (putD T d (.int .i64 0)) h Q:=by simp[aLenC,lenKind,aLen,QbO]
theorem Qhz:wM P N (aLenC 1 .esl) d r dead fs n T h Q=wR P N r dead fs (n+1) (putD T d (.int .i64 0)) h Q:=by simp[aLenC,lenKind,aLen,QbO]
end
section
variable {k:IntKind} {a b:Int}
theorem QfJ:aBin .add (.int k a) (.int k b)=some (.int k (wr k (a+b))):=by simp[aBin]
theorem QfK:aBin .sub (.int k a) (.int k b)=some (.int k (wr k (a-b))):=by simp[aBin]
theorem QfL:aBin .mul (.int k a) (.int k b)=some (.int k (wr k (a*b))):=by simp[aBin]
theorem QiP:aBin .quo (.int k a) (.int k b)=if b=0 then none else some (.int k (wr k (a.tdiv b))):=by simp[aBin]
theorem QiQ:aBin .rem (.int k a) (.int k b)=if b=0 then none else some (.int k (a.tmod b)):=by simp[aBin]
theorem Qdi:aBin .eql (.int k a) (.int k b)=some (.bool (decide (a=b))):=by simp[aBin]
theorem Qdj:aBin .neq (.int k a) (.int k b)=some (.bool (!decide (a=b))):=by simp[aBin]
theorem Qdk:aBin .lss (.int k a) (.int k b)=some (.bool (decide (a<b))):=by simp[aBin]
theorem Qdl:aBin .leq (.int k a) (.int k b)=some (.bool (decide (a<=b))):=by simp[aBin]
theorem Qdm:aBin .gtr (.int k a) (.int k b)=some (.bool (decide (b<a))):=by simp[aBin]
theorem Qdn:aBin .geq (.int k a) (.int k b)=some (.bool (decide (b<=a))):=by simp[aBin]
theorem Qko {b:Bool}:aUn .not (.bool b)=some (.bool (!b)):=rfl
theorem Qkp:aUn .neg (.int k a)=some (.int k (wr k (0-a))):=rfl
theorem QeH {k':IntKind}:aConv k (.int k' a)=some (.int k (wr k a)):=rfl
theorem Qgd {t:Bool} {x y:AV}:aPick (.bool t) x y=some (if t then x else y):=rfl
theorem Qge {x y:AV}:aPick (.bool true) x y=some x:=rfl
theorem Qfg {x y:AV}:aPick (.bool false) x y=some y:=rfl
theorem QeI {j:Nat} {vs:List AV}:aExtract j (.tup vs)=vs[j]?:=rfl
theorem QiR {v:AV} {vs:List AV}:(v::vs)[0]?=some v:=rfl
theorem QiS {v:AV} {vs:List AV} {j:Nat}:(v::vs)[j+1]?=vs[j]?:=rfl
theorem Ql6 {n:Int} (h1: -9223372036854775808<=n) (h2:n<=9223372036854775807):wr .i64 n=n:=wr_of h1 h2
theorem Ql7 {n:Int} (h1:0<=n) (h2:n<=18446744073709551615):wr .u64 n=n:=wr_of h1 h2
theorem wr_u8 {n:Int} (h1:0<=n) (h2:n<=255):wr .u8 n=n:=wr_of h1 h2
theorem Ql8 {n:Int} (h1:0<=n) (h2:n<=65535):wr .u16 n=n:=wr_of h1 h2
theorem Ql9 {n:Int} (h1:0<=n) (h2:n<=4294967295):wr .u32 n=n:=wr_of h1 h2
theorem Qma {n:Int} (h1: -2147483648<=n) (h2:n<=2147483647):wr .i32 n=n:=wr_of h1 h2
theorem Qgf {sz len s:Nat} {cs:List AV}:aIAddr none sz (.fsl cs len s) (.int k a)=if 0<=a/\a<len/\s=sz then some (.fptr (cs.drop (a.toNat*sz)))else none:=rfl
theorem QhA {sz len s b g off:Nat}:aIAddr none sz (.sl b g off len s) (.int k a)=if 0<=a/\a<len/\s=sz then some (.ptr b g (off+a.toNat*sz))else none:=rfl
theorem Qgg {m sz b g off:Nat}:aIAddr (some m) sz (.ptr b g off) (.int k a)=if 0<=a/\a<m then some (.ptr b g (off+a.toNat*sz))else none:=rfl
theorem Qfh {m sz:Nat} {cs:List AV}:aIAddr (some m) sz (.fptr cs) (.int k a)=if 0<=a/\a<m then some (.fptr (cs.drop (a.toNat*sz)))else none:=rfl
theorem Qgh {o off b g:Nat}:aFAddr off (.ptr b g o)=some (.ptr b g (o+off)):=rfl
theorem Qfi {off:Nat} {cs:List AV}:aFAddr off (.fptr cs)=some (.fptr (cs.drop off)):=rfl
theorem Qgi {m sz:Nat} {cs:List AV}:aIndex (some (m,sz,false)) (.agg cs) (.int k a)=if 0<=a/\a<m then cs[a.toNat*sz]? else none:=by simp[aIndex]
theorem Qfj {off:Nat} {cs:List AV}:aField none off (.agg cs)=cs[off]?:=rfl
theorem Qfk {m off:Nat} {cs:List AV}:aField (some m) off (.agg cs)=if off+m<=cs.length then some (.agg ((cs.drop off).take m))else none:=rfl
end
def Sub (L T:Tmps):Prop:=∀i,lk L i= .any\/lk L i=lk T i
theorem Sub.of_eq {L T:Tmps} (h:∀i,lk L i=lk T i):Sub L T:=fun i=> .inr (h i)
def loopQ (P:Program) (N:NM) {α:Type} (env:α->Tmps) (H:α->Heap->Nat->Prop) (μ:α->Nat) (a:α) (fs:List Fr) (Q:QC):QC:=fun e T h n=>
 match e with
 | .normal=>∃a',μ a'<μ a/\Sub (env a') T/\H a' h n
 |e=>wX P N e fs n T h Q
section
variable {N:NM} {n:Nat} {T:Tmps} {h:Heap} {Q:QC} {fs:List Fr} {α:Type} {env:α->Tmps} {H:α->Heap->Nat->Prop} {μ:α->Nat} {a:α}
theorem QeJ:loopQ P N env H μ a fs Q .normal T h n=∃a',μ a'<μ a/\Sub (env a') T/\H a' h n:=rfl
theorem Qgj {i:Nat}:loopQ P N env H μ a fs Q (.exit i) T h n=wX P N (.exit i) fs n T h Q:=rfl
theorem QhB:loopQ P N env H μ a fs Q .ret T h n=wX P N .ret fs n T h Q:=rfl
end
def wLp (P:Program) (N:NM) (b:SCode) (fs:List Fr) (n:Nat) (T:Tmps) (h:Heap) (Q:QC):Prop:=WL2 P N b (fun e B=>∃n,ct P N fs Q e B.T B.h n) ⟨T,h⟩
def unQ (P:Program) (N:NM) (b:SCode) (fs:List Fr) (Q:QC):QC:=fun e T h n=>
 match e with
 | .normal=>wLp P N b fs n T h Q
 |e=>wX P N e fs n T h Q
section
variable {N:NM} {n:Nat} {T:Tmps} {h:Heap} {Q:QC} {fs:List Fr} {b:SCode}
theorem Qgk:unQ P N b fs Q .normal T h n=wLp P N b fs n T h Q:=rfl
theorem QiT {i:Nat}:unQ P N b fs Q (.exit i) T h n=wX P N (.exit i) fs n T h Q:=rfl
theorem Qkq:unQ P N b fs Q .ret T h n=wX P N .ret fs n T h Q:=rfl
end
theorem PSpec.of_rn {f:Nat} {sf:SFn} {args:List AV} {v:AV} (n:Nat) (hok:okFn P f sf=true) (hl:Nat.ble args.length sf.n=true) (ha:noRefs args=true) (hv:noRef v=true)
  (hw:wS P ⟨sf.n,0⟩ sf.body [] n (argT 0 args) .e fun e T h _=>(e= .normal\/e= .ret)/\∃vs,resV T h sf.res=some vs/\Rn 0 π0 h v (resOf vs)):PSpec P f args v:=
 PSpec.of_W2 hok (Nat.le_of_ble_eq_true hl) ha hv ((wpC.toW hw).mono fun e B ⟨_,h⟩=>h)
theorem Qib {ok:Okc} {F:Nat->Prop} {m:Nat} {c':Ctx ok} {w w':World} (E:Evo2 m (only F) w c' w'):Go.RowKit.Below w.heap.size w w':=
 ⟨E.os,E.tape,E.output,E.size,fun k hk=>E.keep k hk (fun h=>h)⟩
open Go.RowKit in
theorem law_of_W2 {f:Nat} {sf:SFn} {args:List AV} (hok:okFn P f sf=true) (hl:Nat.ble args.length sf.n=true)
  (hw:W2 P ⟨sf.n,0⟩ sf.body (fun e B=>(e= .normal\/e= .ret)/\resV B.T B.h sf.res=some [.bool true]) ⟨argT 0 args,.e⟩)
  {F:Nat->Prop} {w:World} {cargs:Array Value} (hF:∀k,F k->k<w.heap.size) (ha:VRels (only (ok:=okc P) F) w args cargs.toList):
  Calls P f cargs w fun e w'=>e= .returned (.bool true)/\Below w.heap.size w w':=by
 refine(Qd8 (R:=fun vs _=>vs=[.bool true]) hok (Nat.le_of_ble_eq_true hl) (hw.mono ?_) (HRel.only hF) ha).mono ?_
 ·rintro e B ⟨h1, h2⟩
  exact⟨h1,_,h2,rfl⟩
 ·rintro e w' ⟨cv, c', vs, h', rfl, E, H, V, rfl⟩
  simp only[resOf,VRel]at V
  subst V
  exact⟨rfl,Qib E⟩
theorem PSpec.Qau {f:Nat} {sf:SFn} {args:List AV} {v:AV} (n:Nat) (hok:okFn P f sf=true) (hl:Nat.ble args.length sf.n=true) (ha:noRefs args=true) (hv:noRef v=true)
  (hw:wS P ⟨sf.n,0⟩ sf.body [] n (argT 0 args) .e fun e T h _=>(e= .normal\/e= .ret)/\∃vs,resV T h sf.res=some vs/\resOf vs=v):PSpec P f args v:=
 PSpec.of_W2 hok (Nat.le_of_ble_eq_true hl) ha hv ((wpC.toW hw).mono fun e B ⟨_,he,vs,h1,h2⟩=>⟨he,vs,h1,by rw[h2];exact Rn.same hv⟩)
theorem PSpec.toH {f:Nat} {args:List AV} {v:AV} (S:PSpec P f args v) (h:Heap):HSpec P f args h v h:=by
 obtain⟨h',hc,_⟩:=S.2.2
 exact⟨hc,fun c w cargs H ha=>(S.pure H ha).2⟩
end Go.AM
namespace Go.AM
variable {P:Program}
section
variable {N:NM} {n:Nat} {d:Option Nat} {af dead:List Nat} {r:List SOper} {T:Tmps} {h:Heap} {Q:QC} {fs:List Fr}
def wL (P:Program) (N:NM) (o:Option (List AV)) (len:Nat) (v:AV) (d:Option Nat) (ops:List SOper) (dead:List Nat) (fs:List Fr) (n:Nat) (T:Tmps) (h:Heap) (Q:QC):Prop:=
 ∃cs,o=some cs/\cs.length=len/\wN P N cs v d ops dead fs n T h Q
theorem QgN {cs:List AV} {len:Nat} {v:AV}:wL P N (some cs) len v d r dead fs n T h Q=if cs.length=len then wN P N cs v d r dead fs n T h Q else False:=by
 by_cases hl:cs.length=len<;>simp[wL,hl]
theorem wN_go {x:List AV} {v:AV} (hl:n<1099511627775):wN P N x v d r dead fs n T h Q=if h.get n=none then wR P N r dead fs (n+1) (putD T d v) (h.set n (.cells 0 x)) Q else False:=by
 split
 ·rename_i hn;exact QoJ hn hl
 ·rename_i hn;simp[wN,hn]
theorem wB_go {x:Blk} {b:Nat} {v:AV} (hl:b<1099511627775):wB P N (some x) b v d r dead fs n T h Q=wR P N r dead fs (n+1) (putD T d v) (h.set b x) Q:=QgM hl
theorem QaT {k:Nat} {x:Blk} (hk:k<1099511627775):(h.set k x).get k=some x:=by rw[Tr.QaB h hk];simp
theorem Qa2 {j k:Nat} {x:Blk} (hk:k<1099511627775) (hj:j≠k):(h.set k x).get j=h.get j:=by rw[Tr.QaB h hk];simp[hj]
theorem Qgl {x:Nat->Blk} {y:List AV} (hx:x 0= .cells 0 y) {w:Nat->Nat->AV}:wM P N (HM.new .dyn n x fun b g=> .ret (w b g)) d r dead fs n T h Q=wN P N y (w n 0) d r dead fs n T h Q:=by
 apply propext;constructor
 ·rintro ⟨v', h1, hm, hk⟩
  unfold HM.new at hm
  simp only[HM.run]at hm
  cases hn:h.get n with
  |none=>
   rw[hn]at hm
   obtain⟨hl,hm⟩:=QaF hm
   simp only[HM.run,Option.some.injEq,Prod.mk.injEq]at hm
   obtain⟨rfl,rfl⟩:=hm
   rw[hx]at hk
   exact⟨hn,hl,hk⟩
  |some z=>rw[hn]at hm;cases hm
 ·rintro ⟨hn, hl, hk⟩
  refine⟨_,_,?_,by rw[<-hx]at hk;exact hk⟩
  unfold HM.new
  simp only[HM.run,hn]
  have hl':Nat.blt n lim=true:=by simp[Nat.blt];omega
  rw[hl'];rfl
theorem QiU {x:AV}:wM P N (aBox .dyn n x) d r dead fs n T h Q=if x.boxable=true then wN P N x.cells (.ptr n 0 0) d r dead fs n T h Q else False:=by
 split
 ·rename_i hb;exact Qnf hb
 ·rename_i hb;simp only[aBox,if_neg hb,Qc3]
theorem Qdy {sz len:Nat} {z:List AV} {ps:List (Nat×Nat×AV)}:wM P N (aBuildSlice false .dyn n sz len z ps) d r dead fs n T h Q=wL P N (fillA z ps) (len*sz) (.sl n 0 0 len sz) d r dead fs n T h Q:=by
 unfold aBuildSlice
 cases fillA z ps with
 |none=>simp[Qc3,wL]
 |some cs=>
  simp only[QgN,Bool.false_eq_true,if_false]
  split
  ·exact Qgl rfl
  ·exact Qc3
theorem QdP {sz bytes:Nat} {z:List AV} {k1 k2:IntKind} {l c:Int}:wM P N (aMakeSlice .dyn n sz bytes z (.int k1 l) (.int k2 c)) d r dead fs n T h Q=
  if 0<=l/\l<=c/\bytes*c<=1099511627776/\c<=1099511627776 then wN P N (List.replicate c.toNat z).flatten (.sl n 0 0 l.toNat sz) d r dead fs n T h Q else False:=by
 by_cases hc:0<=l/\l<=c/\bytes*c<=1099511627776/\c<=1099511627776
 ·simp only[aMakeSlice,if_pos hc];exact Qgl (x:=fun g=> .cells g (List.replicate c.toNat z).flatten) rfl
 ·simp only[aMakeSlice,if_neg hc];exact Qc3
theorem QhC {cs:List AV}:fillA cs []=some cs:=rfl
theorem Qgm {cs:List AV} {off size:Nat} {v:AV} {r:List (Nat×Nat×AV)}:fillA cs ((off,size,v)::r)=if v.cells.length=size/\off+size<=cs.length/\v.boxable=true then fillA (putR cs off v.cells) r else none:=rfl
theorem QhD {z:List AV} {ps:List (Nat×Nat×AV)}:aBuild z ps=(fillA z ps).map AV.agg:=by unfold aBuild;cases fillA z ps<;>rfl
theorem QhE {k:IntKind} {a:Int}:(AV.int k a).cells=[.int k a]:=rfl
theorem QhF {cs:List AV}:(AV.agg cs).cells=cs:=rfl
theorem QiV {b g off len sz:Nat}:(AV.sl b g off len sz).cells=[.sl b g off len sz]:=rfl
theorem QhG {cs:List AV} {len sz:Nat}:(AV.fsl cs len sz).cells=[.fsl cs len sz]:=rfl
theorem Qfl:AV.nilsl.cells=[.nilsl]:=rfl
theorem Qkr {k:IntKind} {a:Int}:(AV.int k a).boxable=true:=rfl
theorem Qks {cs:List AV}:(AV.agg cs).boxable=true:=rfl
theorem Qmb {b g off len sz:Nat}:(AV.sl b g off len sz).boxable=true:=rfl
theorem Qkt {cs:List AV} {len sz:Nat}:(AV.fsl cs len sz).boxable=true:=rfl
theorem QhH:AV.nilsl.boxable=true:=rfl
theorem Qku {k:IntKind} {a:Int}:(AV.int k a).one=true:=rfl
theorem Qmc {b g off len sz:Nat}:(AV.sl b g off len sz).one=true:=rfl
theorem Qkv {cs:List AV} {len sz:Nat}:(AV.fsl cs len sz).one=true:=rfl
theorem QhI:AV.nilsl.one=true:=rfl
theorem QiW {cs:List AV} {off:Nat} {v:AV}:putR cs off [v]=cs.set off v:=rfl
theorem QhJ {cs:List AV} {off:Nat} {v w:AV} {vs:List AV}:putR cs off (v::w::vs)=cs.take off++(v::w::vs)++cs.drop (off+(v::w::vs).length):=rfl
def srcB (o:Option Blk) (g off len sz:Nat):Option (List AV):=
 match o with
 |some (.cells g' cs)=>if g'=g/\off+len*sz<=cs.length then some ((cs.drop off).take (len*sz))else none
 |_=>none
theorem Qb9 {g g' off len sz:Nat} {cs:List AV}:srcB (some (.cells g' cs)) g off len sz=if g'=g/\off+len*sz<=cs.length then some ((cs.drop off).take (len*sz))else none:=rfl
theorem QjT {sz bytes b g off len:Nat}:wM P N (aAppend .dyn n sz bytes .nilsl (.sl b g off (len+1) sz)) d r dead fs n T h Q=
  ∃ys,srcB (h.get b) g off (len+1) sz=some ys/\((len+1)*bytes<=1099511627776/\len+1<=1099511627776)/\ys.all AV.one=true/\wN P N ys (.sl n 0 0 (len+1) sz) d r dead fs n T h Q:=by
 simp only[aAppend,aSrc,if_true,slLen,Nat.zero_add,Qcz,Qcl]
 apply propext;constructor
 ·rintro ⟨cs, hb, h1, h2, h3⟩
  rw[hb,Qb9,if_pos ⟨rfl,h1⟩]
  exact⟨_,rfl,⟨h2.1,h2.2.1⟩,h2.2.2,by rw[Qgl rfl]at h3;exact h3⟩
 ·rintro ⟨ys, hy, h2, h3, h4⟩
  unfold srcB at hy
  split at hy
  ·rename_i g' cs hb
   split at hy
   ·rename_i e
    obtain⟨rfl,e⟩:=e
    cases hy
    exact⟨cs,hb,e,⟨h2.1,h2.2,h3⟩,by rw[Qgl rfl];exact h4⟩
   ·cases hy
  ·cases hy
theorem Qlf {sz bytes b g off len b2 g2 off2 len2:Nat}:wM P N (aAppend .dyn n sz bytes (.sl b2 g2 off2 len2 sz) (.sl b g off len sz)) d r dead fs n T h Q=
  ∃ys zs,srcB (h.get b) g off len sz=some ys/\srcB (h.get b2) g2 off2 len2 sz=some zs/\((len2+len)*bytes<=1099511627776/\len2+len<=1099511627776)/\ys.all AV.one=true/\
   wB P N (some (.cells (g2+1) (zs++ys))) b2 (.sl b2 (g2+1) 0 (len2+len) sz) d r dead fs n T h Q:=by
 simp only[aAppend,aSrc,if_true,slLen,Qcz,Qcl,QeG]
 apply propext;constructor
 ·rintro ⟨cs, hb, h1, h2, cs2, hb2, h3, h4⟩
  rw[hb,hb2,Qb9,Qb9,if_pos ⟨rfl,h1⟩,if_pos ⟨rfl,h3⟩]
  exact⟨_,_,rfl,rfl,⟨h2.1,h2.2.1⟩,h2.2.2,h4⟩
 ·rintro ⟨ys, zs, hy, hz, h2, h3, h4⟩
  unfold srcB at hy hz
  split at hy
  ·rename_i g' cs hb
   split at hy
   ·rename_i e
    obtain⟨rfl,e⟩:=e
    cases hy
    split at hz
    ·rename_i g3 cs2 hb2
     split at hz
     ·rename_i e2
      obtain⟨rfl,e2⟩:=e2
      cases hz
      exact⟨cs,hb,e,⟨h2.1,h2.2,h3⟩,cs2,hb2,e2,h4⟩
     ·cases hz
    ·cases hz
   ·cases hy
  ·cases hy
end
def Fresh (n:Nat) (h:Heap):Prop:=∀b,n<=b->h.get b=none
theorem Fresh.e {n:Nat}:Fresh n .e:=fun b _=>by simp[Tr.get]
theorem Fresh.le {n m:Nat} {h:Heap} (hf:Fresh n h) (hl:n<=m):Fresh m h:=fun b hb=>hf b (Nat.le_trans hl hb)
theorem Fresh.set {n k:Nat} {h:Heap} {x:Blk} (hf:Fresh n h) (hk:k<1099511627775) (hl:k<n):Fresh n (h.set k x):=fun b hb=>by
 rw[Qa2 hk (by omega)];exact hf b hb
end Go.AM
namespace Go.AM
variable {P:Program}
def FrzTo (h:Heap) (x y:AV):Prop:=∀(ok:Okc) (c:Ctx ok) (w:World) (v:Value),HRel c h w->VRel c w x v->VRel (lent c) w y v
def FrzL (h:Heap):List AV->List AV->Prop
 |[],[]=>True
 |x::xs,y::ys=>FrzTo h x y/\FrzL h xs ys
 |_,_=>False
variable {h:Heap}
theorem FrzTo.same (x:AV):FrzTo h x x:=fun _ c w v _ hv=>VRel.mono (QfE c w) _ _ hv
theorem FrzL.same:∀(xs:List AV),FrzL h xs xs
 |[]=>trivial
 |x::xs=>⟨.same x,FrzL.same xs⟩
theorem FrzL.length:∀{xs ys:List AV},FrzL h xs ys->ys.length=xs.length
 |[],[],_=>rfl
 |[],_::_,hh=>hh.elim
 |_::_,[],hh=>hh.elim
 |x::xs,y::ys,hh=>by simp[FrzL.length hh.2]
theorem FrzL.pre {ok:Okc} {c:Ctx ok} {w:World} (H:HRel c h w):∀{xs ys:List AV} {vs:List Value},FrzL h xs ys->VPre c w xs vs->VPre (lent c) w ys vs
 |[],[],_,_,_=>by simp[VPre]
 |[],_::_,_,hh,_=>hh.elim
 |_::_,[],_,hh,_=>hh.elim
 |x::xs,y::ys,vs,hh,hv=>by
  simp only[VPre]at hv⊢
  obtain⟨v,vs',rfl,g1,g2⟩:=hv
  exact⟨v,vs',rfl,hh.1 _ c w v H g1,FrzL.pre H hh.2 g2⟩
theorem FrzL.rels {ok:Okc} {c:Ctx ok} {w:World} (H:HRel c h w):∀{xs ys:List AV} {vs:List Value},FrzL h xs ys->VRels c w xs vs->VRels (lent c) w ys vs
 |[],[],_,_,hv=>by simpa[VRels]using hv
 |[],_::_,_,hh,_=>hh.elim
 |_::_,[],_,hh,_=>hh.elim
 |x::xs,y::ys,vs,hh,hv=>by
  simp only[VRels]at hv⊢
  obtain⟨v,vs',rfl,g1,g2⟩:=hv
  exact⟨v,vs',rfl,hh.1 _ c w v H g1,FrzL.rels H hh.2 g2⟩
theorem FrzTo.sl {b g off len sz : Nat} {cs ys : List AV} (hb : h.get b = some (.cells g cs)) (hl : off + len * sz <= cs.length) (hL : FrzL h ((cs.drop off).take (len * sz)) ys) :
    FrzTo h (.sl b g off len sz) (.fsl ys len sz):=fun _ c w v H hv=>by
  have hlen:=hL.length
  simp only[VRel]at hv
  rcases hv with⟨hp,rfl,rfl,rfl⟩|⟨cb,base,o,cap,C,e,fr,hp,rfl,hlc,hC,hcap⟩
  · have hys : ys = [] := by
      apply List.eq_nil_of_length_eq_zero
      rw[hlen];simp
    subst hys
    simp only[VRel];exact .inl (by simp)
  · obtain ⟨C', e', fr', hO, hC', hfr, hbs, hpre⟩ := H.here hb hp
    rw[hC]at hC';cases hC'
    by_cases h0:cap=0
    · have hl0 : len = 0 := by omega
      subst hl0
      have hys:ys=[]:=by
        apply List.eq_nil_of_length_eq_zero
        rw[hlen];simp
      subst hys
      simp only[VRel]
      exact .inr ⟨cb,o,cap,C,e,fr,rfl,hlc,by simp,.inr hO,hC,by simp[VPre]⟩
    · obtain ⟨rfl, hbd⟩ := hcap.resolve_left h0
      have hp2:=Qbu (len*sz) (QaY off hpre)
      rw[List.drop_drop]at hp2
      simp only[VRel]
      exact .inr ⟨cb,base+off,cap,C,e,fr,rfl,hlc,by rw[hlen];simp;omega,.inr hO,hC,hL.pre H hp2⟩
section
variable {N:NM} {n:Nat} {d:Option Nat} {af dead:List Nat} {r:List SOper} {T:Tmps} {Q:QC} {fs:List Fr}
end
end Go.AM
namespace Go.AM
variable {P:Program}
section
variable {N:NM} {n:Nat} {d:Option Nat} {dead:List Nat} {r:List SOper} {T:Tmps} {Q:QC} {fs:List Fr}
end
end Go.AM
namespace Go.AM
variable {P:Program}
abbrev HL:=List (Nat×Blk)
def hp:HL->Heap
 |[]=> .e
 |p::r=>(hp r).set p.1 p.2
theorem Qmd:hp []= .e:=rfl
theorem Qca {b:Nat} {x:Blk} {r:HL}:hp ((b,x)::r)=(hp r).set b x:=rfl
theorem get_e {b:Nat}:Tr.get (α:=Blk) .e b=none:=by simp[Tr.get]
def lkS:List (Nat×Src)->Nat->Option Src
 |[],_=>none
 |(b,s)::r,k=>if k=b then some s else lkS r k
def srcNew (s:Src):List (Nat×Src)->Bool
 |[]=>true
 |(_,t)::r=>(match s,t with| .blk b _,.blk b' _=> !Nat.beq b b'|_,_=>true)&&srcNew s r
def okPs (m:Nat):List (Nat×Src)->HL->Bool
 |[],[]=>true
 |(b,s)::r,(b',_)::l=>Nat.beq b b'&&Nat.blt b 1099511627775&&(Nat.blt b m||((match s with| .blk k _=>Nat.ble m k| .nil=>true)&&srcNew s r))&&(r.all fun p=> !Nat.beq p.1 b)&&okPs m r l
 |_,_=>false
def ow (m:Nat) (ps:List (Nat×Src)):Nat->Option Src:=fun b=>if b<m then none else lkS ps b
def RB (m:Nat) (π:Nat->Option Src) (h:Heap):HL->Prop
 |[]=>True
 |(b',x)::r=>((b'<m/\BRn m π h (some (.blk b' x.gen)) x)\/(m<=b'/\x.gen=0/\(∀g,x≠ .dead g)/\BRn m π h (π b') x))/\RB m π h r
section
variable {m:Nat} {π:Nat->Option Src} {h:Heap}
theorem Qme:∀{L:HL} {ps:List (Nat×Src)},okPs m ps L=true->∀{b:Nat} {x:Blk},(hp L).get b=some x->(b,x)∈L
 |[],[],_,b,x,hx=>by simp[hp,Tr.get]at hx
 |[],_::_,hh,_,_,_=>by simp[okPs]at hh
 |(b',x')::L,[],hh,_,_,_=>by simp[okPs]at hh
 | (b', x') :: L, (k, s) :: ps, hh, b, x, hx => by
  simp only[okPs,Bool.and_eq_true,Nat.blt_eq,Nat.beq_eq]at hh
  obtain⟨⟨⟨⟨rfl,h3⟩,_⟩,_⟩,h4⟩:=hh
  simp only[hp]at hx
  by_cases e:b=k
  ·subst e
   rw[QaT h3]at hx;cases hx
   simp
  ·rw [Qa2 h3 e] at hx
   simp[Qme h4 hx]
theorem Qkw:∀{L:HL} {ps:List (Nat×Src)},okPs m ps L=true->∀{b:Nat},(hp L).get b=none->lkS ps b=none
 |[],[],_,b,_=>rfl
 |[],_::_,hh,_,_=>by simp[okPs]at hh
 |(b',x')::L,[],hh,_,_=>by simp[okPs]at hh
 | (b', x') :: L, (k, s) :: ps, hh, b, hx => by
  simp only[okPs,Bool.and_eq_true,Nat.blt_eq,Nat.beq_eq]at hh
  obtain⟨⟨⟨⟨rfl,h3⟩,_⟩,_⟩,h4⟩:=hh
  simp only[hp]at hx
  by_cases e:b=k
  ·subst e
   rw[QaT h3]at hx;cases hx
  ·rw [Qa2 h3 e] at hx
   simp only[lkS,if_neg e]
   exact Qkw h4 hx
theorem RB.mem:∀{L:HL},RB m π h L->∀{b:Nat} {x:Blk},(b,x)∈L->(b<m/\BRn m π h (some (.blk b x.gen)) x)\/(m<=b/\x.gen=0/\(∀g,x≠ .dead g)/\BRn m π h (π b) x)
 |[],_,_,_,hm=>by cases hm
 |(b',x')::L,hh,b,x,hm=>by
  rcases List.mem_cons.1 hm with e|hm
  ·cases e;exact hh.1
  ·exact RB.mem hh.2 hm
theorem QiX:∀{ps:List (Nat×Src)} {L:HL},okPs m ps L=true->∀{b b1 g:Nat},m<=b->lkS ps b=some (.blk b1 g)->m<=b1
 |[],_,_,_,_,_,_,hs=>by simp[lkS]at hs
 |_::_,[],hh,_,_,_,_,_=>by simp[okPs]at hh
 | (k, s) :: ps, (b', x') :: L, hh, b, b1, g, hb, hs => by
  simp only[okPs,Bool.and_eq_true,Bool.or_eq_true,Nat.blt_eq]at hh
  obtain⟨⟨⟨_,h3⟩,_⟩,h4⟩:=hh
  simp only[lkS]at hs
  split at hs
  ·rename_i e
   cases hs
   rcases h3 with h3|h3
   ·omega
   ·simpa using h3.1
  ·exact QiX h4 hb hs
theorem QeK:∀{ps:List (Nat×Src)} {b g b' g' k:Nat},srcNew (.blk b g) ps=true->lkS ps k=some (.blk b' g')->b≠b'
 |[],_,_,_,_,_,_,hs=>by simp[lkS]at hs
 | (j, s) :: ps, b, g, b', g', k, hh, hs => by
  simp only[srcNew,Bool.and_eq_true]at hh
  simp only[lkS]at hs
  split at hs
  ·cases hs
   have:=hh.1
   simp only[Bool.not_eq_true']at this
   intro e;subst e;simp at this
  ·exact QeK hh.2 hs
theorem QiY:∀{ps:List (Nat×Src)} {L:HL},okPs m ps L=true->∀{b1 b2 b g g2:Nat},m<=b1->m<=b2->lkS ps b1=some (.blk b g)->lkS ps b2=some (.blk b g2)->b1=b2
 |[],_,_,_,_,_,_,_,_,_,hs,_=>by simp[lkS]at hs
 |_::_,[],hh,_,_,_,_,_,_,_,_,_=>by simp[okPs]at hh
 | (k, s) :: ps, (b', x') :: L, hh, b1, b2, b, g, g2, m1, m2, h1, h2 => by
  simp only[okPs,Bool.and_eq_true,Bool.or_eq_true,Nat.blt_eq]at hh
  obtain⟨⟨⟨_,hn⟩,_⟩,h4⟩:=hh
  simp only[lkS]at h1 h2
  split at h1<;>split at h2
  ·rename_i e1 e2;rw[e1,e2]
  ·rename_i e1 e2
   cases h1
   rcases hn with hn|hn
   ·omega
   ·exact absurd rfl (QeK hn.2 h2)
  ·rename_i e1 e2
   cases h2
   rcases hn with hn|hn
   ·omega
   ·exact absurd rfl (QeK hn.2 h1)
  ·exact QiY h4 m1 m2 h1 h2
theorem Qkx:∀{ps:List (Nat×Src)} {L:HL},okPs m ps L=true->∀{b:Nat} {s:Src},lkS ps b=some s->∃x,(b,x)∈L
 |[],_,_,_,_,hs=>by simp[lkS]at hs
 |_::_,[],hh,_,_,_=>by simp[okPs]at hh
 | (k, t) :: ps, (b', x') :: L, hh, b, s, hs => by
  simp only[okPs,Bool.and_eq_true,Nat.beq_eq]at hh
  obtain⟨⟨⟨⟨rfl,_⟩,_⟩,_⟩,h4⟩:=hh
  simp only[lkS]at hs
  split at hs
  ·rename_i e;subst e;exact⟨x',by simp⟩
  ·obtain ⟨x, hx⟩ := Qkx h4 hs
   exact⟨x,by simp[hx]⟩
def RO (m:Nat) (L:HL) (h:Heap):Prop:=∀b,b<m->(∀p∈L,p.1≠b)->h.get b=none
theorem RO.zero {L:HL}:RO 0 L h:=fun b hb=>absurd hb (Nat.not_lt_zero _)
theorem RO.e {L:HL}:RO m L .e:=fun b _ _=>get_e
theorem RO.set {L:HL} {k:Nat} {x:Blk} (hk:(Nat.blt k 1099511627775&&(Nat.ble m k||L.any fun p=>Nat.beq p.1 k))=true) (hr:RO m L h):RO m L (h.set k x):=fun b hb hn=>by
 simp only[Bool.and_eq_true,Bool.or_eq_true,Nat.blt_eq,Nat.ble_eq,List.any_eq_true,Nat.beq_eq]at hk
 obtain⟨h1,h2⟩:=hk
 have:b≠k:=by
  rintro rfl
  rcases h2 with h2|⟨p,hp,h2⟩
  ·omega
  ·exact hn p hp h2
 rw[Qa2 h1 this];exact hr b hb hn
def Rec (m:Nat) (T':Tmps) (L:HL) (T:Tmps) (h:Heap):Prop:=∃ps,okPs m ps L=true/\RO m L h/\RB m (ow m ps) h L/\RT m (ow m ps) h T' T
theorem ow_ge {ps:List (Nat×Src)} {b:Nat} (hb:m<=b):ow m ps b=lkS ps b:=if_neg (by omega)
theorem Rec.maps {ps:List (Nat×Src)} {L:HL} (ho:okPs m ps L=true) (hb:RB m (ow m ps) h L):Maps m (ow m ps) h:=by
 refine⟨fun b' b g hm hs=>?_,fun b1 b2 b g g2 m1 m2 h1 h2=>QiY ho m1 m2 (by rw[<-ow_ge m1];exact h1) (by rw[<-ow_ge m2];exact h2)⟩
 rw[ow_ge hm]at hs
 refine⟨?_,QiX ho hm hs⟩
 obtain⟨x,hx⟩:=Qkx ho hs
 rcases hb.mem hx with⟨q0,_⟩|⟨_,q1,q2,q3⟩
 ·omega
 rw[ow_ge hm,hs]at q3
 cases x with
 |cells g' cs=>obtain⟨ds,_,k1,_⟩:=q3;exact⟨_,k1,rfl,fun k=>by simp⟩
 |map g' es=>obtain⟨ds,k1,_⟩:=q3;exact⟨_,k1,rfl,fun k=>by simp⟩
 |loop g' N T ps asg body st=>obtain⟨T0,k1,_⟩:=q3;exact⟨_,k1,rfl,fun k=>by simp⟩
 |dead g'=>exact absurd rfl (q2 g')
theorem Rec.heap {ps:List (Nat×Src)} {L:HL} (ho:okPs m ps L=true) (hb:RB m (ow m ps) h L):RH m (ow m ps) h (hp L):=fun b' x' hx=>hb.mem (Qme ho hx)
theorem Qmf:∀{L:HL} {ps:List (Nat×Src)},okPs m ps L=true->∀{b:Nat},(hp L).get b=none->∀p∈L,p.1≠b
 |[],_,_,_,_,p,hp=>by cases hp
 |(b',x')::L,[],hh,_,_,_,_=>by simp[okPs]at hh
 | (b', x') :: L, (k, s) :: ps, hh, b, hx, p, hpm => by
  simp only[okPs,Bool.and_eq_true,Nat.blt_eq,Nat.beq_eq]at hh
  obtain⟨⟨⟨⟨rfl,h3⟩,_⟩,_⟩,h4⟩:=hh
  simp only[hp]at hx
  by_cases e:b=k
  ·subst e;rw[QaT h3]at hx;cases hx
  ·rw [Qa2 h3 e] at hx
   rcases List.mem_cons.1 hpm with rfl|hpm
   ·exact fun e2=>e e2.symm
   ·exact Qmf h4 hx p hpm
theorem Rec.dom {ps:List (Nat×Src)} {L:HL} (ho:okPs m ps L=true) (hr:RO m L h):RD m (ow m ps) h (hp L):=fun b' hx=>
 ⟨fun hlt=>hr b' hlt (Qmf ho hx),fun hge=>by rw[ow_ge hge];exact Qkw ho hx⟩
theorem W2.recL {sc:SCode} {n:Nat} {Q:SX->St->Prop} {T T':Tmps} {L:HL} (hr:Rec m T' L T h) (hw:W2 P ⟨n,m⟩ sc Q ⟨T',hp L⟩):W2 P ⟨n,m⟩ sc Q ⟨T,h⟩:=by
 obtain⟨ps,ho,hro,hb,ht⟩:=hr
 exact W2.recast (N:=⟨n,m⟩) (Rec.maps ho hb) (Rec.heap ho hb) (Rec.dom ho hro) ht hw
theorem W2.post {sc:SCode} {k:Nat} {Q:SX->St->Prop} {A:St} (hw:W2 P ⟨k,m⟩ sc (fun e B=>Q e B\/∃T' L,Rec m T' L B.T B.h/\Q e ⟨T',hp L⟩) A):W2 P ⟨k,m⟩ sc Q A:=by
 intro code hok c a w S ro hro Q' hQ
 refine hw code hok c a w S ro hro Q' ?_
 rintro e B c' a' w' (hq|⟨T',L,⟨ps,ho,hro,hb,ht⟩,hq⟩) S' E'
 ·exact hQ e B c' a' w' hq S' E'
 ·have M := Rec.maps ho hb
  exact hQ e ⟨T',hp L⟩ (nctx m (ow m ps) B.h c') a' w' hq ⟨(Rec.heap ho hb).hrel (Rec.dom ho hro) M S'.heap,fun i=>ht i _ c' w' _ S'.heap M (S'.tmps i),S'.size,S'.defers.mono2 (Qdg (m:=m) (π:=ow m ps) (h:=B.h) c' w')⟩ (E'.trans (Qdg c' w'))
theorem RT.nil {T:Tmps}:RT m π h [] T:=fun _=>Rn.any
theorem RT.cons {T' T:Tmps} {j:Nat} {v:AV} (hv:Rn m π h v (lk T j)) (hr:RT m π h T' T):RT m π h ((j,v)::T') T:=by
 intro i
 rw[QaM]
 split
 ·rename_i e;subst e;exact hv
 ·exact hr i
theorem RB.nil:RB m π h []:=trivial
theorem RB.cells {b b' g:Nat} {cs ds:List AV} {r:HL} (hm:Nat.ble m b'=true) (hp:π b'=some (.blk b g)) (hg:h.get b=some (.cells g ds)) (hc:RnL m π h cs ds) (hr:RB m π h r):RB m π h ((b',.cells 0 cs)::r):=
 ⟨.inr ⟨Nat.le_of_ble_eq_true hm,rfl,fun _=>by simp,by rw[hp];exact⟨ds,ds.length,hg,by rw[List.take_length];exact hc⟩⟩,hr⟩
theorem RB.newnil {b':Nat} {r:HL} (hm:Nat.ble m b'=true) (hp:π b'=some .nil) (hr:RB m π h r):RB m π h ((b',.cells 0 [])::r):=⟨.inr ⟨Nat.le_of_ble_eq_true hm,rfl,fun _=>by simp,by rw[hp];rfl⟩,hr⟩
theorem RB.map {b b' g:Nat} {es fs:List (AV×AV)} {r:HL} (hm:Nat.ble m b'=true) (hp:π b'=some (.blk b g)) (hg:h.get b=some (.map g fs)) (hc:RnM m π h es fs) (hr:RB m π h r):RB m π h ((b',.map 0 es)::r):=
 ⟨.inr ⟨Nat.le_of_ble_eq_true hm,rfl,fun _=>by simp,by rw[hp];exact⟨fs,hg,hc⟩⟩,hr⟩
theorem RB.cellsB {b g:Nat} {cs ds:List AV} {r:HL} (hm:Nat.blt b m=true) (hg:h.get b=some (.cells g ds)) (hc:RnL m π h cs ds) (hr:RB m π h r):RB m π h ((b,.cells g cs)::r):=
 ⟨.inl ⟨by simpa using hm,ds,ds.length,hg,by rw[List.take_length];exact hc⟩,hr⟩
theorem RB.mapB {b g:Nat} {es fs:List (AV×AV)} {r:HL} (hm:Nat.blt b m=true) (hg:h.get b=some (.map g fs)) (hc:RnM m π h es fs) (hr:RB m π h r):RB m π h ((b,.map g es)::r):=
 ⟨.inl ⟨by simpa using hm,fs,hg,hc⟩,hr⟩
theorem QgO {s:Src}:∀{ps:List (Nat×Src)},srcNew s ps=true->∀b' g',lkS ps b'=some g'->(match s,g' with| .blk b _,.blk b2 _=>b≠b2|_,_=>True)
 |[],_,b',g',hs=>by simp[lkS]at hs
 | (j, t) :: ps, hh, b', g', hs => by
  simp only[srcNew,Bool.and_eq_true]at hh
  simp only[lkS]at hs
  split at hs
  ·cases hs
   have:=hh.1
   cases s<;>cases t<;>simp_all
   intro e;subst e;simp at this
  ·exact QgO hh.2 b' g' hs
theorem RnL.nil {m:Nat} {π:Nat->Option Src} {h:Heap}:RnL m π h [] []:=trivial
theorem RnL.cons {m:Nat} {π:Nat->Option Src} {h:Heap} {x y:AV} {xs ys:List AV} (h1:Rn m π h x y) (h2:RnL m π h xs ys):RnL m π h (x::xs) (y::ys):=⟨h1,h2⟩
theorem Rn.fz {ps:List (Nat×Src)} {b g len sz:Nat} {cs ds:List AV} (hb:h.get b=some (.cells g ds)) (hn:srcNew (.blk b g) ps=true) (hm:Nat.ble m b=true) (hl:ds.length=len*sz)
  (hL:RnL m (ow m ps) h cs ds):Rn m (ow m ps) h (.fsl cs len sz) (.sl b g 0 len sz):=by
 refine Rn.frz hb (by simpa using hm) (fun b' g' hb' e=>?_) (by omega) ?_
 ·rw[ow_ge hb']at e;exact QgO hn b' _ e rfl
 ·rw[List.drop_zero,<-hl,List.take_length];exact hL
theorem Rn.fzm {ps:List (Nat×Src)} {b g len sz k:Nat} {cs ds:List AV} (hb:h.get b=some (.cells g ds)) (hn:srcNew (.blk b g) ps=true) (hm:Nat.ble m b=true) (hk:k=len) (hl:ds.length=len*sz)
  (hL:RnL m (ow m ps) h cs ds):Rn m (ow m ps) h (.fsl cs k sz) (.sl b g 0 len sz):=by subst hk;exact Rn.fz hb hn hm hl hL
theorem Rn.fz0 {b g len sz:Nat} {cs ds:List AV} (hb:h.get b=some (.cells g ds)) (hl:ds.length=len*sz)
  (hL:RnL 0 π0 h cs ds):Rn 0 π0 h (.fsl cs len sz) (.sl b g 0 len sz):=by
 refine Rn.frz hb (Nat.zero_le _) (fun b' g' _ e=>by simp[π0]at e) (by omega) ?_
 rw[List.drop_zero,<-hl,List.take_length];exact hL
end
theorem Rn.slot {m:Nat} {π:Nat->Option Src} {h:Heap} {T:Tmps} {j:Nat} {v:AV} (hv:lk T j=v) (hn:noRef v=true):Rn m π h v (lk T j):=by rw[hv];exact Rn.same hn
section
variable {m:Nat} {π:Nat->Option Src} {h:Heap}
theorem Rn.x1 {b' b g off len sz:Nat} (hm:Nat.ble m b'=true) (hp:π b'=some (.blk b g)):Rn m π h (.sl b' 0 off len sz) (.sl b g off len sz):=Rn.sl (Nat.le_of_ble_eq_true hm) hp
theorem Rn.x2 {b' b g off:Nat} (hm:Nat.ble m b'=true) (hp:π b'=some (.blk b g)):Rn m π h (.ptr b' 0 off) (.ptr b g off):=Rn.ptr (Nat.le_of_ble_eq_true hm) hp
theorem Rn.x3 {b' b g:Nat} (hm:Nat.ble m b'=true) (hp:π b'=some (.blk b g)):Rn m π h (.map b' 0) (.map b g):=Rn.map (Nat.le_of_ble_eq_true hm) hp
theorem Rn.x4 {b' sz:Nat} (hm:Nat.ble m b'=true) (hp:π b'=some .nil):Rn m π h (.sl b' 0 0 0 sz) .nilsl:=Rn.slnil (Nat.le_of_ble_eq_true hm) hp
theorem Rn.x5 {b g off len sz:Nat} (hm:Nat.ble (b+1) m=true):Rn m π h (.sl b g off len sz) (.sl b g off len sz):=Rn.slB (Nat.le_of_ble_eq_true hm)
theorem Rn.x6 {b g off:Nat} (hm:Nat.ble (b+1) m=true):Rn m π h (.ptr b g off) (.ptr b g off):=Rn.ptrB (Nat.le_of_ble_eq_true hm)
theorem Rn.x7 {b g:Nat} (hm:Nat.ble (b+1) m=true):Rn m π h (.map b g) (.map b g):=Rn.mapB (Nat.le_of_ble_eq_true hm)
end
section
variable {k m n:Nat} {T:Tmps} {h:Heap} {Q:QC} {fs:List Fr} {α:Type} {env:α->Tmps} {H:α->HL} {I:α->Prop} {μ:α->Nat} {a:α}
def loopR (P:Program) (k m:Nat) {α:Type} (env:α->Tmps) (H:α->HL) (I:α->Prop) (μ:α->Nat) (a:α) (fs:List Fr) (Q:QC):QC:=fun e T h n=>
 match e with
 | .normal=>∃a',μ a'<μ a/\I a'/\Rec m (env a') (H a') T h
 |e=>wX P ⟨k,m⟩ e fs n T h Q
theorem QeL:loopR P k m env H I μ a fs Q .normal T h n=∃a',μ a'<μ a/\I a'/\Rec m (env a') (H a') T h:=rfl
theorem Qgn {i:Nat}:loopR P k m env H I μ a fs Q (.exit i) T h n=wX P ⟨k,m⟩ (.exit i) fs n T h Q:=rfl
theorem QhK:loopR P k m env H I μ a fs Q .ret T h n=wX P ⟨k,m⟩ .ret fs n T h Q:=rfl
theorem QaJ {b:SCode} (n0:Nat) (env:α->Tmps) (H:α->HL) (I:α->Prop) (μ:α->Nat) (a0:α)
  (h0:Rec m (env a0) (H a0) T h) (hI:I a0) (round:∀a,I a->wS P ⟨k,m⟩ b [] n0 (env a) (hp (H a)) (loopR P k m env H I μ a fs Q)):wS P ⟨k,m⟩ (.loop b) fs n T h Q:=by
 show W2 P ⟨k,m⟩ (.loop b) (fun e B=>∃n,ct P ⟨k,m⟩ fs Q e B.T B.h n) ⟨T,h⟩
 refine W2.loop (fun q B=>∃a,μ a=q/\I a/\Rec m (env a) (H a) B.T B.h) (μ a0) ⟨a0,rfl,hI,h0⟩ ?_
 rintro q B ⟨a,rfl,hi,hr⟩
 refine W2.recL hr ((wpC.toW (round a hi)).mono ?_)
 rintro e C ⟨n2,hq⟩
 cases e with
 |normal=>obtain⟨a',h1,h2,h3⟩:=hq;exact⟨μ a',h1,a',rfl,h2,h3⟩
 |exit i=>exact⟨n2,hq⟩
 |ret=>exact⟨n2,hq⟩
def loopX (P:Program) (k m:Nat) {α β:Type} (env:α->Tmps) (H:α->HL) (I:α->Prop) (μ:α->Nat) (i:Nat) (T1:β->Tmps) (L1:β->HL) (J:β->Prop) (a:α) (fs:List Fr) (Q:QC):QC:=fun e T h n=>
 match e with
 | .normal=>∃a',μ a'<μ a/\I a'/\Rec m (env a') (H a') T h
 | .exit j=>if j=i then ∃b,J b/\Rec m (T1 b) (L1 b) T h else wX P ⟨k,m⟩ (.exit j) fs n T h Q
 | .ret=>wX P ⟨k,m⟩ .ret fs n T h Q
section
variable {β:Type} {i:Nat} {T1:β->Tmps} {L1:β->HL} {J:β->Prop}
theorem QeM:loopX P k m env H I μ i T1 L1 J a fs Q .normal T h n=∃a',μ a'<μ a/\I a'/\Rec m (env a') (H a') T h:=rfl
theorem Qd9 {j:Nat}:loopX P k m env H I μ i T1 L1 J a fs Q (.exit j) T h n=if j=i then ∃b,J b/\Rec m (T1 b) (L1 b) T h else wX P ⟨k,m⟩ (.exit j) fs n T h Q:=rfl
theorem QhL:loopX P k m env H I μ i T1 L1 J a fs Q .ret T h n=wX P ⟨k,m⟩ .ret fs n T h Q:=rfl
end
theorem Qar {b:SCode} {β:Type} (n0:Nat) (env:α->Tmps) (H:α->HL) (I:α->Prop) (μ:α->Nat) (a0:α) (i n1:Nat) (T1:β->Tmps) (L1:β->HL) (J:β->Prop)
  (h0:Rec m (env a0) (H a0) T h) (hI:I a0) (round:∀a,I a->wS P ⟨k,m⟩ b [] n0 (env a) (hp (H a)) (loopX P k m env H I μ i T1 L1 J a fs Q))
  (cont:∀b,J b->wX P ⟨k,m⟩ (.exit i) fs n1 (T1 b) (hp (L1 b)) Q):wS P ⟨k,m⟩ (.loop b) fs n T h Q:=by
 show W2 P ⟨k,m⟩ (.loop b) (fun e B=>∃n,ct P ⟨k,m⟩ fs Q e B.T B.h n) ⟨T,h⟩
 refine W2.post ?_
 refine W2.loop (fun q B=>∃a,μ a=q/\I a/\Rec m (env a) (H a) B.T B.h) (μ a0) ⟨a0,rfl,hI,h0⟩ ?_
 rintro q B ⟨a,rfl,hi,hr⟩
 refine W2.recL hr ((wpC.toW (round a hi)).mono ?_)
 rintro e C ⟨n2,hq⟩
 cases e with
 |normal=>obtain⟨a',h1,h2,h3⟩:=hq;exact⟨μ a',h1,a',rfl,h2,h3⟩
 | exit j =>
  replace hq:loopX P k m env H I μ i T1 L1 J a fs Q (.exit j) C.T C.h n2:=hq
  rw[Qd9]at hq
  split at hq
  ·rename_i e; subst e
   obtain⟨b,hJ,hr⟩:=hq
   exact .inr ⟨_,_,hr,n1,cont b hJ⟩
  ·exact .inl ⟨n2,hq⟩
 |ret=>exact .inl ⟨n2,hq⟩
end
section
variable {N:NM} {n:Nat} {d:Option Nat} {af dead:List Nat} {r:List SOper} {T:Tmps} {h:Heap} {Q:QC} {fs:List Fr}
def wA (P:Program) (N:NM) (zs ys:Option (List AV)) (g len2 len sz bytes b:Nat) (d:Option Nat) (ops:List SOper) (dead:List Nat) (fs:List Fr) (n:Nat) (T:Tmps) (h:Heap) (Q:QC):Prop:=
 ∃ y z, ys = some y /\ zs = some z /\ ((len2 + len) * bytes <= 1099511627776 /\ len2 + len <= 1099511627776) /\ y.all AV.one = true /\
   wB P N (some (.cells (g+1) (z++y))) b (.sl b (g+1) 0 (len2+len) sz) d ops dead fs n T h Q
theorem Qfm {sz bytes b g off len b2 g2 off2 len2:Nat}:wM P N (aAppend .dyn n sz bytes (.sl b2 g2 off2 len2 sz) (.sl b g off len sz)) d r dead fs n T h Q=
  wA P N (srcB (h.get b2) g2 off2 len2 sz) (srcB (h.get b) g off len sz) g2 len2 len sz bytes b2 d r dead fs n T h Q:=by
 rw[Qlf]
 apply propext;constructor
 ·rintro⟨ys,zs,h1,h2,h3,h4,h5⟩;exact⟨ys,zs,h1,h2,h3,h4,h5⟩
 ·rintro⟨ys,zs,h1,h2,h3,h4,h5⟩;exact⟨ys,zs,h1,h2,h3,h4,h5⟩
theorem Qky {zs ys:List AV} {g len2 len sz bytes b:Nat} (h1:(len2+len)*bytes<=1099511627776) (h2:len2+len<=1099511627776):
  wA P N (some zs) (some ys) g len2 len sz bytes b d r dead fs n T h Q=if ys.all AV.one=true then wB P N (some (.cells (g+1) (zs++ys))) b (.sl b (g+1) 0 (len2+len) sz) d r dead fs n T h Q else False:=by
 by_cases ho:ys.all AV.one=true
 ·rw [if_pos ho]; apply propext; constructor
  ·rintro⟨y,z,e1,e2,_,_,h5⟩;cases e1;cases e2;exact h5
  ·intro h5;exact⟨ys,zs,rfl,rfl,⟨h1,h2⟩,ho,h5⟩
 ·rw [if_neg ho]; apply propext; constructor
  ·rintro⟨y,z,e1,e2,_,h4,h5⟩;cases e1;exact ho h4
  ·exact fun h=>h.elim
theorem QiZ {g len sz:Nat} {cs:List AV} (hl:cs.length=len*sz):srcB (some (.cells g cs)) g 0 len sz=some cs:=by
 rw[Qb9,if_pos ⟨rfl,by omega⟩,List.drop_zero,<-hl,List.take_length]
end
end Go.AM
namespace Go.AM
theorem words:type_of% @Qj7/\type_of% @QlS/\type_of% @Qj8/\type_of% @Qhk/\type_of% @QlT/\type_of% @Qj9/\type_of% @Qiv/\type_of% @Qka/\type_of% @Qiw/\type_of% @Qkb/\type_of% @QlU/\type_of% @wX_sq/\type_of% @Qhl/\type_of% @Qf8/\type_of% @QlV/\type_of% @Qf9/\type_of% @Qfb/\type_of% @QeJ/\type_of% @Qgj/\type_of% @QhB/\type_of% @ev_t/\type_of% @ev_c/\type_of% @ev_f/\type_of% @QlW/\type_of% @QaM/\type_of% @QgL/\type_of% @QlX/\type_of% @QlY/\type_of% @rm_no/\type_of% @Qkc/\type_of% @Qhm/\type_of% @Qhn/\type_of% @Qix/\type_of% @Qho/\type_of% @Qkd/\type_of% @Qiy/\type_of% @Qiz/\type_of% @QiA/\type_of% @Qfc/\type_of% @QeF/\type_of% @QlZ/\type_of% @QiB/\type_of% @Qke/\type_of% @Qkf/\type_of% @Ql0/\type_of% @Qkg/\type_of% @Qkh/\type_of% @QiC/\type_of% @Qhp/\type_of% @Ql1/\type_of% @wR_eq/\type_of% @wR_un/\type_of% @Qki/\type_of% @Qdh/\type_of% @QiE/\type_of% @QiF/\type_of% @QiG/\type_of% @QiH/\type_of% @QiI/\type_of% @Qga/\type_of% @Qhq/\type_of% @QiJ/\type_of% @Ql3/\type_of% @Qhr/\type_of% @Qkj/\type_of% @QiK/\type_of% @QiL/\type_of% @Qgb/\type_of% @Qhs/\type_of% @Qkk/\type_of% @Ql4/\type_of% @Qht/\type_of% @Qkl/\type_of% @Qkm/\type_of% @Qc2/\type_of% @QiM/\type_of% @Ql5/\type_of% @QbO/\type_of% @QgM/\type_of% @Qhw/\type_of% @Qfd/\type_of% @Qfe/\type_of% @Qgc/\type_of% @Qhx/\type_of% @QiO/\type_of% @Qhy/\type_of% @Qff/\type_of% @Qhz/\type_of% @Qhu/\type_of% @Qhv/\type_of% @QfI/\type_of% @QfJ/\type_of% @QfK/\type_of% @QfL/\type_of% @QiP/\type_of% @QiQ/\type_of% @Qdi/\type_of% @Qdj/\type_of% @Qdk/\type_of% @Qdl/\type_of% @Qdm/\type_of% @Qdn/\type_of% @Qko/\type_of% @Qkp/\type_of% @QeH/\type_of% @Qge/\type_of% @Qfg/\type_of% @Qgd/\type_of% @QeI/\type_of% @QiR/\type_of% @QiS/\type_of% @Ql6/\type_of% @wr_u8/\type_of% @Ql8/\type_of% @Ql9/\type_of% @Ql7/\type_of% @Qma/\type_of% @Qgf/\type_of% @QhA/\type_of% @Qgg/\type_of% @Qfh/\type_of% @Qgh/\type_of% @Qfi/\type_of% @Qfj/\type_of% @Qfk/\type_of% @List.elem_cons.{0}/\type_of% @List.elem_nil.{0}/\type_of% @Bool.false_eq_true/\type_of% @Bool.true_eq_false/\type_of% @List.getElem?_cons_zero.{0}/\type_of% @List.getElem?_cons_succ.{0}/\type_of% @decide_eq_true_eq/\type_of% @decide_eq_false_iff_not/\type_of% @decide_true/\type_of% @decide_false/\type_of% @Bool.not_true/\type_of% @Bool.not_false/\type_of% @Bool.not_eq_true'/\type_of% @Bool.not_eq_eq_eq_not/\type_of% @List.nil_append.{0}/\type_of% @List.append_nil.{0}/\type_of% @List.cons_append.{0}/\type_of% @and_true/\type_of% @true_and/\type_of% @Int.natCast_nonneg/\type_of% @Int.toNat_natCast/\type_of% @Nat.mul_one/\type_of% @Nat.zero_add/\type_of% @Int.toNat_zero/\type_of% @Qgk/\type_of% @QiT/\type_of% @Qkq/\type_of% @Qgi:=
 ⟨@Qj7,@QlS,@Qj8,@Qhk,@QlT,@Qj9,@Qiv,@Qka,@Qiw,@Qkb,@QlU,@wX_sq,@Qhl,@Qf8,@QlV,@Qf9,@Qfb,@QeJ,@Qgj,@QhB,@ev_t,@ev_c,@ev_f,@QlW,@QaM,@QgL,@QlX,@QlY,@rm_no,@Qkc,@Qhm,@Qhn,@Qix,@Qho,@Qkd,@Qiy,@Qiz,@QiA,@Qfc,@QeF,@QlZ,@QiB,@Qke,@Qkf,@Ql0,@Qkg,@Qkh,@QiC,@Qhp,@Ql1,@wR_eq,@wR_un,@Qki,@Qdh,@QiE,@QiF,@QiG,@QiH,@QiI,@Qga,@Qhq,@QiJ,@Ql3,@Qhr,@Qkj,@QiK,@QiL,@Qgb,@Qhs,@Qkk,@Ql4,@Qht,@Qkl,@Qkm,@Qc2,@QiM,@Ql5,@QbO,@QgM,@Qhw,@Qfd,@Qfe,@Qgc,@Qhx,@QiO,@Qhy,@Qff,@Qhz,@Qhu,@Qhv,@QfI,@QfJ,@QfK,@QfL,@QiP,@QiQ,@Qdi,@Qdj,@Qdk,@Qdl,@Qdm,@Qdn,@Qko,@Qkp,@QeH,@Qge,@Qfg,@Qgd,@QeI,@QiR,@QiS,@Ql6,@wr_u8,@Ql8,@Ql9,@Ql7,@Qma,@Qgf,@QhA,@Qgg,@Qfh,@Qgh,@Qfi,@Qfj,@Qfk,@List.elem_cons.{0},@List.elem_nil.{0},@Bool.false_eq_true,@Bool.true_eq_false,@List.getElem?_cons_zero.{0},@List.getElem?_cons_succ.{0},@decide_eq_true_eq,@decide_eq_false_iff_not,@decide_true,@decide_false,@Bool.not_true,@Bool.not_false,@Bool.not_eq_true',@Bool.not_eq_eq_eq_not,@List.nil_append.{0},@List.append_nil.{0},@List.cons_append.{0},@and_true,@true_and,@Int.natCast_nonneg,@Int.toNat_natCast,@Nat.mul_one,@Nat.zero_add,@Int.toNat_zero,@Qgk,@QiT,@Qkq,@Qgi⟩
theorem wordsN:type_of% @QiU/\type_of% @QdP/\type_of% @Qdy/\type_of% @QhD/\type_of% @Option.map_some.{0,0}/\type_of% @QgN/\type_of% @wN_go/\type_of% @wB_go/\type_of% @QaT/\type_of% @Qa2/\type_of% @QhC/\type_of% @Qgm/\type_of% @QhE/\type_of% @QhF/\type_of% @QiV/\type_of% @QhG/\type_of% @Qfl/\type_of% @Qkr/\type_of% @Qks/\type_of% @Qmb/\type_of% @Qkt/\type_of% @QhH/\type_of% @Qku/\type_of% @Qmc/\type_of% @Qkv/\type_of% @QhI/\type_of% @QiW/\type_of% @List.set_cons_zero.{0}/\type_of% @List.set_cons_succ.{0}/\type_of% @List.length_cons.{0}/\type_of% @List.length_nil.{0}/\type_of% @List.all_cons.{0}/\type_of% @List.all_nil.{0}/\type_of% @Bool.and_true/\type_of% @Bool.true_and/\type_of% @List.drop_zero.{0}/\type_of% @List.drop_succ_cons.{0}/\type_of% @List.take_succ_cons.{0}/\type_of% @List.take_zero.{0}/\type_of% @List.head?_cons.{0}/\type_of% @QhJ/\type_of% @Nat.le_refl/\type_of% @Int.cast_ofNat_Int/\type_of% @Int.natCast_zero/\type_of% @Int.natCast_one:=
 ⟨@QiU,@QdP,@Qdy,@QhD,@Option.map_some.{0,0},@QgN,@wN_go,@wB_go,@QaT,@Qa2,@QhC,@Qgm,@QhE,@QhF,@QiV,@QhG,@Qfl,@Qkr,@Qks,@Qmb,@Qkt,@QhH,@Qku,@Qmc,@Qkv,@QhI,@QiW,@List.set_cons_zero.{0},@List.set_cons_succ.{0},@List.length_cons.{0},@List.length_nil.{0},@List.all_cons.{0},@List.all_nil.{0},@Bool.and_true,@Bool.true_and,@List.drop_zero.{0},@List.drop_succ_cons.{0},@List.take_succ_cons.{0},@List.take_zero.{0},@List.head?_cons.{0},@QhJ,@Nat.le_refl,@Int.cast_ofNat_Int,@Int.natCast_zero,@Int.natCast_one⟩
theorem wordsR:type_of% @Qmd/\type_of% @Qca/\type_of% @get_e/\type_of% @QeL/\type_of% @Qgn/\type_of% @QhK/\type_of% @QeM/\type_of% @Qd9/\type_of% @QhL/\type_of% @Qfm/\type_of% @Qky/\type_of% @QiZ/\type_of% @Int.ofNat_lt/\type_of% @Int.ofNat_le/\type_of% @Int.ofNat_inj/\type_of% @Int.natCast_pos/\type_of% @Int.natCast_add/\type_of% @List.length_map.{0,0}/\type_of% @List.length_append.{0}/\type_of% @List.take_length.{0}/\type_of% @Nat.zero_mul/\type_of% @Nat.one_mul/\type_of% @Nat.add_zero/\type_of% @Int.zero_add/\type_of% @Nat.not_lt_zero/\type_of% @Int.le_refl/\type_of% @not_true/\type_of% @not_false_iff/\type_of% @Nat.lt_irrefl/\type_of% @Int.lt_irrefl:=
 ⟨@Qmd,@Qca,@get_e,@QeL,@Qgn,@QhK,@QeM,@Qd9,@QhL,@Qfm,@Qky,@QiZ,@Int.ofNat_lt,@Int.ofNat_le,@Int.ofNat_inj,@Int.natCast_pos,@Int.natCast_add,@List.length_map.{0,0},@List.length_append.{0},@List.take_length.{0},@Nat.zero_mul,@Nat.one_mul,@Nat.add_zero,@Int.zero_add,@Nat.not_lt_zero,@Int.le_refl,@not_true,@not_false_iff,@Nat.lt_irrefl,@Int.lt_irrefl⟩
end Go.AM
namespace Go.AM
variable {P:Program}
section
variable {N:NM} {n:Nat} {d:Option Nat} {dead:List Nat} {r:List SOper} {T:Tmps} {h:Heap} {Q:QC} {fs:List Fr}
theorem Qfn {sz bytes len b2 g2 off2 len2:Nat} {cs:List AV}:wM P N (aAppend .dyn n sz bytes (.sl b2 g2 off2 len2 sz) (.fsl cs len sz)) d r dead fs n T h Q=
  wA P N (srcB (h.get b2) g2 off2 len2 sz) (some cs) g2 len2 len sz bytes b2 d r dead fs n T h Q:=by
 simp only[aAppend,aSrc,if_true,slLen,Qcz,Qcl,QeG]
 apply propext;constructor
 ·rintro ⟨h2, cs2, hb2, h3, h4⟩
  rw[hb2,Qb9,if_pos ⟨rfl,h3⟩]
  exact⟨_,_,rfl,rfl,⟨h2.1,h2.2.1⟩,h2.2.2,h4⟩
 ·rintro ⟨ys, zs, hy, hz, h2, h3, h4⟩
  cases hy
  unfold srcB at hz
  split at hz
  ·rename_i g3 cs2 hb2
   split at hz
   ·rename_i e2
    obtain⟨rfl,e2⟩:=e2
    cases hz
    exact⟨⟨h2.1,h2.2,h3⟩,cs2,hb2,e2,h4⟩
   ·cases hz
  ·cases hz
theorem QdH {sz bytes b2 g2 off2 len2:Nat}:wM P N (aAppend .dyn n sz bytes (.sl b2 g2 off2 len2 sz) .nilsl) d r dead fs n T h Q=
  wA P N (srcB (h.get b2) g2 off2 len2 sz) (some []) g2 len2 0 sz bytes b2 d r dead fs n T h Q:=by
 simp only[aAppend,aSrc,if_true,slLen,Qcz,Qcl,QeG]
 apply propext;constructor
 ·rintro ⟨h2, cs2, hb2, h3, h4⟩
  rw[hb2,Qb9,if_pos ⟨rfl,h3⟩]
  exact⟨_,_,rfl,rfl,⟨h2.1,h2.2.1⟩,h2.2.2,h4⟩
 ·rintro ⟨ys, zs, hy, hz, h2, h3, h4⟩
  cases hy
  unfold srcB at hz
  split at hz
  ·rename_i g3 cs2 hb2
   split at hz
   ·rename_i e2
    obtain⟨rfl,e2⟩:=e2
    cases hz
    exact⟨⟨h2.1,h2.2,h3⟩,cs2,hb2,e2,h4⟩
   ·cases hz
  ·cases hz
end
theorem Qfo {cs:List AV} {len sz:Nat} {k:IntKind} {a:Int}:aSliceC (some sz) (.fsl cs len sz) (some (.int k a)) none none=
  if 0<=a/\a<=len then some (.fsl ((cs.drop (a.toNat*sz)).take ((len-a.toNat)*sz)) (len-a.toNat) sz)else none:=by
 simp only[aSliceC,if_true,aSlice,bnd,Int.le_refl,Int.toNat_natCast,and_true]
theorem Qfp {cs:List AV} {len sz:Nat} {k:IntKind} {b:Int}:aSliceC (some sz) (.fsl cs len sz) none (some (.int k b)) none=
  if 0<=b/\b<=len then some (.fsl (cs.take (b.toNat*sz)) b.toNat sz)else none:=by
 simp only[aSliceC,if_true,aSlice,bnd,Int.le_refl,true_and,Int.toNat_zero,Nat.zero_mul,List.drop_zero,Nat.sub_zero]
theorem Qfq {cs:List AV} {len sz:Nat} {k k2:IntKind} {a b:Int}:aSliceC (some sz) (.fsl cs len sz) (some (.int k a)) (some (.int k2 b)) none=
  if 0<=a/\a<=b/\b<=len then some (.fsl ((cs.drop (a.toNat*sz)).take ((b.toNat-a.toNat)*sz)) (b.toNat-a.toNat) sz)else none:=by
 simp only[aSliceC,if_true,aSlice,bnd]
theorem Qgo {b g off len sz:Nat} {k:IntKind} {a:Int}:aSliceC (some sz) (.sl b g off len sz) (some (.int k a)) none none=
  if 0<=a/\a<=len then some (.sl b g (off+a.toNat*sz) (len-a.toNat) sz)else none:=by
 simp only[aSliceC,if_true,aSlice,bnd,Int.le_refl,Int.toNat_natCast,true_and,Nat.zero_lt_succ,or_true,and_true]
theorem Qgp {b g off len sz:Nat} {k:IntKind} {c:Int}:aSliceC (some sz) (.sl b g off len sz) none (some (.int k c)) none=
  if 0<=c/\c<=len then some (.sl b g off c.toNat sz)else none:=by
 simp only[aSliceC,if_true,aSlice,bnd,Int.le_refl,true_and,Int.toNat_zero,Nat.zero_mul,Nat.add_zero,Nat.sub_zero,Nat.zero_lt_succ,or_true,and_true]
theorem Qgq {b g off len sz:Nat} {k k2:IntKind} {a c:Int}:aSliceC (some sz) (.sl b g off len sz) (some (.int k a)) (some (.int k2 c)) none=
  if 0<=a/\a<=c/\c<=len then some (.sl b g (off+a.toNat*sz) (c.toNat-a.toNat) sz)else none:=by
 simp only[aSliceC,if_true,aSlice,bnd,Nat.zero_lt_succ,or_true,and_true]
end Go.AM
namespace Go.AM
variable {P:Program}
def HM.tch {α:Type} (B:Nat->Prop):HM α->Prop
 | .ret _=>True
 | .fail=>True
 | .look b k=>B b/\∀x,(k x).tch B
 | .put b _ k=>B b/\k.tch B
theorem HM.QoK {α:Type} {B:Nat->Prop} (m:HM α):m.tch B->∀h b,b∈(m.fp h).1\/b∈(m.fp h).2->B b:=by
 induction m with
 |ret a=>intro _ h b hb;simp[HM.fp]at hb
 |fail=>intro _ h b hb;simp[HM.fp]at hb
 |look b k ih=>
  rintro⟨h1,h2⟩ h b' hb
  simp only[HM.fp,List.mem_cons]at hb
  rcases hb with(rfl|hb)|hb
  ·exact h1
  ·exact ih _ (h2 _) h b' (.inl hb)
  ·exact ih _ (h2 _) h b' (.inr hb)
 |put b x k ih=>
  rintro⟨h1,h2⟩ h b' hb
  simp only[HM.fp,List.mem_cons]at hb
  rcases hb with hb|rfl|hb
  ·exact ih h2 _ b' (.inl hb)
  ·exact h1
  ·exact ih h2 _ b' (.inr hb)
theorem HM.Qng {α β:Type} {B:Nat->Prop} {m:HM α} {f:α->HM β} (h1:m.tch B) (h2:∀a,(f a).tch B):(m.bind f).tch B:=by
 induction m with
 |ret a=>exact h2 a
 |fail=>trivial
 |look b k ih=>exact⟨h1.1,fun x=>ih x (h1.2 x)⟩
 |put b x k ih=>exact⟨h1.1,ih h1.2⟩
theorem Qkz {α:Type} {B:Nat->Prop} (o:Option α):(HM.opt o).tch B:=by cases o<;>trivial
theorem QcO {α:Type} {B:Nat->Prop} {b g:Nat} {k:List AV->HM α} (hb:B b) (hk:∀cs,(k cs).tch B):(HM.cells b g k).tch B:=by
 refine⟨hb,fun x=>?_⟩
 match x with
 |some (.cells g' cs)=>
  simp only
  cases Nat.beq g' g<;>first|exact trivial|exact hk cs
 |some (.map _ _)=>trivial
 |some (.dead _)=>trivial
 |some (.loop ..)=>trivial
 |none=>trivial
theorem QgP {α:Type} {B:Nat->Prop} {i:Nat} {x:Nat->Blk} {k:Nat->Nat->HM α} (hb:B i) (hk:∀b g,(k b g).tch B):(HM.new .dyn i x k).tch B:=by
 refine⟨hb,fun y=>?_⟩
 match y with
 |none=>exact⟨hb,hk _ _⟩
 |some z=>trivial
def blks:AV->Option (List Nat)
 | .ptr b _ _=>some [b]
 | .sl b _ _ _ _=>some [b]
 | .map b _=>some [b]
 | .any=>none
 | .agg _=>none
 | .tup []=>some []
 | .tup _=>none
 | .fn _ _ _=>none
 | .ifc _ _=>none
 | .typed _ _ _=>none
 |_=>some []
def Pts (v:AV) (bs:List Nat):Prop:=∃cs,blks v=some cs/\∀b∈cs,b∈bs
abbrev Abs:=List (Nat×Option (List Nat))
def absT (T:Tmps):Abs->Nat->Option (List Nat)
 |[],i=>blks (lk T i)
 |(j,a)::r,i=>bif Nat.beq j i then a else absT T r i
def absO (T:Tmps) (A:Abs):Opd->Option (List Nat)
 | .t i=>absT T A i
 | .c v=>blks v
 |_=>none
def SOp.absV (i:Nat) (ax:Opd->Option (List Nat)):SOp->Option (List Nat)
 | .mov x=>ax x
 | .slice _ x _ _ _=>ax x
 | .iaddr _ _ x _=>ax x
 | .faddr _ x=>ax x
 | .alloc .dyn _=>some [i]
 | .box .dyn _=>some [i]
 | .bslice false .dyn _ _ _ _=>some [i]
 | .mkslice .dyn _ _ _ _ _=>some [i]
 | .mkmap .dyn=>some [i]
 | .append .dyn _ _ x _=>(ax x).map fun bs=>i::bs
 |_=>none
def SOp.touch (i:Nat) (ax:Opd->Option (List Nat)):SOp->Option (List Nat)
 | .load _ x=>ax x
 | .store _ x _=>ax x
 | .len _ x=>ax x
 | .alloc .dyn _=>some [i]
 | .box .dyn _=>some [i]
 | .bslice _ .dyn _ _ _ _=>some [i]
 | .mkslice .dyn _ _ _ _ _=>some [i]
 | .mkmap .dyn=>some [i]
 | .append .dyn _ _ x y=>match ax x,ax y with
  |some a,some b=>some (i::(a++b))
  |_,_=>none
 | .copy _ x y=>match ax x,ax y with
  |some a,some b=>some (a++b)
  |_,_=>none
 | .lookup _ _ _ _ x _=>ax x
 | .mupd _ _ x _ _=>ax x
 |s=>bif Nat.beq s.cls 0 then some []else none
def touches (n:Nat) (T:Tmps):List SOper->Abs->List (Option (List Nat))
 |[],_=>[]
 |s::r,A=>s.op.touch n (absO T A)::touches (n+1) T r (match s.dst with|some d=>(d,s.op.absV n (absO T A))::A|none=>A)
def pairsOK (ts:List (Option (List Nat))) (ps:List (Nat×Nat)):Bool:=
 ps.all fun p=>match ts.getD p.1 none,ts.getD p.2 none with
  |some a,some b=>a.all fun x=> !b.elem x
  |_,_=>false
section
variable {i:Nat} {T:Tmps} {ax:Opd->Option (List Nat)} {B:Nat->Prop}
theorem Qnh {n:Option Nat} {v:AV} {bs:List Nat} (h:Pts v bs):(aLoad n v).tch (· ∈bs):=by
 obtain⟨cs,h1,h2⟩:=h
 unfold aLoad
 split
 ·simp only [blks, Option.some.injEq] at h1
  subst h1
  refine QcO (h2 _ (by simp)) fun cs=>?_
  split
  ·exact Qkz _
  ·split<;>trivial
 ·split
  ·exact Qkz _
  ·split<;>trivial
 ·trivial
theorem Qmg {n:Nat} {v u:AV} {bs:List Nat} (h:Pts v bs):(aStore n v u).tch (· ∈bs):=by
 obtain⟨cs,h1,h2⟩:=h
 unfold aStore
 split
 ·simp only [blks, Option.some.injEq] at h1
  subst h1
  have hb:=h2 _ (List.mem_singleton.2 rfl)
  refine QcO hb fun cs=>?_
  split
  ·exact⟨hb,trivial⟩
  ·trivial
 ·trivial
theorem QnX {k:Nat} {v:AV} {bs:List Nat} (h:Pts v bs):(aLenC k v).tch (· ∈bs):=by
 obtain⟨cs,h1,h2⟩:=h
 unfold aLenC
 split
 ·unfold aLen
  split<;>try trivial
  simp only[blks,Option.some.injEq]at h1
  subst h1
  refine⟨h2 _ (by simp),fun y=>?_⟩
  match y with
  |some (.map g' es)=>
   simp only
   generalize Nat.beq g' _=t
   cases t<;>trivial
  |some (.cells _ _)=>trivial
  |some (.dead _)=>trivial
  |some (.loop ..)=>trivial
  |none=>trivial
 ·trivial
theorem QeX {sz:Nat} {v:AV} {bs:List Nat} {k:List AV->Nat->HM AV} (h:Pts v bs) (hs:∀b∈bs,B b) (hk:∀ys n,(k ys n).tch B):(aSrc sz v k).tch B:=by
  obtain⟨cs,h1,h2⟩:=h
  unfold aSrc
  split
  · simp only [blks, Option.some.injEq] at h1
    subst h1
    split
    · refine QcO (hs _ (h2 _ (by simp))) fun cs => ?_
      split
      · exact hk _ _
      · trivial
    · trivial
  · split
    · exact hk _ _
    · trivial
  · exact hk _ _
  · exact hk _ _
  · exact hk _ _
  · split
    · exact hk _ _
    · trivial
  · trivial
theorem Qlg {sz bytes : Nat} {x y : AV} {a b : List Nat} (hx : Pts x a) (hy : Pts y b) : (aAppend .dyn i sz bytes x y).tch (· ∈ i :: (a ++ b)) := by
  unfold aAppend
  refine QeX hy (fun c hc=>by simp[hc]) fun ys n=>?_
  split
  · obtain ⟨cs, h1, h2⟩ := hx
    split
    · split
      · trivial
      · exact QgP (by simp) fun _ _=>trivial
    · split
      · trivial
      · exact QgP (by simp) fun _ _=>trivial
    · split<;>trivial
    · simp only [blks, Option.some.injEq] at h1
      subst h1
      have hb:=h2 _ (List.mem_singleton.2 rfl)
      split
      · refine QcO (by simp [hb]) fun cs => ?_
        split
        · exact⟨by simp[hb],trivial⟩
        · trivial
      · trivial
    · trivial
  · trivial
theorem Qni {sz:Nat} {x y:AV} {a b:List Nat} (hx:Pts x a) (hy:Pts y b):(aCopy sz x y).tch (· ∈a++b):=by
  obtain⟨cs,h1,h2⟩:=hx
  unfold aCopy
  split
  · simp only [blks, Option.some.injEq] at h1
    subst h1
    have hb:=h2 _ (List.mem_singleton.2 rfl)
    split
    · refine QeX hy (fun c hc => by simp [hc]) fun ys n => ?_
      refine QcO (by simp[hb]) fun cs=>?_
      split
      · exact⟨by simp[hb],trivial⟩
      · trivial
    · trivial
  · exact QeX hy (fun c hc=>by simp[hc]) fun ys n=>trivial
  · exact QeX hy (fun c hc=>by simp[hc]) fun ys n=>trivial
  · trivial
theorem Qfr {α:Type} {b g:Nat} {k:List (AV×AV)->HM α} (hb:B b) (hk:∀es,(k es).tch B):(HM.entries b g k).tch B:=by
 refine⟨hb,fun x=>?_⟩
 match x with
 |some (.map g' es)=>
  simp only
  cases Nat.beq g' g<;>first|exact trivial|exact hk es
 |some (.cells _ _)=>trivial
 |some (.dead _)=>trivial
 |some (.loop ..)=>trivial
 |none=>trivial
theorem Qlh {row ok:Bool} {ks:List LK} {z x k:AV} {bs:List Nat} (h:Pts x bs):(aLookup row ks z ok x k).tch (· ∈bs):=by
 obtain⟨cs,h1,h2⟩:=h
 unfold aLookup
 split
 ·split
  ·trivial
  ·simp only [blks, Option.some.injEq] at h1
   subst h1
   refine Qfr (h2 _ (by simp)) fun es=>?_
   split<;>trivial
  ·split<;>trivial
  ·trivial
 ·trivial
theorem Qnj {row:Bool} {ks:List LK} {x k v:AV} {bs:List Nat} (h:Pts x bs):(aMapUpd row ks x k v).tch (· ∈bs):=by
 obtain⟨cs,h1,h2⟩:=h
 unfold aMapUpd
 split
 ·split
  ·simp only [blks, Option.some.injEq] at h1
   subst h1
   have hb:=h2 _ (List.mem_singleton.2 rfl)
   refine Qfr hb fun es=>?_
   split
   ·exact⟨hb,trivial⟩
   ·exact⟨hb,trivial⟩
   ·trivial
  ·trivial
 ·trivial
theorem Qbe {m:HM AV} (h:m.tch B):(hval m).tch B:=HM.Qng h fun _=>trivial
theorem Qnk {s:SOp} {ts:List Nat} (hax:∀x bs,ax x=some bs->Pts (ev T x) bs) (h:s.touch i ax=some ts):s.cls≠0->(aop i T s).tch (· ∈ts)/\∀m x asg,s≠ .call m x asg:=by
 intro h0
 have new1:∀{x:Nat->Blk} {r:Nat->Nat->AV},(HM.new .dyn i x fun b g=> .ret (r b g)).tch (· ∈[i]):=fun{x r}=>QgP (by simp) fun _ _=>trivial
 cases s<;>try (exact absurd rfl h0)
 ·rename_i s z
  cases s<;>simp only[SOp.touch,SOp.cls,show Nat.beq 2 0=false from rfl,cond_false,reduceCtorEq,Option.some.injEq]at h
  subst h
  refine⟨Qbe ?_,fun _ _ _=>by simp⟩
  unfold aBox;split
  ·exact new1
  ·trivial
 ·simp only[SOp.touch,SOp.cls,show Nat.beq 2 0=false from rfl,cond_false,reduceCtorEq]at h
 ·rename_i s z
  cases s<;>simp only[SOp.touch,SOp.cls,show Nat.beq 2 0=false from rfl,cond_false,reduceCtorEq,Option.some.injEq]at h
  subst h
  refine⟨Qbe ?_,fun _ _ _=>by simp⟩
  unfold aBox;split
  ·exact new1
  ·trivial
 ·rename_i fz s sz len z ps
  cases s<;>simp only[SOp.touch,SOp.cls,show Nat.beq 2 0=false from rfl,cond_false,reduceCtorEq,Option.some.injEq]at h
  subst h
  refine⟨Qbe ?_,fun _ _ _=>by simp⟩
  unfold aBuildSlice
  split
  ·split
   ·split
    ·split<;>trivial
    ·exact new1
   ·trivial
  ·trivial
 ·exact⟨Qbe (Qnh (hax _ _ h)),fun _ _ _=>by simp⟩
 ·exact⟨Qbe (Qmg (hax _ _ h)),fun _ _ _=>by simp⟩
 ·simp only[SOp.touch,SOp.cls,show Nat.beq 1 0=false from rfl,cond_false,reduceCtorEq]at h
 ·simp only[SOp.touch,SOp.cls,show Nat.beq 2 0=false from rfl,cond_false,reduceCtorEq]at h
 ·simp only[SOp.touch,SOp.cls,show Nat.beq 2 0=false from rfl,cond_false,reduceCtorEq]at h
 ·simp only[SOp.touch,SOp.cls,show Nat.beq 2 0=false from rfl,cond_false,reduceCtorEq]at h
 ·simp only[SOp.touch,SOp.cls,show Nat.beq 2 0=false from rfl,cond_false,reduceCtorEq]at h
 ·simp only[SOp.touch,SOp.cls,show Nat.beq 2 0=false from rfl,cond_false,reduceCtorEq]at h
 ·simp only[SOp.touch,SOp.cls,show Nat.beq 2 0=false from rfl,cond_false,reduceCtorEq]at h
 ·simp only[SOp.touch,SOp.cls,show Nat.beq 1 0=false from rfl,cond_false,reduceCtorEq]at h
 ·rename_i s
  cases s<;>simp only[SOp.touch,SOp.cls,show Nat.beq 2 0=false from rfl,cond_false,reduceCtorEq,Option.some.injEq]at h
  subst h
  exact⟨Qbe new1,fun _ _ _=>by simp⟩
 ·rename_i s sz b z l c
  cases s<;>simp only[SOp.touch,SOp.cls,show Nat.beq 2 0=false from rfl,cond_false,reduceCtorEq,Option.some.injEq]at h
  subst h
  refine⟨Qbe ?_,fun _ _ _=>by simp⟩
  unfold aMakeSlice
  split
  ·split
   ·exact new1
   ·trivial
  ·trivial
 ·exact⟨Qbe (Qlh (hax _ _ h)),fun _ _ _=>by simp⟩
 ·exact⟨Qbe (Qnj (hax _ _ h)),fun _ _ _=>by simp⟩
 ·exact⟨Qbe (QnX (hax _ _ h)),fun _ _ _=>by simp⟩
 ·rename_i s sz b x y
  cases s<;>simp only[SOp.touch,SOp.cls,show Nat.beq 2 0=false from rfl,cond_false,reduceCtorEq]at h
  split at h
  ·rename_i a b ha hb
   cases h
   exact⟨Qbe (Qlg (hax _ _ ha) (hax _ _ hb)),fun _ _ _=>by simp⟩
  ·cases h
 ·rename_i sz x y
  simp only[SOp.touch]at h
  split at h
  ·rename_i a b ha hb
   cases h
   exact⟨Qbe (Qni (hax _ _ ha) (hax _ _ hb)),fun _ _ _=>by simp⟩
  ·cases h
 ·rename_i m x asg
  exfalso
  simp only[SOp.touch]at h
  have:Nat.beq (SOp.call m x asg).cls 0=false:=by cases m<;>rfl
  rw[this]at h;cases h
theorem QjU {s : SOper} {h h1 : Heap} {v : AV} {f : FP} {ts : List Nat} (hax : ∀ x bs, ax x = some bs -> Pts (ev T x) bs) (ht : s.op.touch i ax = some ts) (hs : StepV P i s T h v h1 f) :
    f.all=false/\∀b,b∈f.R\/b∈f.W->b∈ts:=by
  by_cases h0:s.op.cls=0
  · obtain ⟨k1, k2, k3⟩ := hs.cls (by omega)
    exact⟨k1,fun b hb=>by rw[k2,k3 h0]at hb;simp at hb⟩
  obtain⟨t1,t2⟩:=Qnk hax ht h0
  have key:∀{s':SOp},s'=s.op->StepX P i s' T h v h1 f->f.all=false/\∀b,b∈f.R\/b∈f.W->b∈ts:=by
    rintro s' rfl ⟨out,h2,hm,ho⟩
    have fin:f=fpOf ((aop i T s.op).fp h)->f.all=false/\∀b,b∈f.R\/b∈f.W->b∈ts:=by
      rintro rfl;exact⟨rfl,fun b hb=>HM.QoK _ t1 h b hb⟩
    match out,ho with
    | .val u,ho=>exact fin ho.2.2
    | .call .pure f' args,ho=>exact fin ho.2.2
    | .call .borrow f' args,ho=>exact fin ho.2.2.2
    | .call .heap f' args, ho =>
      exfalso
      cases hso:s.op with
      |call m x asg=>exact t2 m x asg hso
      | _ =>
        rw[hso]at hm
        first
          |(obtain⟨u,hu,he⟩:=QaC hm;cases he)
          |(obtain⟨u,h3,hu,he⟩:=QaA hm;cases he)
          |(simp[aop,HM.run]at hm)
    | .round b' g' args, ho =>
      exfalso
      cases hso:s.op with
      |call m x asg=>exact t2 m x asg hso
      | _ =>
        rw[hso]at hm
        first
          |(obtain⟨u,hu,he⟩:=QaC hm;cases he)
          |(obtain⟨u,h3,hu,he⟩:=QaA hm;cases he)
          |(simp[aop,HM.run]at hm)
  unfold StepV at hs
  split at hs
  · exact key rfl hs
  · obtain ⟨t, _, hs⟩ := hs
    split at hs
    · exact key rfl hs
    · obtain⟨_,_,rfl⟩:=hs;exact⟨rfl,fun b hb=>by simp at hb⟩
theorem Pts.slice {n:Option Nat} {x v:AV} {l h m:Option AV} {bs:List Nat} (hx:Pts x bs) (hv:aSliceC n x l h m=some v):Pts v bs:=by
 obtain⟨cs,h1,h2⟩:=hx
 have key : aSlice x l h m = some v -> Pts v bs := by
  intro hv
  unfold aSlice at hv
  have nil:∀{v:AV},blks v=some []->Pts v bs:=fun h=>⟨[],h,fun b hb=>by cases hb⟩
  split at hv
  ·cases hv
  ·split at hv
   ·split at hv
    ·split at hv
     ·split at hv<;>first|(cases hv;exact nil rfl)|cases hv
     ·split at hv<;>first|(split at hv<;>first|(cases hv;first|exact⟨cs,h1,h2⟩|exact nil rfl)|cases hv)|cases hv
    ·cases hv
   ·cases hv
   ·split at hv
    ·split at hv
     ·cases hv
     ·split at hv
      ·cases hv;exact⟨cs,h1,h2⟩
      ·cases hv
    ·split at hv
     ·cases hv
     ·split at hv
      ·cases hv;exact nil rfl
      ·cases hv
    ·split at hv
     ·cases hv
     ·split at hv
      ·cases hv;exact nil rfl
      ·cases hv
    ·split at hv
     ·cases hv
     ·split at hv
      ·cases hv;exact nil rfl
      ·cases hv
    ·split at hv
     ·cases hv
     ·split at hv
      ·cases hv;exact nil rfl
      ·cases hv
    ·cases hv
 unfold aSliceC at hv
 split at hv<;>first|exact key hv|cases hv|(split at hv;exact key hv;cases hv)
theorem Pts.iaddr {a:Option Nat} {sz:Nat} {x j v:AV} {bs:List Nat} (hx:Pts x bs) (hv:aIAddr a sz x j=some v):Pts v bs:=by
 obtain⟨cs,h1,h2⟩:=hx
 have nil:∀{v:AV},blks v=some []->Pts v bs:=fun h=>⟨[],h,fun b hb=>by cases hb⟩
 unfold aIAddr at hv
 split at hv
 ·split at hv<;>first|(split at hv<;>first|(cases hv;first|exact⟨cs,h1,h2⟩|exact nil rfl)|cases hv)|cases hv
 ·cases hv
theorem Pts.faddr {off:Nat} {x v:AV} {bs:List Nat} (hx:Pts x bs) (hv:aFAddr off x=some v):Pts v bs:=by
 obtain⟨cs,h1,h2⟩:=hx
 have nil:∀{v:AV},blks v=some []->Pts v bs:=fun h=>⟨[],h,fun b hb=>by cases hb⟩
 unfold aFAddr at hv
 split at hv
 ·cases hv;exact⟨cs,h1,h2⟩
 ·cases hv;exact nil rfl
 ·simp[blks]at h1
 ·cases hv
def HM.gives {α:Type} (R:α->Prop):HM α->Prop
 | .ret a=>R a
 | .fail=>True
 | .look _ k=>∀x,(k x).gives R
 | .put _ _ k=>k.gives R
theorem HM.Qmh {α:Type} {R:α->Prop} (m:HM α):m.gives R->∀h a h1,m.run h=some (a,h1)->R a:=by
 induction m with
 |ret a=>intro hr h b h1 hm;simp only[HM.run,Option.some.injEq,Prod.mk.injEq]at hm;rw[<-hm.1];exact hr
 |fail=>intro _ h b h1 hm;simp[HM.run]at hm
 |look b k ih=>intro hr h a h1 hm;exact ih _ (hr _) h a h1 hm
 |put b x k ih=>intro hr h a h1 hm;exact ih hr _ a h1 (QaF hm).2
theorem Qfs {α:Type} {R:α->Prop} {b g:Nat} {k:List AV->HM α} (hk:∀cs,(k cs).gives R):(HM.cells b g k).gives R:=by
 intro x
 match x with
 |some (.cells g' cs)=>
  simp only
  cases Nat.beq g' g<;>first|exact trivial|exact hk cs
 |some (.map _ _)=>trivial
 |some (.dead _)=>trivial
 |some (.loop ..)=>trivial
 |none=>trivial
theorem QbP {α:Type} {R:α->Prop} {i:Nat} {x:Nat->Blk} {k:Nat->Nat->HM α} (hk:(k i 0).gives R):(HM.new .dyn i x k).gives R:=by
 intro y
 match y with
 |none=>exact hk
 |some z=>trivial
theorem Qmi {R:AV->Prop} {sz:Nat} {v:AV} {k:List AV->Nat->HM AV} (hk:∀ys n,(k ys n).gives R):(aSrc sz v k).gives R:=by
 unfold aSrc
 split
 ·split
  ·refine Qfs fun cs => ?_
   split
   ·exact hk _ _
   ·trivial
  ·trivial
 ·split
  ·exact hk _ _
  ·trivial
 ·exact hk _ _
 ·exact hk _ _
 ·exact hk _ _
 ·split
  ·exact hk _ _
  ·trivial
 ·trivial
theorem Qi0 {sz bytes:Nat} {x y:AV} {a:List Nat} (hx:Pts x a):(aAppend .dyn i sz bytes x y).gives fun v=>Pts v (i::a):=by
 have nil:∀{v:AV},blks v=some []->Pts v (i::a):=fun h=>⟨[],h,fun b hb=>by cases hb⟩
 unfold aAppend
 refine Qmi fun ys n=>?_
 split
 ·obtain ⟨cs, h1, h2⟩ := hx
  split
  ·split
   ·exact nil rfl
   ·exact QbP ⟨_,rfl,fun b hb=>by simp at hb;simp[hb]⟩
  ·split
   ·exact nil rfl
   ·exact QbP ⟨_,rfl,fun b hb=>by simp at hb;simp[hb]⟩
  ·split
   ·exact nil rfl
   ·trivial
  ·simp only [blks, Option.some.injEq] at h1
   subst h1
   split
   ·refine Qfs fun cs => ?_
    split
    ·exact⟨_,rfl,fun b hb=>List.mem_cons_of_mem _ (h2 b hb)⟩
    ·trivial
   ·trivial
  ·trivial
 ·trivial
theorem Qli {s:SOper} {h h1:Heap} {v:AV} {f:FP} {bs:List Nat} (hax:∀x bs,ax x=some bs->Pts (ev T x) bs) (ht:s.op.absV i ax=some bs) (hs:StepV P i s T h v h1 f):Pts v bs:=by
 have self:∀{v:AV},blks v=some [i]->Pts v [i]:=fun h=>⟨_,h,fun b hb=>hb⟩
 have key:∀{s':SOp},s'.absV i ax=some bs->StepX P i s' T h v h1 f->Pts v bs:=by
  rintro s' ht ⟨out,h2,hm,ho⟩
  have hv:∀{m:HM AV},aop i T s'=hval m->(m.gives fun v=>Pts v bs)->Pts v bs:=by
   intro m e hg
   rw[e]at hm
   obtain⟨u,h3,hu,he⟩:=QaA hm
   cases he
   rw[ho.1]
   exact HM.Qmh _ hg _ _ _ hu
  have hl:∀{o:Option AV},aop i T s'=lift o->(∀u,o=some u->Pts u bs)->Pts v bs:=by
   intro o e hg
   rw[e]at hm
   obtain⟨u,hu,he⟩:=QaC hm
   cases he
   rw[ho.1]
   exact hg _ hu
  cases s'<;>try (simp only[SOp.absV,reduceCtorEq]at ht;done)
  ·simp only [aop, HM.run, Option.some.injEq, Prod.mk.injEq] at hm
   obtain⟨rfl,rfl⟩:=hm
   rw[ho.1];exact hax _ _ ht
  ·rename_i s z
   cases s<;>simp only[SOp.absV,reduceCtorEq,Option.some.injEq]at ht
   subst ht
   refine hv rfl ?_
   unfold aBox;split
   ·exact QbP (self rfl)
   ·trivial
  ·rename_i s z
   cases s<;>simp only[SOp.absV,reduceCtorEq,Option.some.injEq]at ht
   subst ht
   refine hv rfl ?_
   unfold aBox;split
   ·exact QbP (self rfl)
   ·trivial
  ·rename_i fz s sz len z ps
   cases fz<;>cases s<;>simp only[SOp.absV,reduceCtorEq,Option.some.injEq]at ht
   subst ht
   refine hv rfl ?_
   unfold aBuildSlice
   split
   ·split
    ·rw[if_neg (by simp)];exact QbP (self rfl)
    ·trivial
   ·trivial
  ·rename_i s
   cases s<;>simp only[SOp.absV,reduceCtorEq,Option.some.injEq]at ht
   subst ht
   exact hv rfl (QbP (self rfl))
  ·rename_i s sz b z l c
   cases s<;>simp only[SOp.absV,reduceCtorEq,Option.some.injEq]at ht
   subst ht
   refine hv rfl ?_
   unfold aMakeSlice
   split
   ·split
    ·exact QbP (self rfl)
    ·trivial
   ·trivial
  ·exact hl rfl fun u hu=>(hax _ _ ht).slice hu
  ·exact hl rfl fun u hu=>(hax _ _ ht).faddr hu
  ·exact hl rfl fun u hu=>(hax _ _ ht).iaddr hu
  ·rename_i s sz b x y
   cases s<;>simp only[SOp.absV,reduceCtorEq,Option.map_eq_some_iff]at ht
   obtain⟨a,ha,rfl⟩:=ht
   exact hv rfl (Qi0 (hax _ _ ha))
 unfold StepV at hs
 split at hs
 ·exact key ht hs
 ·obtain ⟨t, _, hs⟩ := hs
  split at hs
  ·exact key ht hs
  ·obtain⟨rfl,_⟩:=hs;exact⟨[],rfl,fun b hb=>by cases hb⟩
end
def AbsOK (T0:Tmps) (A:Abs) (T:Tmps):Prop:=∀j bs,absT T0 A j=some bs->Pts (lk T j) bs
theorem AbsOK.opd {T0 T:Tmps} {A:Abs} (h:AbsOK T0 A T):∀x bs,absO T0 A x=some bs->Pts (ev T x) bs:=by
 intro x bs hx
 cases x with
 |t i=>exact h i bs hx
 |c v=>exact⟨bs,hx,fun b hb=>hb⟩
 |f n=>cases hx
 |g n=>cases hx
theorem AbsOK.nil {T:Tmps}:AbsOK T [] T:=fun j bs h=>⟨bs,h,fun b hb=>hb⟩
theorem AbsOK.up {T0 T:Tmps} {A:Abs} {d:Nat} {v:AV} {a:Option (List Nat)} (h:AbsOK T0 A T) (hv:∀bs,a=some bs->Pts v bs):AbsOK T0 ((d,a)::A) (up T d v):=by
  intro j bs hj
  rw[lk_up]
  simp only[absT]at hj
  by_cases e:d=j
  · subst e
    have e1:Nat.beq d d=true:=by simp
    rw[e1]at hj
    rw[if_pos rfl]
    exact hv bs hj
  · have : Nat.beq d j = false := by rw [Bool.eq_false_iff]; simpa using e
    rw[this]at hj
    rw[if_neg (fun h=>e h.symm)]
    exact h j bs hj
theorem QkA {T0:Tmps}:∀{r:List SOper} {n:Nat} {A:Abs} {T:Tmps} {h:Heap} {K:Tmps->Heap->Nat->Prop} (hA:AbsOK T0 A T) (K':List FP->Tmps->Heap->Nat->Prop),
  (∀fs T h n',fs.length=r.length->(∀(j:Nat) ts,(touches n T0 r A).getD j none=some ts->(fs.getD j ⟨false,[],[]⟩).all=false/\∀b,b∈(fs.getD j ⟨false,[],[]⟩).R\/b∈(fs.getD j ⟨false,[],[]⟩).W->b∈ts)->K T h n'->K' fs T h n')->
  wpR P n r T h K->wpRF P n r T h K'
 |[],n,A,T,h,K,hA,K',hK,hw=>hK [] T h n rfl (fun j ts hj=>by simp[touches]at hj) hw
 | s :: r, n, A, T, h, K, hA, K', hK, hw => by
  obtain⟨v,h1,f,hs,hr⟩:=hw
  refine⟨v,h1,f,hs,?_⟩
  have hA2:AbsOK T0 (match s.dst with|some d=>(d,s.op.absV n (absO T0 A))::A|none=>A) (putD T s.dst v):=by
   cases s.dst with
   |none=>exact hA
   |some d=>exact AbsOK.up hA fun bs hb=>Qli hA.opd hb hs
  refine QkA hA2 (fun fs T h n=>K' (f::fs) T h n) (fun fs T h n' hl hf hk=>?_) hr
  refine hK (f::fs) T h n' (by simp[hl]) (fun j ts hj=>?_) hk
  cases j with
  |zero=>
   simp only[touches,List.getD_cons_zero]at hj⊢
   exact QjU hA.opd hj hs
  |succ j=>
   simp only[touches,List.getD_cons_succ]at hj⊢
   exact hf j ts hj
inductive PairsOK (n:Nat) (T:Tmps) (ops:List SOper) (ps:List (Nat×Nat)):Prop
 |mk (h:pairsOK (touches n T ops []) ps=true)
theorem Qgr {N:NM} {ops:List SOper} {p:Nat×Nat} {ps:List (Nat×Nat)} {dead:List Nat} {fs:List Fr} {n:Nat} {T:Tmps} {h:Heap} {Q:QC} (hp:PairsOK n T ops (p::ps)):
  wS P N (.region ops (p::ps) dead) fs n T h Q=wR P N ops dead fs n T h Q:=by
 obtain⟨hp⟩:=hp
 apply propext;constructor
 ·intro hw
  have:∀{r:List SOper} {n:Nat} {T:Tmps} {h:Heap} {K:List FP->Tmps->Heap->Nat->Prop} {K':Tmps->Heap->Nat->Prop},(∀fs T h n,K fs T h n->K' T h n)->wpRF P n r T h K->wpR P n r T h K':=by
   intro r
   induction r with
   |nil=>intro n T h K K' hK hw;exact hK _ _ _ _ hw
   |cons s r ih=>
    rintro n T h K K' hK ⟨v,h1,f,hs,hr⟩
    exact⟨v,h1,f,hs,ih (fun fs T h n hk=>hK _ _ _ _ hk) hr⟩
  exact this (fun fs' T h n hk=>hk.2) hw
 ·intro hw
  refine QkA AbsOK.nil _ (fun fs' T h n' hl hf hk=>⟨?_,hk⟩) hw
  rw[List.all_eq_true]
  intro q hq
  have:=List.all_eq_true.1 hp q hq
  split at this
  ·rename_i a b ha hb
   obtain⟨f1,f2⟩:=hf _ _ ha
   obtain⟨g1,g2⟩:=hf _ _ hb
   have hd:∀x y,x∈a->y∈b->x≠y:=by
    rintro x y hx hy rfl
    have:=List.all_eq_true.1 this x hx
    simp[hy]at this
   have dj:∀xs ys:List Nat,(∀x∈xs,∀y∈ys,x≠y)->disj xs ys=true:=by
    intro xs ys hh
    unfold disj
    rw[List.all_eq_true]
    intro x hx
    simp only[Bool.not_eq_true',List.contains_eq_mem,decide_eq_false_iff_not]
    intro hy
    exact hh x hx x hy rfl
   unfold FP.apart
   rw[f1,g1]
   simp only[Bool.and_eq_true]
   refine⟨⟨dj _ _ fun x hx y hy=>?_,dj _ _ fun x hx y hy=>?_⟩,dj _ _ fun x hx y hy=>?_⟩
   ·first|exact hd x y (f2 x (.inr hx)) (g2 y (.inl hy))|exact fun e=>hd y x (f2 y (.inl hy)) (g2 x (.inr hx)) e.symm
   ·first|exact hd x y (f2 x (.inr hx)) (g2 y (.inr hy))|exact fun e=>hd y x (f2 y (.inr hy)) (g2 x (.inr hx)) e.symm
   ·first|exact fun e=>hd y x (f2 y (.inl hy)) (g2 x (.inr hx)) e.symm|exact fun e=>hd y x (f2 y (.inr hy)) (g2 x (.inl hx)) e.symm|exact hd x y (f2 x (.inl hx)) (g2 y (.inr hy))
  ·cases this
theorem FrzL.nil {h:Heap}:FrzL h [] []:=trivial
theorem FrzL.cons {h:Heap} {x y:AV} {xs ys:List AV} (h1:FrzTo h x y) (h2:FrzL h xs ys):FrzL h (x::xs) (y::ys):=⟨h1,h2⟩
end Go.AM
namespace Go.AM
variable {P:Program}
def setL:HL->Heap->Heap
 |[],h=>h
 |(k,x)::r,h=>(setL r h).set k x
theorem Qi1 {h:Heap}:setL [] h=h:=rfl
theorem QhM {k:Nat} {x:Blk} {r:HL} {h:Heap}:setL ((k,x)::r) h=(setL r h).set k x:=rfl
theorem Qi2 {b:Nat} {h:Heap} (hf:Fresh b h):∀{L:HL},(L.all fun p=>Nat.ble b p.1&&Nat.blt p.1 1099511627775)=true->∀k,(setL L h).get k=if k<b then h.get k else(hp L).get k
 |[],_,k=>by
  simp only[setL,hp]
  split
  ·rfl
  ·rw[hf k (by omega),get_e]
 | (j, x) :: r, hL, k => by
  simp only[List.all_cons,Bool.and_eq_true,Nat.ble_eq,Nat.blt_eq]at hL
  obtain⟨⟨h1,h2⟩,h3⟩:=hL
  have ih:=Qi2 hf (L:=r) (by simpa using h3) k
  simp only[setL,hp]
  by_cases e:k=j
  ·subst e
   rw[QaT h2,QaT h2,if_neg (by omega)]
  ·rw[Qa2 h2 e,Qa2 h2 e,ih]
theorem HSpec.of_O {f b:Nat} {args:List AV} {v:AV} {h:Heap} {L:HL} (hn:noRefs args=true) (hs:HSpec P f args .e v (hp L)) (hf:Fresh b h) (hL:(L.all fun p=>Nat.ble b p.1&&Nat.blt p.1 1099511627775)=true):HSpec P f args h v (setL L h):=by
 obtain⟨hc,hs⟩:=hs
 refine⟨hc,fun c w cargs H ha=>?_⟩
 refine(hs (only c.F) w cargs (HRel.only H.inF) (VRels.noRef (c:=c) (c':=only c.F) (fun _ h=>h) _ _ hn ha)).mono ?_
 rintro e w' ⟨cv,c',rfl,E,H',V⟩
 have hnewO:∀k,c'.O k->w.heap.size<=k:=fun k hO=>(E.own k hO).elim (fun h=>h.elim) id
 have hnewF:∀k,c'.F k->c.F k\/w.heap.size<=k:=fun k hF=>(E.frzNew k hF).elim .inl fun h=>h.elim (fun h=>h.elim) .inr
 have hkeep:∀k,k<w.heap.size->w'.heap[k]?=w.heap[k]?:=fun k hk=>E.keep k hk (fun h=>h)
 have hg:=Qi2 hf hL
 have hlow:∀k,(hp L).get k≠none->b<=k:=fun k hk=>by
  rcases Nat.lt_or_ge k b with h1|h1
  ·exfalso
   apply hk
   have:∀{M:HL},(M.all fun p=>Nat.ble b p.1&&Nat.blt p.1 1099511627775)=true->(hp M).get k=none:=by
    intro M
    induction M with
    |nil=>intro _;exact get_e
    |cons q M ih=>
     obtain⟨j,x⟩:=q
     intro hM
     simp only[List.all_cons,Bool.and_eq_true,Nat.ble_eq,Nat.blt_eq]at hM
     rw[Qca,Qa2 hM.1.2 (by omega)];exact ih (by simpa using hM.2)
   exact this hL
  ·exact h1
 have hrlow:∀k g,k<b->c'.ρ k g=none:=fun k g hk=>by
  have:(hp L).get k=none:=by
   cases hq:(hp L).get k with
   |none=>rfl
   |some x=>exact absurd (hlow k (by rw[hq];simp)) (by omega)
  exact H'.fresh k this g
 have hrhigh:∀k g,b<=k->c.ρ k g=none:=fun k g hk=>H.fresh k (hf k hk) g
 let c2:Ctx (okc P):={ρ:=fun k g=>if k<b then c.ρ k g else c'.ρ k g,F:=c'.F,O:=fun k=>c.O k\/c'.O k,base:=c.base}
 have hr1:∀k g,k<b->c2.ρ k g=c.ρ k g:=fun k g hk=>if_pos hk
 have hr2:∀k g,b<=k->c2.ρ k g=c'.ρ k g:=fun k g hk=>if_neg (by omega)
 have hx1:∀k g p,c.ρ k g=some p->c2.ρ k g=some p:=fun k g p hp=>by
  rcases Nat.lt_or_ge k b with h1|h1
  ·rw[hr1 k g h1];exact hp
  ·rw[hrhigh k g h1]at hp;cases hp
 have hx2:∀k g p,c'.ρ k g=some p->c2.ρ k g=some p:=fun k g p hp=>by
  rcases Nat.lt_or_ge k b with h1|h1
  ·rw[hrlow k g h1]at hp;cases hp
  ·rw[hr2 k g h1];exact hp
 have E2:Evo c w c2 w':=⟨E.os,E.tape,E.output,E.size,E.shape,fun k hk _=>hkeep k hk,hx1,fun k hk=>E.frz k hk,fun k hk=>(hnewF k hk).elim .inl fun h=> .inr (.inr h),fun k hk=>hk.elim .inl fun h=> .inr (hnewO k h),rfl⟩
 have X2:Ext c' w' c2 w':=⟨hx2,fun _ h=>h,fun k _ _ h=>h,fun k C e fr h=>⟨C,fr,h,rfl⟩⟩
 refine⟨cv,c2,rfl,E2,?_,VRel.mono X2 _ _ V⟩
 refine⟨fun k hk g=>?_,fun k x hk g hlt=>?_,fun k x hk=>?_,?_,fun k hF hO=>?_,fun k hF=>H'.inF k hF,fun k hO=>hO.elim (fun h=>Nat.lt_of_lt_of_le (H.inO k h) E.size) (H'.inO k)⟩
 ·rw [hg k] at hk
  split at hk
  ·rename_i h1;rw[hr1 k g h1];exact H.fresh k hk g
  ·rename_i h1;rw[hr2 k g (by omega)];exact H'.fresh k hk g
 ·rw [hg k] at hk
  split at hk
  ·rename_i h1;rw[hr1 k g h1];exact H.later k x hk g hlt
  ·rename_i h1;rw[hr2 k g (by omega)];exact H'.later k x hk g hlt
 ·rw [hg k] at hk
  split at hk
  ·refine BRel.mono (E2.ext H.disj) (fun cb base hd hp => ?_) (H.blk k x hk)
   have hO:=H.owned ⟨x,hk,rfl,hd⟩ hp
   exact⟨.inl hO,hkeep cb (H.inO _ hO)⟩
  ·refine BRel.mono X2 (fun cb base hd hp => ?_) (H'.blk k x hk)
   have hO:=H'.owned ⟨x,hk,rfl,hd⟩ hp
   exact⟨.inr hO,rfl⟩
 ·intro b1 g1 b2 g2 cb base1 base2 l1 l2 p1 p2
  have key:∀k g base,Live (setL L h) k g->c2.ρ k g=some (.loc cb base)->(k<b/\Live h k g/\c.ρ k g=some (.loc cb base)/\cb<w.heap.size)\/(b<=k/\Live (hp L) k g/\c'.ρ k g=some (.loc cb base)/\w.heap.size<=cb):=by
   rintro k g base ⟨x,hk,rfl,hd⟩ hp
   rw[hg k]at hk
   split at hk
   ·rename_i h1
    rw[hr1 k _ h1]at hp
    exact .inl ⟨h1,⟨x,hk,rfl,hd⟩,hp,H.inO _ (H.owned ⟨x,hk,rfl,hd⟩ hp)⟩
   ·rename_i h1
    rw[hr2 k _ (by omega)]at hp
    exact .inr ⟨by omega,⟨x,hk,rfl,hd⟩,hp,hnewO _ (H'.owned ⟨x,hk,rfl,hd⟩ hp)⟩
  rcases key b1 g1 base1 l1 p1 with⟨k1,k2,k3,k4⟩|⟨k1,k2,k3,k4⟩<;>rcases key b2 g2 base2 l2 p2 with⟨j1,j2,j3,j4⟩|⟨j1,j2,j3,j4⟩
  ·exact H.inj _ _ _ _ _ _ _ k2 j2 k3 j3
  ·omega
  ·omega
  ·exact H'.inj _ _ _ _ _ _ _ k2 j2 k3 j3
 ·rcases hO with hO | hO
  ·rcases hnewF k hF with h1 | h1
   ·exact H.disj k h1 hO
   ·have:=H.inO k hO;omega
  ·exact H'.disj k hF hO
theorem HSpec.Qgs {f:Nat} {sf:SFn} {args:List AV} {v:AV} {L:HL} (n:Nat) (hok:okFn P f sf=true) (hl:Nat.ble args.length sf.n=true)
  (hw:wS P ⟨sf.n,0⟩ sf.body [] n (argT 0 args) .e fun e T k _=>(e= .normal\/e= .ret)/\∃vs,resV T k sf.res=some vs/\Rec 0 [(0,v)] L [(0,resOf vs)] k):HSpec P f args .e v (hp L):=by
 refine HSpec.of_W2 (m:=0) hok (Nat.le_of_ble_eq_true hl) (fun b _=>get_e) ((wpC.toW hw).mono ?_)
 rintro e B ⟨n',h1,vs,h2,ps,ho,hro,hb,ht⟩
 exact⟨h1,vs,_,h2,Rec.maps ho hb,Rec.heap ho hb,Rec.dom ho hro,ht 0⟩
end Go.AM
namespace Go.AM
theorem wV:type_of% @words/\type_of% @wordsN/\type_of% @wordsR/\type_of% @Qgr/\type_of% @Qfn/\type_of% @QdH/\type_of% @Qfo/\type_of% @Qfp/\type_of% @Qfq/\type_of% @Qgo/\type_of% @Qgp/\type_of% @Qgq/\type_of% @QhM/\type_of% @Qi1/\type_of% @SX.exit.injEq/\type_of% @if_true.{1}/\type_of% @if_false.{1}/\type_of% @ne_eq.{1}:=
 ⟨@words,@wordsN,@wordsR,@Qgr,@Qfn,@QdH,@Qfo,@Qfp,@Qfq,@Qgo,@Qgp,@Qgq,@QhM,@Qi1,@SX.exit.injEq,@if_true,@if_false,@ne_eq⟩
theorem gg {p:Prop} (h:p:=by first|(simp(disch:=omega) only[QaT,Qa2,Qca];done)|(simp(disch:=omega) only[QaT,Qa2,Qca];rfl)):p:=h
end Go.AM
namespace Go.AM
variable {P:Program}
section
variable {h:Heap}
end
section
variable {h:Heap}
theorem FrzTo.fn {f:Nat} {xs ys us vs:List AV} (hL:FrzL h xs ys) (hK:FrzL h us vs):FrzTo h (.fn f xs us) (.fn f ys vs):=fun _ c w v H hv=>by
 simp only[VRel]at hv⊢
 obtain⟨x',y',rfl,h1,h2⟩:=hv
 exact⟨x',y',rfl,hL.rels H h1,hK.rels H h2⟩
theorem FrzTo.ptr {b g off:Nat} {cs ys:List AV} (hb:h.get b=some (.cells g cs)) (hL:FrzL h (cs.drop off) ys):FrzTo h (.ptr b g off) (.fptr ys):=fun _ c w v H hv=>by
 simp only[VRel]at hv
 obtain⟨cb,base,hp,rfl⟩:=hv
 obtain⟨C',e',fr',hO,hC',hfr,hbs,hpre⟩:=H.here hb hp
 have hp2:=QaY off hpre
 rw[List.drop_drop]at hp2
 simp only[VRel]
 exact⟨cb,base+off,C',e',fr',rfl,.inr hO,hC',hL.pre H hp2⟩
theorem HSpec.lend {f:Nat} {args bs:List AV} {v:AV} (hL:FrzL h args bs) (hp:PSpec P f bs v) (hv:flatV v=true):HSpec P f args h v h:=by
 obtain⟨h',hc,_⟩:=hp.2.2
 exact⟨hc,fun c w cargs H ha=>(hp.borrow hv H (hL.rels H ha)).2⟩
end
end Go.AM
namespace Go.AM
variable {P:Program}
section
variable {N:NM} {n:Nat} {d:Option Nat} {af dead:List Nat} {r:List SOper} {T:Tmps} {h:Heap} {Q:QC} {fs:List Fr}
end
end Go.AM
namespace Go.AM
variable {P:Program}
end Go.AM
namespace Go.AM
end Go.AM
namespace Go.AM
variable {P:Program}
end Go.AM
namespace Go.AM
variable {P:Program} {N:NM} {n:Nat} {d:Option Nat} {af dead:List Nat} {r:List SOper} {T:Tmps} {h:Heap} {Q:QC} {fs:List Fr}
def wAn (P:Program) (N:NM) (ys:Option (List AV)) (len sz bytes:Nat) (d:Option Nat) (ops:List SOper) (dead:List Nat) (fs:List Fr) (n:Nat) (T:Tmps) (h:Heap) (Q:QC):Prop:=
 ∃y,ys=some y/\(len*bytes<=1099511627776/\len<=1099511627776)/\y.all AV.one=true/\wN P N y (.sl n 0 0 len sz) d ops dead fs n T h Q
theorem Qi3 {sz bytes b g off len:Nat} (hl:0<len):wM P N (aAppend .dyn n sz bytes .nilsl (.sl b g off len sz)) d r dead fs n T h Q=wAn P N (srcB (h.get b) g off len sz) len sz bytes d r dead fs n T h Q:=by
 obtain⟨k,rfl⟩:∃k,len=k+1:=⟨len-1,by omega⟩
 rw[QjT]
 rfl
theorem Qnl {ys:List AV} {len sz bytes:Nat} (h1:len*bytes<=1099511627776) (h2:len<=1099511627776):wAn P N (some ys) len sz bytes d r dead fs n T h Q=if ys.all AV.one=true then wN P N ys (.sl n 0 0 len sz) d r dead fs n T h Q else False:=by
 by_cases ho:ys.all AV.one=true
 ·rw [if_pos ho]; apply propext; constructor
  ·rintro⟨y,e1,_,_,h5⟩;cases e1;exact h5
  ·intro h5;exact⟨ys,rfl,⟨h1,h2⟩,ho,h5⟩
 ·rw [if_neg ho]; apply propext; constructor
  ·rintro⟨y,e1,_,h4,h5⟩;cases e1;exact ho h4
  ·exact fun h=>h.elim
end Go.AM
namespace Go.AM
end Go.AM
namespace Go.AM
theorem Rn.nilK {m:Nat} {π:Nat->Option Src} {h:Heap} {sz:Nat}:Rn m π h (.fsl [] 0 sz) .nilsl:=fun _ c w v H M hv=>by
 simp only[VRel]at hv⊢
 exact .inl ⟨⟨none,hv⟩,trivial,trivial⟩
end Go.AM
namespace Go.AM
variable {P:Program}
section
variable {N:NM} {n:Nat} {T L:Tmps} {h:Heap} {Q:QC} {fs:List Fr} {b2:Nat} {G:Prop}
end
end Go.AM
namespace Go.AM
variable {P:Program}
section
variable {N:NM} {n:Nat} {d:Option Nat} {af dead:List Nat} {r:List SOper} {T:Tmps} {h:Heap} {Q:QC} {fs:List Fr}
theorem QeN (hl:n<1099511627775):wM P N (aMakeMap .dyn n) d r dead fs n T h Q=if h.get n=none then wR P N r dead fs (n+1) (putD T d (.map n 0)) (h.set n (.map 0 [])) Q else False:=by
 have hl':Nat.blt n lim=true:=by simp[Nat.blt];unfold lim;omega
 apply propext;constructor
 ·rintro ⟨v', h1, hm, hk⟩
  unfold aMakeMap HM.new at hm
  simp only[HM.run]at hm
  cases hn:h.get n with
  |none=>
   rw[hn]at hm
   obtain⟨hl,hm⟩:=QaF hm
   simp only[HM.run,Option.some.injEq,Prod.mk.injEq]at hm
   obtain⟨rfl,rfl⟩:=hm
   rw[if_pos rfl];exact hk
  |some z=>rw[hn]at hm;cases hm
 ·split
  ·rename_i hn
   intro hk
   refine⟨_,_,?_,hk⟩
   unfold aMakeMap HM.new
   simp only[HM.run,hn]
   rw[hl'];rfl
  ·exact fun h=>h.elim
def keyM (k:IntKind) (v:AV) (l:List Nat):List (AV×AV):=l.map fun x:Nat=>(.int k (x:Int),v)
theorem RnM.keyM {m:Nat} {π:Nat->Option Src} {h:Heap} {k:IntKind} {v:AV} (hv:noRef v=true):∀{l:List Nat},RnM m π h (keyM k v l) (keyM k v l)
 |[]=>trivial
 |x::l=>⟨⟨Rn.same rfl,Rn.same hv⟩,RnM.keyM hv (l:=l)⟩
end
theorem wordsM:AV.nilmap.boxable=true/\AV.nilmap.cells=[.nilmap]/\(∀b g,(AV.map b g).cells=[.map b g])/\(∀b g,(AV.map b g).one=true)/\(∀b g,(AV.map b g).boxable=true)/\AV.nilmap.one=true:=
 ⟨rfl,rfl,fun _ _=>rfl,fun _ _=>rfl,fun _ _=>rfl,rfl⟩
theorem HSpec.QoL {f m:Nat} {sf:SFn} {args:List AV} {L0 L:HL} {v:AV} (n:Nat) (hok:okFn P f sf=true) (hl:Nat.ble args.length sf.n=true) (hm:(Nat.ble m 1099511627775&&L0.all fun p=>Nat.blt p.1 m)=true)
  (hv:noRef v=true) (hw:wS P ⟨sf.n,m⟩ sf.body [] n (argT 0 args) (hp L0) fun e T k _=>(e= .normal\/e= .ret)/\∃vs,resV T k sf.res=some vs/\resOf vs=v/\Rec m [] L T k):HSpec P f args (hp L0) v (hp L):=by
 simp only[Bool.and_eq_true,Nat.ble_eq]at hm
 refine HSpec.of_W2 hok (Nat.le_of_ble_eq_true hl) (fun b hb=>?_) ((wpC.toW hw).mono ?_)
 ·have : ∀ M : HL, M.all (fun p => Nat.blt p.1 m) = true -> (hp M).get b = none := by
   intro M
   induction M with
   |nil=>intro _;exact get_e
   |cons q M ih=>
    obtain⟨j,x⟩:=q
    intro hM
    simp only[List.all_cons,Bool.and_eq_true,Nat.blt,Nat.ble_eq]at hM
    rw[Qca,Qa2 (by omega) (by omega)];exact ih (by simpa[Nat.blt]using hM.2)
  exact this L0 hm.2
 ·rintro e B ⟨n', h1, vs, h2, h3, ps, ho, hro, hb, ht⟩
  exact⟨h1,vs,_,h2,Rec.maps ho hb,Rec.heap ho hb,Rec.dom ho hro,by rw[h3];exact Rn.same hv⟩
end Go.AM
namespace Go.AM
variable {P:Program}
end Go.AM
namespace Go.AM
variable {P:Program}
theorem HSpec.empty {f sz:Nat} {asg:List AV} {h h':Heap} {v:AV} (h1:HSpec P f (.nilsl::asg) h v h') (h2:HSpec P f (.nsl::asg) h v h'):HSpec P f (.fsl [] 0 sz::asg) h v h':=by
 obtain⟨hc,h1⟩:=h1
 obtain⟨_,h2⟩:=h2
 refine⟨hc,fun c w cargs H ha=>?_⟩
 simp only[VRels]at ha
 obtain⟨u,us,e,hv,hr⟩:=ha
 simp only[VRel]at hv
 rcases hv with⟨⟨a,rfl⟩,_⟩|⟨cb,off,cap,C,_,_,rfl,_⟩
 ·cases a with
  |none=>exact h1 c w cargs H (by rw[e];simp only[VRels];exact⟨_,_,rfl,by simp[VRel],hr⟩)
  |some a=>exact h2 c w cargs H (by rw[e];simp only[VRels];exact⟨_,_,rfl,by simp[VRel],hr⟩)
 ·exact h2 c w cargs H (by rw[e];simp only[VRels];exact⟨_,_,rfl,by simp[VRel],hr⟩)
end Go.AM
namespace Go.AM
end Go.AM
namespace Go.AM
variable {P:Program}
theorem HSpec.freeze {f b g len sz : Nat} {args ds : List AV} {h h1 : Heap} (S : HSpec P f args h (.sl b g 0 len sz) h1) (hb : h1.get b = some (.cells g ds)) (hf : flatVs ds = true) (hl : len * sz <= ds.length)
    (hlim:Nat.blt b 1099511627775=true):HSpec P f args h (.fsl (ds.take (len*sz)) len sz) (h1.set b (.dead g)):=by
  have hlim':b<1099511627775:=by simpa using hlim
  obtain⟨hc,hs⟩:=S
  refine⟨hc,fun c w cargs H ha=>(hs c w cargs H ha).mono ?_⟩
  rintro e w' ⟨cv,c',rfl,E,H',V⟩
  have hlive:Live h1 b g:=⟨_,hb,rfl,fun _=>by simp⟩
  let c2:Ctx (okc P):={c' with F:=fun k=>c'.F k\/∃base,c'.ρ b g=some (.loc k base),O:=fun k=>c'.O k/\¬∃base,c'.ρ b g=some (.loc k base)}
  have hset:∀k,(h1.set b (.dead g)).get k=if k=b then some (.dead g)else h1.get k:=fun k=>by
    by_cases e:k=b
    · subst e;rw[QaT hlim',if_pos rfl]
    · rw[Qa2 hlim' e,if_neg e]
  have hlv:∀k y,Live (h1.set b (.dead g)) k y->k≠b/\Live h1 k y:=by
    rintro k y ⟨x,hk,hg,hd⟩
    rw[hset]at hk
    split at hk
    · cases hk;exact absurd rfl (hd g)
    · rename_i e;exact⟨e,x,hk,hg,hd⟩
  have E2:Evo c w c2 w':=⟨E.os,E.tape,E.output,E.size,E.shape,E.keep,E.rho,fun k hk=> .inl (E.frz k hk),fun k hk=>by
    rcases hk with hk|⟨base,hk⟩
    · exact E.frzNew k hk
    · rcases E.own k (H'.owned hlive hk) with h | h
      · exact .inr (.inl h)
      · exact .inr (.inr h),fun k hk=>E.own k hk.1,E.base⟩
  refine⟨cv,c2,rfl,E2,⟨fun k hk y=>?_,fun k x hk y hlt=>?_,fun k x hk=>?_,fun k y k' y' cb base base' l1 l2 p1 p2=>H'.inj k y k' y' cb base base' (hlv _ _ l1).2 (hlv _ _ l2).2 p1 p2,fun k hF hO=>?_,fun k hF=>?_,fun k hO=>H'.inO k hO.1⟩,?_⟩
  · rw [hset] at hk
    split at hk
    · cases hk
    · exact H'.fresh k hk y
  · rw [hset] at hk
    split at hk
    · rename_i e; subst e; cases hk
      exact H'.later k _ hb y hlt
    · exact H'.later k x hk y hlt
  · rw [hset] at hk
    split at hk
    · cases hk;trivial
    · rename_i e
      refine BRel.mono (c:=c') (c':=c2) (w:=w') (w':=w') ⟨fun _ _ _ h=>h,fun _ h=> .inl h,fun _ _ _ h=>h,fun _ C _ fr h=>⟨C,fr,h,rfl⟩⟩ (fun cb base hd hp=>?_) (H'.blk k x hk)
      have hlk:Live h1 k x.gen:=⟨x,hk,rfl,hd⟩
      exact⟨⟨H'.owned hlk hp,fun⟨base',hp'⟩=>e (H'.inj _ _ _ _ _ _ _ hlk hlive hp hp')⟩,rfl⟩
  · rcases hF with hF | hF
    · exact H'.disj k hF hO.1
    · exact hO.2 hF
  · rcases hF with hF | ⟨base, hF⟩
    · exact H'.inF k hF
    · exact H'.inO k (H'.owned hlive hF)
  · simp only [VRel] at V
    rcases V with⟨hp,rfl,_,rfl⟩|⟨cb,base,o,cap,C,e,fr,hp,rfl,hlc,hC,hcap⟩
    · simp only[VRel];exact .inl (by simp)
    · obtain ⟨C', e', fr', hO, hC', hfr, hbs, hpre⟩ := H'.here hb hp
      rw[hC]at hC';cases hC'
      have hF:c2.F cb:= .inr ⟨base,hp⟩
      by_cases h0:cap=0
      · have hl0 : len = 0 := by omega
        subst hl0
        simp only[VRel]
        exact .inr ⟨cb,o,cap,C,e,fr,rfl,hlc,by simp,hF,hC,by simp[VPre]⟩
      · obtain ⟨rfl, hbd⟩ := hcap.resolve_left h0
        have hp2:=VPre.flat (c':=c2) (w':=w') hf hpre
        have hp3:=VPre_take2 (len*sz) hp2
        simp only[VRel]
        exact .inr ⟨cb,_,cap,C,e,fr,rfl,hlc,by rw[List.length_take];omega,hF,hC,by simpa using hp3⟩
where
  VPre_take2 {c:Ctx (okc P)} {w:World}:∀(n:Nat) {xs:List AV} {vs:List Value},VPre c w xs vs->VPre c w (xs.take n) vs
    |0,xs,vs,h=>by simp[VPre]
    |n+1,[],vs,h=>by simp[VPre]
    | n + 1, x :: xs, vs, h => by
      simp only[VPre]at h
      obtain⟨v,vs',rfl,h1,h2⟩:=h
      simp only[List.take_succ_cons,VPre]
      exact⟨v,vs',rfl,h1,VPre_take2 n h2⟩
end Go.AM
namespace Go.AM
variable {P:Program}
def OnlyD (D:Nat->Prop) (args:List AV):Prop:=∀(ok:Okc) (c c1:Ctx ok) (w:World) (vs:List Value),(∀b g,D b->c1.ρ b g=c.ρ b g)->(∀k,c.F k->c1.F k)->VRels c w args vs->VRels c1 w args vs
theorem OnlyD.nil {D:Nat->Prop}:OnlyD D []:=fun _ c c1 w vs _ _ h=>by simpa[VRels]using h
theorem OnlyD.cons {D:Nat->Prop} {x:AV} {xs:List AV} (hx:OnlyD D [x]) (h:OnlyD D xs):OnlyD D (x::xs):=fun ok c c1 w vs h1 h2 hv=>by
 simp only[VRels]at hv⊢
 obtain⟨v,vs',rfl,h3,h4⟩:=hv
 have:=hx ok c c1 w [v] h1 h2 (by simp only[VRels];exact⟨_,_,rfl,h3,rfl⟩)
 simp only[VRels]at this
 obtain⟨v2,vs2,e,h5,_⟩:=this
 cases e
 exact⟨v,vs',rfl,h5,h _ c c1 w vs' h1 h2 h4⟩
theorem OnlyD.same {D:Nat->Prop} {x:AV} (hn:noRef x=true):OnlyD D [x]:=fun _ c c1 w vs h1 h2 hv=>by
 simp only[VRels]at hv⊢
 obtain⟨v,vs',rfl,h3,h4⟩:=hv
 exact⟨v,vs',rfl,VRel.noRef h2 _ _ hn h3,h4⟩
theorem OnlyD.sl {D:Nat->Prop} {b g off len sz:Nat} (hb:D b):OnlyD D [.sl b g off len sz]:=fun _ c c1 w vs h1 h2 hv=>by
 simp only[VRels]at hv⊢
 obtain⟨v,vs',rfl,h3,h4⟩:=hv
 refine⟨v,vs',rfl,?_,h4⟩
 simp only[VRel]at h3⊢
 rcases h3 with⟨g1,g2⟩|⟨cb,base,o,cap,C,e,fr,g1,g2,g3,g4,g5⟩
 ·exact .inl ⟨(h1 _ _ hb).trans g1,g2⟩
 ·exact .inr ⟨cb,base,o,cap,C,e,fr,(h1 _ _ hb).trans g1,g2,g3,g4,g5⟩
theorem OnlyD.ptr {D:Nat->Prop} {b g off:Nat} (hb:D b):OnlyD D [.ptr b g off]:=fun _ c c1 w vs h1 h2 hv=>by
 simp only[VRels]at hv⊢
 obtain⟨v,vs',rfl,h3,h4⟩:=hv
 refine⟨v,vs',rfl,?_,h4⟩
 simp only[VRel]at h3⊢
 obtain⟨cb,base,g1,g2⟩:=h3
 exact⟨cb,base,(h1 _ _ hb).trans g1,g2⟩
theorem OnlyD.fn {D:Nat->Prop} {f:Nat} {xs ys:List AV} (hx:OnlyD D xs) (hy:OnlyD D ys):OnlyD D [.fn f xs ys]:=fun ok c c1 w vs h1 h2 hv=>by
 simp only[VRels]at hv⊢
 obtain⟨v,vs',rfl,h3,h4⟩:=hv
 refine⟨v,vs',rfl,?_,h4⟩
 simp only[VRel]at h3⊢
 obtain⟨x',y',rfl,g1,g2⟩:=h3
 exact⟨x',y',rfl,hx ok c c1 w _ h1 h2 g1,hy ok c c1 w _ h1 h2 g2⟩
theorem OnlyD.map {D:Nat->Prop} {b g:Nat} (hb:D b):OnlyD D [.map b g]:=fun _ c c1 w vs h1 h2 hv=>by
 simp only[VRels]at hv⊢
 obtain⟨v,vs',rfl,h3,h4⟩:=hv
 refine⟨v,vs',rfl,?_,h4⟩
 simp only[VRel]at h3⊢
 obtain⟨cb,g1,g2⟩:=h3
 exact⟨cb,(h1 _ _ hb).trans g1,g2⟩
def NoRefB:Blk->Prop
 | .cells _ cs=>noRefs cs=true
 | .map _ es=>∀e∈es,noRef e.1=true/\noRef e.2=true
 | .dead _=>True
 |_=>False
theorem VPre.noRef2 {ok:Okc} {c c':Ctx ok} {w:World} (hF:∀k,c.F k->c'.F k) {xs:List AV} {vs:List Value} (hn:noRefs xs=true) (h:VPre c w xs vs):VPre c' w xs vs:=VPre.noRef hF _ _ hn h
theorem MRel.noRef2 {ok:Okc} {c c':Ctx ok} {w:World} (hF:∀k,c.F k->c'.F k):∀{xs:List (AV×AV)} {es:List MapEntry} {clock:Nat},(∀e∈xs,noRef e.1=true/\noRef e.2=true)->MRel c w xs es clock->MRel c' w xs es clock
 |[],_,_,_,h=>h
 |(k,x)::r,es,clock,hn,h=>by
  obtain⟨e,es',h1,h2,h3,h4,h5,h6⟩:=h
  obtain⟨q1,q2⟩:=hn (k,x) (by simp)
  exact⟨e,es',h1,VRel.noRef hF _ _ q1 h2,VRel.noRef hF _ _ q2 h3,h4,h5,MRel.noRef2 hF (fun e he=>hn e (by simp[he])) h6⟩
theorem NoRefB.rel {ok:Okc} {c c':Ctx ok} {w:World} {b:Nat} {x:Blk} (hx:NoRefB x) (hF:∀k,c.F k->c'.F k) (hr:∀g,c'.ρ b g=c.ρ b g) (hO:∀k g base,c.ρ b g=some (.loc k base)->(∀j,x≠ .dead j)->x.gen=g->c.O k->c'.O k) (h:BRel c w b x):BRel c' w b x:=by
 cases x with
 |dead g=>trivial
 |map g es=>
  obtain⟨cb,es',clock,h1,h2,h3,h4⟩:=h
  exact⟨cb,es',clock,(hr _).trans h1,hO cb g 0 h1 (fun _=>by simp) rfl h2,h3,MRel.noRef2 hF hx h4.1,h4.2⟩
 |loop=>exact hx.elim
 |cells g cs=>
  rcases h with⟨h1,h2⟩|⟨cb,base,C,e,fr,h1,h2,h3,h4,h5,h6⟩
  ·exact .inl ⟨(hr _).trans h1,h2⟩
  ·exact .inr ⟨cb,base,C,e,fr,(hr _).trans h1,hO cb g base h1 (fun _=>by simp) rfl h2,h3,h4,h5,VPre.noRef2 hF hx h6⟩
theorem HSpec.frame {f : Nat} {args : List AV} {v : AV} {h h1 h1' h' : Heap} (D : Nat -> Prop) [DecidablePred D] (hs : HSpec P f args h1 v h1') (ha : OnlyD D args) (hv : OnlyD D [v])
    (e1:∀k,h1.get k=if D k then h.get k else none) (e2:∀k,¬D k->h1'.get k=none) (e3:∀k,h'.get k=if D k then h1'.get k else h.get k)
    (n1:∀k x,h1.get k=some x->NoRefB x) (n2:∀k x,h1'.get k=some x->NoRefB x):HSpec P f args h v h':=by
  obtain⟨hc,hs⟩:=hs
  refine⟨hc,fun c w cargs H hargs=>?_⟩
  let c1:Ctx (okc P):={ρ:=fun k y=>if D k then c.ρ k y else none,F:=c.F,O:=fun k=>∃b g base,D b/\Live h b g/\c.ρ b g=some (.loc k base),base:=c.base}
  have hr1:∀b y,D b->c1.ρ b y=c.ρ b y:=fun b y hb=>if_pos hb
  have hO1:∀k,c1.O k->c.O k:=fun k ⟨b,g,base,_,hl,hk⟩=>H.owned hl hk
  have hg1:∀{k x},h1.get k=some x->D k/\h.get k=some x:=fun{k x} hk=>by
    rw[e1]at hk
    split at hk
    · rename_i hd;exact⟨hd,hk⟩
    · cases hk
  have hl1:∀{k y},Live h1 k y->D k/\Live h k y:=fun{k y} ⟨x,hk,hx,hd⟩=>⟨(hg1 hk).1,x,(hg1 hk).2,hx,hd⟩
  have H1:HRel c1 h1 w:=by
    refine⟨fun k hk y=>?_,fun k x hk y hlt=>?_,fun k x hk=>?_,fun k y k' y' cb base base' l1 l2 p1 p2=>?_,fun k hF hO=>H.disj k hF (hO1 k hO),H.inF,fun k hO=>H.inO k (hO1 k hO)⟩
    · rw [e1] at hk
      split at hk
      · rename_i hd;rw[hr1 _ _ hd];exact H.fresh k hk y
      · rename_i hd;exact if_neg hd
    · obtain ⟨hd, hk⟩ := hg1 hk
      rw[hr1 _ _ hd];exact H.later k _ hk y hlt
    · obtain ⟨hd, hk2⟩ := hg1 hk
      exact NoRefB.rel (c:=c) (c':=c1) (n1 k x hk) (fun _ h=>h) (fun g=>hr1 k g hd) (fun cb g base hp hne hgen _=>⟨k,g,base,hd,⟨x,hk2,hgen,hne⟩,hp⟩) (H.blk k x hk2)
    · obtain ⟨d1, l1⟩ := hl1 l1
      obtain⟨d2,l2⟩:=hl1 l2
      rw[hr1 _ _ d1]at p1
      rw[hr1 _ _ d2]at p2
      exact H.inj _ _ _ _ _ _ _ l1 l2 p1 p2
  refine(hs c1 w cargs H1 (ha _ c c1 w _ (fun b g hb=>hr1 b g hb) (fun _ h=>h) hargs)).mono ?_
  rintro e w' ⟨cv,c',rfl,E,H',V⟩
  let c2:Ctx (okc P):={ρ:=fun k y=>if D k then c'.ρ k y else c.ρ k y,F:=c'.F,O:=fun k=>c'.O k\/(c.O k/\¬c1.O k),base:=c.base}
  have hrD:∀b y,D b->c2.ρ b y=c'.ρ b y:=fun b y hb=>if_pos hb
  have hrN:∀b y,¬D b->c2.ρ b y=c.ρ b y:=fun b y hb=>if_neg hb
  have E2:Evo c w c2 w':=by
    refine⟨E.os,E.tape,E.output,E.size,E.shape,fun k hk hO=>E.keep k hk fun h=>hO (hO1 k h),fun b y p hp=>?_,fun k hk=>E.frz k hk,fun k hk=>?_,fun k hk=>?_,rfl⟩
    · by_cases hd : D b
      · rw[hrD _ _ hd];exact E.rho b y p ((hr1 _ _ hd).trans hp)
      · rw[hrN _ _ hd];exact hp
    · rcases E.frzNew k hk with h | h | h
      · exact .inl h
      · exact .inr (.inl (hO1 k h))
      · exact .inr (.inr h)
    · rcases hk with hk | hk
      · rcases E.own k hk with h | h
        · exact .inl (hO1 k h)
        · exact .inr h
      · exact .inl hk.1
  have hg3:∀{k x},h'.get k=some x->(D k/\h1'.get k=some x)\/(¬D k/\h.get k=some x):=fun{k x} hk=>by
    rw[e3]at hk
    split at hk
    · rename_i hd;exact .inl ⟨hd,hk⟩
    · rename_i hd;exact .inr ⟨hd,hk⟩
  have hl3:∀{k y},Live h' k y->(D k/\Live h1' k y)\/(¬D k/\Live h k y):=fun{k y} ⟨x,hk,hx,hd⟩=>by
    rcases hg3 hk with⟨q1,q2⟩|⟨q1,q2⟩
    · exact .inl ⟨q1,x,q2,hx,hd⟩
    · exact .inr ⟨q1,x,q2,hx,hd⟩
  have hout:∀{k y cb base},¬D k->Live h k y->c.ρ k y=some (.loc cb base)->¬c1.O cb:=by
    rintro k y cb base hd hl hp ⟨b,g,base',hb,hlb,hpb⟩
    have:=H.inj _ _ _ _ _ _ _ hl hlb hp hpb
    subst this
    exact hd hb
  have hcross:∀{k y k' y' cb base base'},D k->Live h1' k y->c'.ρ k y=some (.loc cb base)->¬D k'->Live h k' y'->c.ρ k' y'=some (.loc cb base')->False:=by
    intro k y k' y' cb base base' hd l1 p1 hd' l2 p2
    rcases E.own cb (H'.owned l1 p1)with h|h
    · exact hout hd' l2 p2 h
    · have:=H.inO cb (H.owned l2 p2);omega
  refine⟨cv,c2,rfl,E2,⟨fun k hk y=>?_,fun k x hk y hlt=>?_,fun k x hk=>?_,fun k y k' y' cb base base' l1 l2 p1 p2=>?_,fun k hF hO=>?_,H'.inF,fun k hO=>?_⟩,?_⟩
  · rw [e3] at hk
    split at hk
    · rename_i hd;rw[hrD _ _ hd];exact H'.fresh k hk y
    · rename_i hd;rw[hrN _ _ hd];exact H.fresh k hk y
  · rcases hg3 hk with ⟨hd, hk⟩ | ⟨hd, hk⟩
    · rw[hrD _ _ hd];exact H'.later k x hk y hlt
    · rw[hrN _ _ hd];exact H.later k x hk y hlt
  · rcases hg3 hk with ⟨hd, hk⟩ | ⟨hd, hk⟩
    · exact NoRefB.rel (c:=c') (c':=c2) (n2 k x hk) (fun _ h=>h) (fun g=>hrD k g hd) (fun cb g base hp hne hgen hO=> .inl hO) (H'.blk k x hk)
    · refine BRel.mono (E2.ext H.disj) (fun cb base hne hp => ?_) (H.blk k x hk)
      have hl:Live h k x.gen:=⟨x,hk,rfl,hne⟩
      have hO:=H.owned hl hp
      have hn:=hout hd hl hp
      exact⟨.inr ⟨hO,hn⟩,E.keep cb (H.inO cb hO) hn⟩
  · rcases hl3 l1 with ⟨d1, l1⟩ | ⟨d1, l1⟩
    · rw [hrD _ _ d1] at p1
      rcases hl3 l2 with⟨d2,l2⟩|⟨d2,l2⟩
      · rw [hrD _ _ d2] at p2
        exact H'.inj _ _ _ _ _ _ _ l1 l2 p1 p2
      · rw [hrN _ _ d2] at p2
        exact(hcross d1 l1 p1 d2 l2 p2).elim
    · rw [hrN _ _ d1] at p1
      rcases hl3 l2 with⟨d2,l2⟩|⟨d2,l2⟩
      · rw [hrD _ _ d2] at p2
        exact(hcross d2 l2 p2 d1 l1 p1).elim
      · rw [hrN _ _ d2] at p2
        exact H.inj _ _ _ _ _ _ _ l1 l2 p1 p2
  · rcases hO with hO | ⟨hO, hn⟩
    · exact H'.disj k hF hO
    · rcases E.frzNew k hF with h | h | h
      · exact H.disj k h hO
      · exact hn h
      · have:=H.inO k hO;omega
  · rcases hO with hO | ⟨hO, _⟩
    · exact H'.inO k hO
    · exact Nat.lt_of_lt_of_le (H.inO k hO) E.size
  · have h5 : VRels c' w' [v] [cv] := by simp only [VRels]; exact ⟨_, _, rfl, V, rfl⟩
    have h6:=hv _ c' c2 w' [cv] (fun b g hb=>hrD b g hb) (fun _ h=>h) h5
    simp only[VRels]at h6
    obtain⟨v1,vs1,e1,h7,_⟩:=h6
    cases e1
    exact h7
theorem Qbt {b:Nat} {x:Blk} (hb:b<1099511627775) (k:Nat):(hp [(b,x)]).get k=if k=b then some x else none:=by
 simp only[hp]
 by_cases e:k=b
 ·subst e;rw[QaT hb,if_pos rfl]
 ·rw[Qa2 hb e,get_e,if_neg e]
theorem QdQ {b c:Nat} {x y:Blk} (hb:b<1099511627775) (hc:c<1099511627775) (k:Nat):(hp [(b,x),(c,y)]).get k=if k=b then some x else if k=c then some y else none:=by
 rw[Qca]
 by_cases e:k=b
 ·subst e;rw[QaT hb,if_pos rfl]
 ·rw[Qa2 hb e,if_neg e,Qbt hc]
theorem HSpec.frameA {f b g g':Nat} {args xs ys:List AV} {v:AV} {h:Heap} (hs:HSpec P f args (hp [(b,.cells g xs)]) v (hp [(b,.cells g' ys)])) (ha:OnlyD (fun k=>k=b) args) (hv:OnlyD (fun k=>k=b) [v]) (hx:noRefs xs=true) (hy:noRefs ys=true)
  (hb:h.get b=some (.cells g xs)) (hlim:Nat.blt b 1099511627775=true):HSpec P f args h v (h.set b (.cells g' ys)):=by
 have hlim':b<1099511627775:=by simpa using hlim
 refine HSpec.frame (fun k=>k=b) hs ha hv (fun k=>?_) (fun k hk=>?_) (fun k=>?_) (fun k x hk=>?_) (fun k x hk=>?_)
 ·rw [Qbt hlim']
  by_cases e:k=b
  ·subst e;rw[if_pos rfl,if_pos rfl,hb]
  ·rw[if_neg e,if_neg e]
 ·rw[Qbt hlim',if_neg hk]
 ·rw [Qbt hlim']
  by_cases e:k=b
  ·subst e;rw[if_pos rfl,if_pos rfl,QaT hlim']
  ·rw[if_neg e,Qa2 hlim' e]
 ·rw [Qbt hlim'] at hk
  split at hk
  ·cases hk;exact hx
  ·cases hk
 ·rw [Qbt hlim'] at hk
  split at hk
  ·cases hk;exact hy
  ·cases hk
theorem HSpec.frameM {f b g g':Nat} {args:List AV} {xs ys:List (AV×AV)} {v:AV} {h:Heap} (hs:HSpec P f args (hp [(b,.map g xs)]) v (hp [(b,.map g' ys)])) (ha:OnlyD (fun k=>k=b) args) (hv:OnlyD (fun k=>k=b) [v]) (hx:∀e∈xs,noRef e.1=true/\noRef e.2=true) (hy:∀e∈ys,noRef e.1=true/\noRef e.2=true)
  (hb:h.get b=some (.map g xs)) (hlim:Nat.blt b 1099511627775=true):HSpec P f args h v (h.set b (.map g' ys)):=by
 have hlim':b<1099511627775:=by simpa using hlim
 refine HSpec.frame (fun k=>k=b) hs ha hv (fun k=>?_) (fun k hk=>?_) (fun k=>?_) (fun k x hk=>?_) (fun k x hk=>?_)
 ·rw [Qbt hlim']
  by_cases e:k=b
  ·subst e;rw[if_pos rfl,if_pos rfl,hb]
  ·rw[if_neg e,if_neg e]
 ·rw[Qbt hlim',if_neg hk]
 ·rw [Qbt hlim']
  by_cases e:k=b
  ·subst e;rw[if_pos rfl,if_pos rfl,QaT hlim']
  ·rw[if_neg e,Qa2 hlim' e]
 ·rw [Qbt hlim'] at hk
  split at hk
  ·cases hk;exact hx
  ·cases hk
 ·rw [Qbt hlim'] at hk
  split at hk
  ·cases hk;exact hy
  ·cases hk
theorem HSpec.frameB {f a ga b g g':Nat} {args us xs ys:List AV} {v:AV} {h:Heap} (hs:HSpec P f args (hp [(a,.cells ga us),(b,.cells g xs)]) v (hp [(a,.cells ga us),(b,.cells g' ys)])) (ha:OnlyD (fun k=>k=a\/k=b) args) (hv:OnlyD (fun k=>k=a\/k=b) [v])
  (hu:noRefs us=true) (hx:noRefs xs=true) (hy:noRefs ys=true) (ha2:h.get a=some (.cells ga us)) (hb:h.get b=some (.cells g xs)) (hab:a≠b) (hlima:Nat.blt a 1099511627775=true) (hlim:Nat.blt b 1099511627775=true):HSpec P f args h v (h.set b (.cells g' ys)):=by
 have hl1:a<1099511627775:=by simpa using hlima
 have hl2:b<1099511627775:=by simpa using hlim
 refine HSpec.frame (fun k=>k=a\/k=b) hs ha hv (fun k=>?_) (fun k hk=>?_) (fun k=>?_) (fun k x hk=>?_) (fun k x hk=>?_)
 ·rw [QdQ hl1 hl2]
  by_cases e:k=a
  ·subst e;rw[if_pos rfl,if_pos (.inl rfl),ha2]
  ·rw [if_neg e]
   by_cases e2:k=b
   ·subst e2;rw[if_pos rfl,if_pos (.inr rfl),hb]
   ·rw[if_neg e2,if_neg (by simp[e,e2])]
 ·rw[QdQ hl1 hl2,if_neg (fun e=>hk (.inl e)),if_neg (fun e=>hk (.inr e))]
 ·rw [QdQ hl1 hl2]
  by_cases e:k=a
  ·subst e;rw[if_pos rfl,if_pos (.inl rfl),Qa2 hl2 hab,ha2]
  ·rw [if_neg e]
   by_cases e2:k=b
   ·subst e2;rw[if_pos rfl,if_pos (.inr rfl),QaT hl2]
   ·rw[if_neg e2,if_neg (by simp[e,e2]),Qa2 hl2 e2]
 ·rw [QdQ hl1 hl2] at hk
  split at hk
  ·cases hk;exact hu
  ·split at hk
   ·cases hk;exact hx
   ·cases hk
 ·rw [QdQ hl1 hl2] at hk
  split at hk
  ·cases hk;exact hu
  ·split at hk
   ·cases hk;exact hy
   ·cases hk
theorem HSpec.QkB {f m:Nat} {sf:SFn} {args:List AV} {L0 L:HL} {v:AV} (n:Nat) (hok:okFn P f sf=true) (hl:Nat.ble args.length sf.n=true) (hm:(Nat.ble m 1099511627775&&L0.all fun p=>Nat.blt p.1 m)=true)
  (hw:wS P ⟨sf.n,m⟩ sf.body [] n (argT 0 args) (hp L0) fun e T k _=>(e= .normal\/e= .ret)/\∃vs,resV T k sf.res=some vs/\Rec m [(0,v)] L [(0,resOf vs)] k):HSpec P f args (hp L0) v (hp L):=by
 simp only[Bool.and_eq_true,Nat.ble_eq]at hm
 refine HSpec.of_W2 hok (Nat.le_of_ble_eq_true hl) (fun b hb=>?_) ((wpC.toW hw).mono ?_)
 ·have : ∀ M : HL, M.all (fun p => Nat.blt p.1 m) = true -> (hp M).get b = none := by
   intro M
   induction M with
   |nil=>intro _;exact get_e
   |cons q M ih=>
    obtain⟨j,x⟩:=q
    intro hM
    simp only[List.all_cons,Bool.and_eq_true,Nat.blt,Nat.ble_eq]at hM
    rw[Qca,Qa2 (by omega) (by omega)];exact ih (by simpa[Nat.blt]using hM.2)
  exact this L0 hm.2
 ·rintro e B ⟨n', h1, vs, h2, ps, ho, hro, hb, ht⟩
  exact⟨h1,vs,_,h2,Rec.maps ho hb,Rec.heap ho hb,Rec.dom ho hro,ht 0⟩
end Go.AM
namespace Go.AM
section
variable {m:Nat} {π:Nat->Option Src} {h:Heap}
theorem Rn.frzM {b g:Nat} {es:List (AV×AV)} {ks vs:List AV} (hb:h.get b=some (.map g es)) (hm:m<=b) (hn:∀b' g',m<=b'->π b'≠some (.blk b g')) (hk:RnL m π h ks (es.map (·.1))) (hv:RnL m π h vs (es.map (·.2))):
  Rn m π h (.fmap ks vs) (.map b g):=fun _ c w v H M hx=>by
 simp only[VRel]at hx
 obtain⟨cb,hp,rfl⟩:=hx
 obtain⟨ms,clock,hO,hC,hR,hcl⟩:=H.atMap hb hp
 have hout:=M.out H ⟨_,hb,rfl,fun k=>by simp⟩ hp hm hn
 obtain⟨g1,g2,g3⟩:=Qj3 hR
 have hl:=Qbp hR
 simp only[VRel]
 exact⟨cb,ms,clock,rfl,.inr ⟨hO,hout⟩,hC,by simp at hl;omega,g1,hk.rels H M g2,hv.rels H M g3⟩
end
end Go.AM
namespace Go.AM
variable {P:Program}
def mapS (f:List UInt8->AV) (l:List (List UInt8)):List (AV×AV):=l.map fun x=>(.str x,f x)
def updS (f:List UInt8->AV) (x:List UInt8) (v:AV):List UInt8->AV:=fun y=>if y=x then v else f y
theorem QeO {x y:List UInt8}:keyEq false [.s] (.str x) (.str y)=some (decide (x=y)):=by
 by_cases e:x=y
 ·subst e;simp[keyEq,eqCells,eqCell]
 ·simp[keyEq,eqCells,eqCell,e]
theorem Qea {f:List UInt8->AV} {x:List UInt8}:∀(l:List (List UInt8)) (i:Nat),x∉l->aFind false [.s] (.str x) (mapS f l) i=some none
 |[],_,_=>rfl
 |y::l,i,hx=>by
  simp only[List.mem_cons,not_or]at hx
  show(match keyEq false [.s] (.str x) (.str y)with|some true=>_|some false=>_|none=>_)=_
  rw[QeO,decide_eq_false hx.1]
  exact Qea l (i+1) hx.2
theorem Qnm {f:List UInt8->AV} {x:List UInt8} {v:AV} {l:List (List UInt8)} (hx:x∉l):mapS f l++[(.str x,v)]=mapS (updS f x v) (l++[x]):=by
 have:mapS f l=mapS (updS f x v) l:=List.map_congr_left fun z hz=>by
  have:z≠x:=fun h=>hx (h▸hz)
  simp[updS,this]
 rw[this]
 simp[mapS,updS]
theorem QhN {x:List UInt8}:keyOK false [.s] (.str x)=true:=by unfold keyOK;rw[QeO]
section
variable {N:NM} {d:Option Nat} {r:List SOper} {dead:List Nat} {fs:List Fr} {n:Nat} {T:Tmps} {h:Heap} {Q:QC}
theorem QeP {f:List UInt8->AV} {x:List UInt8} {l:List (List UInt8)} {b g:Nat} {z:AV} {ok:Bool} (hb:h.get b=some (.map g (mapS f l))) (hx:x∉l)
  (hk:wR P N r dead fs (n+1) (putD T d (if ok then .tup [z,.bool false]else z)) h Q):wM P N (aLookup false [.s] z ok (.map b g) (.str x)) d r dead fs n T h Q:=by
 refine⟨_,h,?_,hk⟩
 have hg:Nat.beq g g=true:=by simp
 unfold aLookup
 rw[if_pos QhN]
 simp only[HM.entries,HM.run,hb,hg,cond_true,Qea l 0 hx]
theorem Qdo {f:List UInt8->AV} {x:List UInt8} {l:List (List UInt8)} {b g:Nat} {v:AV} (hb:h.get b=some (.map g (mapS f l))) (hx:x∉l) (hl:b<1099511627775)
  (hk:wR P N r dead fs (n+1) (putD T d .any) (h.set b (.map g (mapS (updS f x v) (l++[x])))) Q):wM P N (aMapUpd false [.s] (.map b g) (.str x) v) d r dead fs n T h Q:=by
 refine⟨_,_,?_,hk⟩
 have hg:Nat.beq g g=true:=by simp
 have hl':Nat.blt b lim=true:=by simp[Nat.blt];exact hl
 unfold aMapUpd
 rw[if_pos QhN]
 simp only[HM.entries,HM.run,hb,hg,cond_true,Qea l 0 hx,hl',Qnm hx]
end
theorem RnM.mapS {m:Nat} {π:Nat->Option Src} {h:Heap} {f g:List UInt8->AV}:∀{l:List (List UInt8)},(∀x∈l,Rn m π h (f x) (g x))->RnM m π h (mapS f l) (mapS g l)
 |[],_=>trivial
 |x::l,hf=>⟨⟨Rn.same rfl,hf x (by simp)⟩,RnM.mapS (l:=l) fun y hy=>hf y (by simp[hy])⟩
end Go.AM
set_option linter.unusedSectionVars false
namespace Go.AM
variable {P:Program} {α:Type} [DecidableEq α]
def mapG (c:α->AV) (f:α->AV) (l:List α):List (AV×AV):=l.map fun x=>(c x,f x)
def updG (f:α->AV) (x:α) (v:AV):α->AV:=fun y=>if y=x then v else f y
def KeyG (row:Bool) (ks:List LK) (c:α->AV) (x:α) (l:List α):Prop:=keyOK row ks (c x)=true/\∀y∈l,keyEq row ks (c x) (c y)=some (decide (x=y))
theorem QeQ {row:Bool} {ks:List LK} {c f:α->AV} {x:α}:∀(l:List α) (i:Nat),KeyG row ks c x l->x∈l->aFind row ks (c x) (mapG c f l) i=some (some (i+l.findIdx (· ==x),f x))
 | y :: l, i, hk, hx => by
  show(match keyEq row ks (c x) (c y)with|some true=>_|some false=>_|none=>_)=_
  rw[hk.2 y (by simp),List.findIdx_cons]
  by_cases e:x=y
  ·subst e;simp
  ·have h2 : (y == x) = false := by simpa using fun h => e h.symm
   rw[decide_eq_false e,h2]
   show aFind row ks (c x) (mapG c f l) (i+1)=_
   rw[QeQ l (i+1) ⟨hk.1,fun y hy=>hk.2 y (by simp[hy])⟩ ((List.mem_cons.1 hx).resolve_left e)]
   simp only[cond_false]
   congr 3;omega
theorem QcU {row:Bool} {ks:List LK} {c f:α->AV} {x:α}:∀(l:List α) (i:Nat),KeyG row ks c x l->x∉l->aFind row ks (c x) (mapG c f l) i=some none
 |[],_,_,_=>rfl
 |y::l,i,hk,hx=>by
  simp only[List.mem_cons,not_or]at hx
  show(match keyEq row ks (c x) (c y)with|some true=>_|some false=>_|none=>_)=_
  rw[hk.2 y (by simp),decide_eq_false hx.1]
  exact QcU l (i+1) ⟨hk.1,fun y hy=>hk.2 y (by simp[hy])⟩ hx.2
theorem Qnn {c f:α->AV} {x:α} {v:AV} {l:List α} (hx:x∉l):mapG c f l++[(c x,v)]=mapG c (updG f x v) (l++[x]):=by
 have:mapG c f l=mapG c (updG f x v) l:=List.map_congr_left fun z hz=>by
  have:z≠x:=fun h=>hx (h▸hz)
  simp[updG,this]
 rw[this]
 simp[mapG,updG]
theorem Qgt {c f g:α->AV} {l:List α} (h:∀x∈l,f x=g x):mapG c f l=mapG c g l:=List.map_congr_left fun x hx=>by rw[h x hx]
abbrev fmapG (c f:α->AV) (l:List α):AV:= .fmap (l.map c) (l.map f)
theorem Qi4 {c f:α->AV} (l:List α):(l.map c).zip (l.map f)=mapG c f l:=by
 induction l with
 |nil=>rfl
 |cons x l ih=>simp only[List.map_cons,List.zip_cons_cons,ih];rfl
section
variable {N:NM} {d:Option Nat} {r:List SOper} {dead:List Nat} {fs:List Fr} {n:Nat} {T:Tmps} {h:Heap} {Q:QC} {row:Bool} {ks:List LK} {c f:α->AV} {x:α} {l:List α} {b g:Nat} {z v:AV} {ok:Bool}
theorem Qft (hb:h.get b=some (.map g (mapG c f l))) (hq:KeyG row ks c x l) (hx:x∈l)
  (hk:wR P N r dead fs (n+1) (putD T d (if ok then .tup [f x,.bool true]else f x)) h Q):wM P N (aLookup row ks z ok (.map b g) (c x)) d r dead fs n T h Q:=by
 refine⟨_,h,?_,hk⟩
 have hg:Nat.beq g g=true:=by simp
 unfold aLookup
 rw[if_pos hq.1]
 simp only[HM.entries,HM.run,hb,hg,cond_true,QeQ l 0 hq hx]
theorem QeR (hb:h.get b=some (.map g (mapG c f l))) (hq:KeyG row ks c x l) (hx:x∉l)
  (hk:wR P N r dead fs (n+1) (putD T d (if ok then .tup [z,.bool false]else z)) h Q):wM P N (aLookup row ks z ok (.map b g) (c x)) d r dead fs n T h Q:=by
 refine⟨_,h,?_,hk⟩
 have hg:Nat.beq g g=true:=by simp
 unfold aLookup
 rw[if_pos hq.1]
 simp only[HM.entries,HM.run,hb,hg,cond_true,QcU l 0 hq hx]
theorem Qi5 (hq:KeyG row ks c x l) (hx:x∈l) (hk:wR P N r dead fs (n+1) (putD T d (if ok then .tup [f x,.bool true]else f x)) h Q):wM P N (aLookup row ks z ok (fmapG c f l) (c x)) d r dead fs n T h Q:=by
 refine⟨_,h,?_,hk⟩
 unfold aLookup
 rw[if_pos hq.1]
 simp only[fmapG]
 rw[Qi4,QeQ l 0 hq hx];rfl
theorem Qic (hq:KeyG row ks c x l) (hx:x∉l) (hk:wR P N r dead fs (n+1) (putD T d (if ok then .tup [z,.bool false]else z)) h Q):wM P N (aLookup row ks z ok (fmapG c f l) (c x)) d r dead fs n T h Q:=by
 refine⟨_,h,?_,hk⟩
 unfold aLookup
 rw[if_pos hq.1]
 simp only[fmapG]
 rw[Qi4,QcU l 0 hq hx];rfl
theorem Qcm (hb:h.get b=some (.map g (mapG c f l))) (hq:KeyG row ks c x l) (hx:x∉l) (hl:b<1099511627775)
  (hk:wR P N r dead fs (n+1) (putD T d .any) (h.set b (.map g (mapG c (updG f x v) (l++[x])))) Q):wM P N (aMapUpd row ks (.map b g) (c x) v) d r dead fs n T h Q:=by
 refine⟨_,_,?_,hk⟩
 have hg:Nat.beq g g=true:=by simp
 have hl':Nat.blt b lim=true:=by simp[Nat.blt];exact hl
 unfold aMapUpd
 rw[if_pos hq.1]
 simp only[HM.entries,HM.run,hb,hg,cond_true,QcU l 0 hq hx,hl',Qnn hx]
end
theorem RnM.mapG {m:Nat} {π:Nat->Option Src} {h:Heap} {c f:α->AV}:∀{l:List α},(∀x∈l,noRef (c x)=true/\noRef (f x)=true)->RnM m π h (mapG c f l) (mapG c f l)
 |[],_=>trivial
 |x::l,hf=>⟨⟨Rn.same (hf x (by simp)).1,Rn.same (hf x (by simp)).2⟩,RnM.mapG (l:=l) fun y hy=>hf y (by simp[hy])⟩
abbrev kP (x:Nat×Nat):AV:= .agg [.int .i64 (x.1:Int),.int .i64 (x.2:Int)]
theorem Qi6 {x:Nat×Nat} {l:List (Nat×Nat)}:KeyG true [.i,.i] kP x l:=by
 have key:∀y:Nat×Nat,keyEq true [.i,.i] (kP x) (kP y)=some (decide (x=y)):=by
  intro y
  obtain⟨a,b⟩:=x
  obtain⟨c,d⟩:=y
  simp only[keyEq,eqCells,eqCell,Prod.mk.injEq]
  by_cases e1:a=c<;>by_cases e2:b=d<;>simp[e1,e2]<;>omega
 refine⟨?_,fun y _=>key y⟩
 unfold keyOK
 rw[key]
end Go.AM
namespace Go.AM
theorem Rn.fzM {α:Type} {m:Nat} {h:Heap} {ps:List (Nat×Src)} {b g:Nat} {c f:α->AV} {l:List α} (hb:h.get b=some (.map g (mapG c f l))) (hn:srcNew (.blk b g) ps=true) (hm:Nat.ble m b=true) (hk:∀x∈l,noRef (c x)=true/\noRef (f x)=true):Rn m (ow m ps) h (fmapG c f l) (.map b g):=by
  refine Rn.frzM hb (by simpa using hm) (fun b' g' hb' e=>?_) ?_ ?_
  · rw[ow_ge hb']at e;exact QgO hn b' _ e rfl
  · have e : (mapG c f l).map (·.1) = l.map c := by simp [mapG]
    rw[e]
    clear hb e
    induction l with
    |nil=>trivial
    |cons x l ih=>exact⟨Rn.same (hk x (by simp)).1,ih fun y hy=>hk y (by simp[hy])⟩
  · have e : (mapG c f l).map (·.2) = l.map f := by simp [mapG]
    rw[e]
    clear hb e
    induction l with
    |nil=>trivial
    |cons x l ih=>exact⟨Rn.same (hk x (by simp)).2,ih fun y hy=>hk y (by simp[hy])⟩
end Go.AM
namespace Go.AM.SO
open Go.Proofs
def s21:SFn:=⟨94,[.tmp 2],
 (.seq (.region [Zz 1 (.box .dyn (.t 0)) [],
 Zz 2 (.mov (.c (.int .i64 0))) []] [] [0,2])
 (.seq (.seq (.region [Zf 15 0 1 [],
 Zl 16 15 [0],
 Zz 17 (.call .pure (.f 82) [(.t 16)]) [1],
 Zm 3 17 [2,2,0,1,2]] [] [15,16,17])
 (.seq (.region [Zm 18 3 [],
 Zz 19 (.bin .neq (.t 18) (.c (.int .i64 0))) [0]] [] [18])
 (.cond (.t 19)
 (.seq (.region [Zm 20 3 [],
 Zm 2 20 [0,0]] [] [1,3,19,20])
 .ret)
 .skip)))
 (.seq (.seq (.region [Zf 21 1 1 [],
 Zl 22 21 [0],
 Zv 23 22 [1],
 Zm 4 23 [2,0,1,2]] [] [2,3,19,21,22,23])
 (.block 0 (.seq (.region [Zm 25 4 [],
 Zz 26 (.bin .eql (.t 25) (.c (.int .i64 0))) [0],
 Zm 24 26 [1]] [] [25,26])
 (.cond (.t 24)
 (.seq (.region [Zz 2 (.mov (.c (.int .i64 12))) []] [] [1,4,24])
 .ret)
 (.seq (.region [Zm 28 4 [],
 Zz 29 (.bin .gtr (.t 28) (.c (.int .i64 8))) [0],
 Zm 30 29 [1],
 Zx 31 (.mov (.t 4)) [2] 30 false,
 Zx 32 (.faddr 2 (.t 1)) [2] 30 false,
 Zx 33 (.load none (.t 32)) [4,2] 30 false,
 Zx 34 (.len 1 (.t 33)) [5,2] 30 false,
 Zx 35 (.bin .add (.t 31) (.t 34)) [3,6,2] 30 false,
 Zx 36 (.bin .gtr (.t 35) (.c (.int .i64 12))) [7,2] 30 false,
 Zz 37 (.pick (.t 30) (.c (.bool true)) (.t 36)) [2,8],
 Zm 27 37 [9,2]] [] [4,24,28,29,30,31,32,33,34,35,36,37])
 (.cond (.t 27)
 (.seq (.region [Zz 2 (.mov (.c (.int .i64 3))) []] [] [1,27])
 .ret)
 .skip))))))
 (.seq (.region [Zz 38 (.mkmap .dyn) [],
 Zm 5 38 [0,0]] [] [2,27,38])
 (.seq (.region [Zz 6 (.mov (.c .nilsl)) [],
 Zz 7 (.mov (.c .nilsl)) [0]] [] [])
 (.seq (.seq (.region [Zf 39 0 1 [],
 Zl 40 39 [0],
 Zv 41 40 [1],
 Zz 42 (.mov (.c (.int .i64 0))) []] [] [39,40])
 (.block 1 (.loop (.seq (.region [Zb 43 .lss 42 41 []] [] [])
 (.seq (.cond (.t 43)
 .skip
 (.exit 1))
 (.seq (.block 2 (.seq (.region [Zm 44 42 [],
 Zm 8 44 [0,0]] [] [43,44])
 (.region [Zm 45 6 [],
 Zm 46 8 [],
 Zz 47 (.bslice false .dyn 1 1 [(.int .i64 0)] [(0,1,(.t 46))]) [1],
 Zz 48 (.append .dyn 1 8 (.t 45) (.t 47)) [0,2],
 Zm 6 48 [3,3,0,1,2,3]] [] [8,45,46,47,48])))
 (.region [Zz 49 (.bin .add (.t 42) (.c (.int .i64 1))) [],
 Zm 42 49 [0]] [] [49])))))))
 (.seq (.seq (.region [Zf 50 1 1 [],
 Zl 51 50 [0],
 Zv 52 51 [1],
 Zz 53 (.mov (.c (.int .i64 0))) []] [] [41,42,50])
 (.block 3 (.loop (.seq (.region [Zb 54 .lss 53 52 []] [] [])
 (.seq (.cond (.t 54)
 .skip
 (.exit 3))
 (.seq (.block 4 (.seq (.region [Zi 55 5 51 53 [],
 Zw 56 5 55 [0],
 Zz 10 (.alloc .dyn (.agg [(.str []),.nilsl,(.int .i64 0),.nilsl,.nilsl])) [],
 Zs 5 10 56 [2,1,0,1,2]] [] [54,55,56])
 (.seq (.seq (.region [Zw 57 5 10 [],
 Zf 58 0 1 [],
 Zl 59 58 [1],
 Zv 60 59 [2],
 Zm 61 6 [],
 Zm 62 5 [],
 Zz 63 (.call .heap (.f 83) [(.t 57),(.t 60),(.t 61),(.t 62)]) [0,3,4,5],
 Zm 11 63 (Za [6,6] 7)] [] [57,58,59,60,61,62,63])
 (.seq (.region [Zm 64 11 [],
 Zz 65 (.bin .neq (.t 64) (.c (.int .i64 0))) [0]] [] [64])
 (.cond (.t 65)
 (.seq (.region [Zm 66 11 [],
 Zm 2 66 [0,0]] [] [1,5,6,7,51,52,53,10,11,65,66])
 .ret)
 .skip)))
 (.region [Zm 67 7 [],
 Zf 68 1 10 [],
 Zf 69 0 68 [1],
 Zl 70 69 [2],
 Zz 71 (.call .pure (.f 84) [(.t 67),(.t 70)]) [0,3],
 Zm 7 71 (Za [4,4] 5)] [] [2,10,11,65,67,68,69,70,71]))))
 (.region [Zz 72 (.bin .add (.t 53) (.c (.int .i64 1))) [],
 Zm 53 72 [0]] [] [72])))))))
 (.seq (.seq (.region [Zf 73 2 1 [],
 Zl 74 73 [0],
 Zv 75 74 [1],
 Zz 76 (.mov (.c (.int .i64 0))) []] [] [6,51,52,53,73])
 (.block 5 (.loop (.seq (.region [Zb 77 .lss 76 75 []] [] [])
 (.seq (.cond (.t 77)
 .skip
 (.exit 5))
 (.seq (.block 6 (.seq (.region [Zi 78 5 74 76 [],
 Zw 79 5 78 [0],
 Zz 13 (.alloc .dyn (.agg [(.str []),.nilsl,(.int .i64 0),.nilsl,.nilsl])) [],
 Zs 5 13 79 [2,1,0,1,2]] [] [77,78,79])
 (.seq (.region [Zw 80 5 13 [],
 Zf 81 0 1 [],
 Zl 82 81 [1],
 Zv 83 82 [2],
 Zm 84 7 [],
 Zm 85 5 [],
 Zz 86 (.call .heap (.f 83) [(.t 80),(.t 83),(.t 84),(.t 85)]) [0,3,4,5],
 Zm 14 86 (Za [6,6] 7)] [] [13,80,81,82,83,84,85,86])
 (.seq (.region [Zm 87 14 [],
 Zz 88 (.bin .neq (.t 87) (.c (.int .i64 0))) [0]] [] [87])
 (.cond (.t 88)
 (.seq (.region [Zm 89 14 [],
 Zm 2 89 [0,0]] [] [1,5,7,74,75,76,14,88,89])
 .ret)
 .skip)))))
 (.region [Zz 90 (.bin .add (.t 76) (.c (.int .i64 1))) [],
 Zm 76 90 [0]] [] [2,14,88,90])))))))
 (.seq (.region [Zw 91 5 1 [],
 Zz 92 (.call .pure (.f 85) [(.t 91)]) [0],
 Zz 93 (.call .pure (.f 32) [(.t 92)]) [1,1],
 Zm 2 93 [2,2,0,1,2]] [] [1,5,7,74,75,76,91,92,93])
 .ret)))))))))⟩
def s25:SFn:=⟨7,[.tmp 2],
 (.seq (.region [Zz 1 (.box .dyn (.t 0)) [],
 Zz 2 (.mov (.c (.bool false))) []] [] [0,2])
 (.seq (.region [Zf 3 147 1 [],
 Zl 4 3 [0],
 Zv 5 4 [1],
 Zz 6 (.bin .leq (.t 5) (.c (.int .i64 4))) [2],
 Zm 2 6 [3,0,1,2,3]] [] [1,3,4,5,6])
 .ret))⟩
def s36:SFn:=⟨9,[.tmp 4],
 (.seq (.region [Zz 4 (.mov (.c (.bool false))) []] [] [4])
 (.seq (.region [Zm 5 0 [],
 Zm 6 1 [],
 Zz 7 (.call .pure (.f 110) [(.t 5),(.t 6)]) [0,1],
 Zz 8 (.bin .geq (.t 7) (.c (.int .i64 0))) [2],
 Zm 4 8 [3,2,0,1,2,3]] [] [0,1,5,6,7,8])
 .ret))⟩
def s60:SFn:=⟨12,[.tmp 2],
 (.seq (.region [Zz 1 (.box .dyn (.t 0)) [],
 Zz 2 (.mov (.c (.bool false))) []] [] [0,2])
 (.seq (.region [Zw 3 4 1 [],
 Zz 4 (.call .pure (.f 112) [(.t 3)]) [0],
 Zz 5 (.bin .eql (.t 4) (.c (.int .i64 0))) [1],
 Zm 6 5 [2,1],
 Zx 7 (.load (some 4) (.t 1)) [3] 6 true,
 Zx 8 (.load (some 4) (.t 1)) [3] 6 true,
 Zx 9 (.call .pure (.f 150) [(.t 8)]) [5,3,3] 6 true,
 Zx 10 (.call .pure (.f 33) [(.t 7),(.t 9)]) [4,6,6,3] 6 true,
 Zz 11 (.pick (.t 6) (.t 10) (.c (.bool false))) [3,7],
 Zm 2 11 (Za [8,7] 9)] [] [1,3,4,5,6,7,8,9,10,11])
 .ret))⟩
def s82:SFn:=⟨51,[.tmp 2],
 (.seq (.region [Zz 2 (.mov (.c (.int .i64 0))) []] [] [2])
 (.seq (.seq (.region [Zm 6 0 [],
 Zv 7 6 [0],
 Zz 8 (.bin .gtr (.t 7) (.c (.int .i64 32))) [1]] [] [6,7])
 (.cond (.t 8)
 (.seq (.region [Zz 2 (.mov (.c (.int .i64 3))) []] [] [0,8])
 .ret)
 .skip))
 (.seq (.region [Zz 9 (.mkmap .dyn) [],
 Zm 3 9 [0,0]] [] [2,8,9])
 (.seq (.seq (.region [Zm 10 0 [],
 Zv 11 10 [0],
 Zz 12 (.mov (.c (.int .i64 0))) []] [] [0])
 (.block 0 (.loop (.seq (.region [Zb 13 .lss 12 11 []] [] [])
 (.seq (.cond (.t 13)
 .skip
 (.exit 0))
 (.seq (.block 1 (.seq (.region [Zi 14 5 10 12 [],
 Zw 15 5 14 [0],
 Zz 5 (.alloc .dyn (.agg [(.str []),(.bool false),(.bool false),(.bool false),(.int .i64 0)])) [],
 Zs 5 5 15 [2,1,0,1,2]] [] [13,14,15])
 (.seq (.block 2 (.seq (.region [Zf 17 0 5 [],
 Zl 18 17 [0],
 Zz 19 (.call .pure (.f 135) [(.t 18)]) [1],
 Zz 20 (.un .not (.t 19)) [2],
 Zm 16 20 [3,2]] [] [17,18,19,20])
 (.cond (.t 16)
 (.seq (.region [Zz 2 (.mov (.c (.int .i64 7))) []] [] [3,10,11,12,45,42,44,43,41,40,33,32,31,5,16])
 .ret)
 (.seq (.region [Zm 22 3 [],
 Zf 23 0 5 [],
 Zl 24 23 [1],
 Zz 25 (.lookup false [.s] (.bool false) false (.t 22) (.t 24)) [0,2],
 Zm 21 25 [3]] [] [16,22,23,24,25])
 (.cond (.t 21)
 (.seq (.region [Zz 2 (.mov (.c (.int .i64 8))) []] [] [3,10,11,12,45,42,44,43,41,40,33,32,31,5,21])
 .ret)
 (.seq (.region [Zf 27 4 5 [],
 Zl 28 27 [0],
 Zz 29 (.bin .lss (.t 28) (.c (.int .i64 0))) [1],
 Zm 30 29 [2],
 Zx 31 (.faddr 4 (.t 5)) [3] 30 false,
 Zx 32 (.load none (.t 31)) [4,3] 30 false,
 Zx 33 (.bin .gtr (.t 32) (.c (.int .i64 4))) [5,3] 30 false,
 Zz 34 (.pick (.t 30) (.c (.bool true)) (.t 33)) [3,6],
 Zm 26 34 [7,3]] [] [21,27,28,29,30,34])
 (.cond (.t 26)
 (.seq (.region [Zz 2 (.mov (.c (.int .i64 2))) []] [] [3,10,11,12,45,42,44,43,41,40,33,32,31,5,26])
 .ret)
 (.seq (.region [Zf 36 4 5 [],
 Zl 37 36 [0],
 Zz 38 (.bin .neq (.t 37) (.c (.int .i64 0))) [1],
 Zm 39 38 [2],
 Zx 40 (.faddr 1 (.t 5)) [3] 39 true,
 Zx 41 (.load none (.t 40)) [4,3] 39 true,
 Zx 42 (.mov (.t 41)) [5,3,3] 39 true,
 Zx 43 (.faddr 2 (.t 5)) [6] 42 false,
 Zx 44 (.load none (.t 43)) [7,6] 42 false,
 Zx 45 (.pick (.t 42) (.c (.bool true)) (.t 44)) [6,8,3] 39 true,
 Zz 46 (.pick (.t 39) (.t 45) (.c (.bool false))) [3,9],
 Zm 35 46 [10,6]] [] [26,36,37,38,39,46])
 (.cond (.t 35)
 (.seq (.region [Zz 2 (.mov (.c (.int .i64 13))) []] [] [3,10,11,12,45,42,44,43,41,40,33,32,31,5,35])
 .ret)
 .skip)))))))))
 (.region [Zm 47 3 [],
 Zf 48 0 5 [],
 Zl 49 48 [1],
 Zy (.mupd false [.s] (.t 47) (.t 49) (.c (.bool true))) [0,2,0,1,2]] [] [2,5,35,47,48,49]))))
 (.region [Zz 50 (.bin .add (.t 12) (.c (.int .i64 1))) [],
 Zm 12 50 [0]] [] [50])))))))
 (.seq (.region [Zz 2 (.mov (.c (.int .i64 0))) []] [] [3,10,11,12,45,42,44,43,41,40,33,32,31])
 .ret)))))⟩
def s84:SFn:=⟨8,[.tmp 4],
 (.seq (.region [Zz 4 (.mov (.c .nilsl)) []] [] [4])
 (.seq (.region [Zm 5 0 [],
 Zm 6 1 [],
 Zz 7 (.call .pure (.f 168) [(.t 5),(.t 6),(.f 169)]) [0,1],
 Zm 4 7 [2,2,0,1,2]] [] [0,1,5,6,7])
 .ret))⟩
def s85:SFn:=⟨68,[.cell 2 (some 3)],
 (.seq (.region [Zz 1 (.box .dyn (.t 0)) [],
 Zz 2 (.alloc .dyn (.agg [.nilsl,.nilsl,.nilsl])) []] [] [0])
 (.seq (.region [Zz 10 (.build [.nilsl,.nilsl,.nilsl] []) [],
 Zz 3 (.alloc .dyn (.agg [.nilsl,.nilsl,.nilsl])) [],
 Zs 3 3 10 [1,0,0,1]] [] [10])
 (.seq (.seq (.region [Zf 11 1 1 [],
 Zl 12 11 [0],
 Zv 13 12 [1],
 Zz 14 (.mov (.c (.int .i64 0))) []] [] [11])
 (.block 0 (.loop (.seq (.region [Zb 15 .lss 14 13 []] [] [])
 (.seq (.cond (.t 15)
 .skip
 (.exit 0))
 (.seq (.block 1 (.seq (.region [Zi 16 5 12 14 [],
 Zw 17 5 16 [0],
 Zz 5 (.alloc .dyn (.agg [(.str []),.nilsl,(.int .i64 0),.nilsl,.nilsl])) [],
 Zs 5 5 17 [2,1,0,1,2]] [] [15,16,17])
 (.region [Zf 18 0 3 [],
 Zl 19 18 [0],
 Zf 20 1 5 [],
 Zf 21 1 20 [2],
 Zl 22 21 [3],
 Zz 23 (.bslice false .dyn 1 1 [(.int .i64 0)] [(0,1,(.t 22))]) [4],
 Zz 24 (.append .dyn 1 8 (.t 19) (.t 23)) [1,5],
 Zf 25 0 3 (Za [] 7),
 Zs 1 25 24 (Za [7,6,6] 7)] [] [5,18,19,20,21,22,23,24,25])))
 (.region [Zz 26 (.bin .add (.t 14) (.c (.int .i64 1))) [],
 Zm 14 26 [0]] [] [26])))))))
 (.seq (.seq (.region [Zf 27 3 1 [],
 Zl 28 27 [0],
 Zv 29 28 [1],
 Zz 30 (.mov (.c (.int .i64 0))) []] [] [12,13,14,27])
 (.block 2 (.loop (.seq (.region [Zb 31 .lss 30 29 []] [] [])
 (.seq (.cond (.t 31)
 .skip
 (.exit 2))
 (.seq (.block 3 (.seq (.region [Zi 32 2 28 30 [],
 Zw 33 2 32 [0],
 Zz 7 (.alloc .dyn (.agg [(.str []),.nilsl])) [],
 Zs 2 7 33 [2,1,0,1,2]] [] [31,32,33])
 (.region [Zf 34 1 3 [],
 Zl 35 34 [0],
 Zf 36 0 7 [],
 Zl 37 36 [2],
 Zf 38 1 7 [],
 Zl 39 38 [4],
 Zz 40 (.call .pure (.f 148) [(.t 39)]) [5],
 Zz 41 (.build [(.str []),.nilsl] [(0,1,(.t 37)),(1,1,(.t 40))]) [3,6],
 Zz 42 (.bslice false .dyn 2 1 [(.str []),.nilsl] [(0,2,(.t 41))]) [7],
 Zz 43 (.append .dyn 2 40 (.t 35) (.t 42)) [1,8,6],
 Zf 44 1 3 (Za [] 10),
 Zs 1 44 43 (Za [10,9,9] 10)] [] [7,34,35,36,37,38,39,40,41,42,43,44])))
 (.region [Zz 45 (.bin .add (.t 30) (.c (.int .i64 1))) [],
 Zm 30 45 [0]] [] [45])))))))
 (.seq (.seq (.region [Zf 46 4 1 [],
 Zl 47 46 [0],
 Zv 48 47 [1],
 Zz 49 (.mov (.c (.int .i64 0))) []] [] [1,28,29,30,46])
 (.block 4 (.loop (.seq (.region [Zb 50 .lss 49 48 []] [] [])
 (.seq (.cond (.t 50)
 .skip
 (.exit 4))
 (.seq (.block 5 (.seq (.region [Zi 51 3 47 49 [],
 Zw 52 3 51 [0],
 Zz 9 (.alloc .dyn (.agg [(.str []),.nilsl,(.int .i64 0)])) [],
 Zs 3 9 52 [2,1,0,1,2]] [] [50,51,52])
 (.region [Zf 53 2 3 [],
 Zl 54 53 [0],
 Zf 55 0 9 [],
 Zl 56 55 [2],
 Zf 57 1 9 [],
 Zl 58 57 [4],
 Zz 59 (.call .pure (.f 149) [(.t 58)]) [5],
 Zf 60 2 9 [],
 Zl 61 60 [7],
 Zz 62 (.build [(.str []),.nilsl,(.int .i64 0)] [(0,1,(.t 56)),(1,1,(.t 59)),(2,1,(.t 61))]) [3,6,8],
 Zz 63 (.bslice false .dyn 3 1 [(.str []),.nilsl,(.int .i64 0)] [(0,3,(.t 62))]) [9],
 Zz 64 (.append .dyn 3 48 (.t 54) (.t 63)) [1,10,6],
 Zf 65 2 3 (Za [] 12),
 Zs 1 65 64 (Za [12,11,11] 12)] [] [9,53,54,55,56,57,58,59,60,61,62,63,64,65])))
 (.region [Zz 66 (.bin .add (.t 49) (.c (.int .i64 1))) [],
 Zm 49 66 [0]] [] [66])))))))
 (.seq (.region [Zw 67 3 3 [],
 Zs 3 2 67 [0,0]] [] [3,47,48,49,67])
 .ret))))))⟩
def s88:SFn:=⟨55,[.tmp 2],
 (.seq (.region [Zz 1 (.box .dyn (.t 0)) [],
 Zz 2 (.mov (.c .nilsl)) []] [] [0,2])
 (.seq (.region [Zz 3 (.mov (.c .nilsl)) []] [] [])
 (.seq (.seq (.region [Zz 4 (.mov (.c (.int .i64 0))) []] [] [])
 (.block 0 (.loop (.seq (.seq (.region [Zm 6 4 [],
 Zz 7 (.bin .lss (.t 6) (.c (.int .i64 5))) [0]] [] [6])
 (.cond (.t 7)
 .skip
 (.exit 0)))
 (.seq (.block 1 (.seq (.region [Zm 10 4 [],
 Zz 11 (.conv .u8 (.t 10)) [0],
 Zz 12 (.bin .add (.c (.int .u8 97)) (.t 11)) [1],
 Zz 13 (.bslice false .dyn 1 1 [(.int .u8 0)] [(0,1,(.t 12))]) [2],
 Zz 14 (.convB (.t 13)) [3],
 Zz 15 (.build [(.str []),(.bool false),(.bool false),(.bool false),(.int .i64 0)] [(0,1,(.t 14))]) [4],
 Zz 5 (.alloc .dyn (.agg [(.str []),(.bool false),(.bool false),(.bool false),(.int .i64 0)])) [],
 Zs 5 5 15 (Za [6,5] 7)] [] [7,10,11,12,13,14,15])
 (.seq (.seq (.region [Zm 16 4 [],
 Zz 17 (.iaddr (some 5) 1 (.t 1) (.t 16)) [0],
 Zl 18 17 [1],
 Zz 19 (.bin .geq (.t 18) (.c (.int .u8 48))) [2],
 Zm 20 19 [3],
 Zx 21 (.mov (.t 4)) [4] 20 true,
 Zx 22 (.iaddr (some 5) 1 (.t 1) (.t 21)) [5,4] 20 true,
 Zx 23 (.load none (.t 22)) [6,4] 20 true,
 Zx 24 (.bin .lss (.t 23) (.c (.int .u8 52))) [7,4] 20 true,
 Zz 25 (.pick (.t 20) (.t 24) (.c (.bool false))) [4,8]] [] [16,17,18,19,20])
 (.cond (.t 25)
 (.region [Zm 26 4 [],
 Zz 27 (.iaddr (some 5) 1 (.t 1) (.t 26)) [0],
 Zl 28 27 [1],
 Zz 29 (.conv .i64 (.t 28)) [2],
 Zz 30 (.bin .sub (.t 29) (.c (.int .i64 47))) [3],
 Zf 31 4 5 (Za [] 5),
 Zs 1 31 30 (Za [5,4] 5)] [] [25,26,27,28,29,30,31])
 (.region [Zm 32 4 [],
 Zz 33 (.iaddr (some 5) 1 (.t 1) (.t 32)) [0],
 Zl 34 33 [1],
 Zz 35 (.bin .and (.t 34) (.c (.int .u8 1))) [2],
 Zz 36 (.bin .eql (.t 35) (.c (.int .u8 1))) [3],
 Zm 37 4 [],
 Zz 38 (.iaddr (some 5) 1 (.t 1) (.t 37)) [5],
 Zl 39 38 [6],
 Zz 40 (.bin .and (.t 39) (.c (.int .u8 2))) [7],
 Zz 41 (.bin .eql (.t 40) (.c (.int .u8 2))) [8],
 Zm 42 4 [],
 Zz 43 (.iaddr (some 5) 1 (.t 1) (.t 42)) [10],
 Zl 44 43 [11],
 Zz 45 (.bin .and (.t 44) (.c (.int .u8 4))) [12],
 Zz 46 (.bin .eql (.t 45) (.c (.int .u8 4))) [13],
 Zf 47 1 5 (Za [] 5),
 Zs 1 47 36 (Za [15,4] 5),
 Zf 48 2 5 [0,1,2,3,4,5,6,7,8,9,15,16],
 Zs 1 48 41 [17,9,16,0,1,2,3,4,5,6,7,8,9,15,16],
 Zf 49 3 5 (Za [] 19),
 Zs 1 49 46 (Za [19,14,18] 19)] [(7,16),(12,16),(12,18)] [25,32,33,34,35,36,37,38,39,40,41,42,43,44,45,46,47,48,49])))
 (.region [Zm 50 3 [],
 Zw 51 5 5 [],
 Zz 52 (.bslice false .dyn 5 1 [(.str []),(.bool false),(.bool false),(.bool false),(.int .i64 0)] [(0,5,(.t 51))]) [1],
 Zz 53 (.append .dyn 5 32 (.t 50) (.t 52)) [0,2],
 Zm 3 53 [3,3,0,1,2,3]] [] [5,50,51,52,53]))))
 (.region [Zm 8 4 [],
 Zz 9 (.bin .add (.t 8) (.c (.int .i64 1))) [0],
 Zm 4 9 [1,0,1]] [] [8,9]))))))
 (.seq (.region [Zm 54 3 [],
 Zm 2 54 [0,0]] [] [1,3,4,24,23,22,21,54])
 .ret))))⟩
def s103:SFn:=⟨62,[.tmp 4],
 (.seq (.region [Zz 2 (.box .dyn (.t 0)) [],
 Zz 3 (.box .dyn (.t 1)) [],
 Zz 4 (.mov (.c (.int .i64 0))) []] [] [0,1,4])
 (.seq (.seq (.region [Zf 7 1 3 [],
 Zl 8 7 [0],
 Zv 9 8 [1],
 Zz 10 (.bin .eql (.t 9) (.c (.int .i64 0))) [2]] [] [7,8,9])
 (.cond (.t 10)
 (.seq (.region [Zz 4 (.mov (.c (.int .i64 12))) []] [] [2,3,10])
 .ret)
 .skip))
 (.seq (.seq (.region [Zf 11 1 3 [],
 Zl 12 11 [0],
 Zv 13 12 [1],
 Zz 14 (.mov (.c (.int .i64 0))) []] [] [4,10,11])
 (.block 0 (.loop (.seq (.region [Zb 15 .lss 14 13 []] [] [])
 (.seq (.cond (.t 15)
 .skip
 (.exit 0))
 (.seq (.block 1 (.seq (.region [Zm 16 14 [],
 Zi 17 2 12 14 [],
 Zw 18 2 17 [1],
 Zz 6 (.alloc .dyn (.agg [(.int .i64 0),(.int .i64 0)])) [],
 Zm 5 16 [0,0,1,2,3],
 Zs 2 6 18 (Za [3,2,4] 5)] [] [15,16,17,18])
 (.block 2 (.seq (.region [Zf 20 0 6 [],
 Zl 21 20 [0],
 Zz 22 (.bin .lss (.t 21) (.c (.int .i64 0))) [1],
 Zm 23 22 [2],
 Zx 24 (.faddr 0 (.t 6)) [3] 23 false,
 Zx 25 (.load none (.t 24)) [4,3] 23 false,
 Zx 26 (.faddr 0 (.t 2)) [3] 23 false,
 Zx 27 (.load none (.t 26)) [6,3] 23 false,
 Zx 28 (.len 1 (.t 27)) [7,3] 23 false,
 Zx 29 (.bin .geq (.t 25) (.t 28)) [5,8,3] 23 false,
 Zz 30 (.pick (.t 23) (.c (.bool true)) (.t 29)) [3,9],
 Zm 19 30 [10,3]] [] [20,21,22,23,30])
 (.cond (.t 19)
 (.seq (.region [Zz 4 (.mov (.c (.int .i64 2))) []] [] [2,3,12,13,14,59,52,58,57,54,56,55,53,51,44,36,43,42,41,38,40,39,37,35,29,25,28,27,26,24,6,5,19])
 .ret)
 (.seq (.region [Zm 32 5 [],
 Zz 33 (.bin .gtr (.t 32) (.c (.int .i64 0))) [0],
 Zm 34 33 [1],
 Zx 35 (.faddr 0 (.t 6)) [2] 34 true,
 Zx 36 (.load none (.t 35)) [3,2] 34 true,
 Zx 37 (.faddr 1 (.t 3)) [2] 34 true,
 Zx 38 (.load none (.t 37)) [5,2] 34 true,
 Zx 39 (.mov (.t 5)) [2] 34 true,
 Zx 40 (.bin .sub (.t 39) (.c (.int .i64 1))) [7,2] 34 true,
 Zx 41 (.iaddr none 2 (.t 38) (.t 40)) [6,8,2] 34 true,
 Zx 42 (.faddr 0 (.t 41)) [9,2] 34 true,
 Zx 43 (.load none (.t 42)) [10,2] 34 true,
 Zx 44 (.bin .leq (.t 36) (.t 43)) [4,11,2] 34 true,
 Zz 45 (.pick (.t 34) (.t 44) (.c (.bool false))) [2,12],
 Zm 31 45 [13,2]] [] [5,19,32,33,34,45])
 (.cond (.t 31)
 (.seq (.region [Zz 4 (.mov (.c (.int .i64 5))) []] [] [2,3,12,13,14,59,52,58,57,54,56,55,53,51,44,36,43,42,41,38,40,39,37,35,29,25,28,27,26,24,6,31])
 .ret)
 (.seq (.region [Zf 47 1 6 [],
 Zl 48 47 [0],
 Zz 49 (.bin .lss (.t 48) (.c (.int .i64 0))) [1],
 Zm 50 49 [2],
 Zx 51 (.faddr 1 (.t 6)) [3] 50 false,
 Zx 52 (.load none (.t 51)) [4,3] 50 false,
 Zx 53 (.faddr 0 (.t 2)) [3] 50 false,
 Zx 54 (.load none (.t 53)) [6,3] 50 false,
 Zx 55 (.faddr 0 (.t 6)) [3] 50 false,
 Zx 56 (.load none (.t 55)) [8,3] 50 false,
 Zx 57 (.iaddr none 1 (.t 54) (.t 56)) [7,9,3] 50 false,
 Zx 58 (.load none (.t 57)) [10,3] 50 false,
 Zx 59 (.bin .geq (.t 52) (.t 58)) [5,11,3] 50 false,
 Zz 60 (.pick (.t 50) (.c (.bool true)) (.t 59)) [3,12],
 Zm 46 60 [13,3]] [] [6,31,47,48,49,50,60])
 (.cond (.t 46)
 (.seq (.region [Zz 4 (.mov (.c (.int .i64 2))) []] [] [2,3,12,13,14,59,52,58,57,54,56,55,53,51,44,36,43,42,41,38,40,39,37,35,29,25,28,27,26,24,46])
 .ret)
 .skip)))))))))
 (.region [Zz 61 (.bin .add (.t 14) (.c (.int .i64 1))) [],
 Zm 14 61 [0]] [] [4,46,61])))))))
 (.seq (.region [Zz 4 (.mov (.c (.int .i64 0))) []] [] [2,3,12,13,14,59,52,58,57,54,56,55,53,51,44,36,43,42,41,38,40,39,37,35,29,25,28,27,26,24])
 .ret))))⟩
def s105:SFn:=⟨59,[.tmp 4],
 (.seq (.region [Zz 2 (.box .dyn (.t 0)) [],
 Zz 3 (.box .dyn (.t 1)) [],
 Zz 4 (.mov (.c (.int .i64 0))) []] [] [0,1,4])
 (.seq (.seq (.region [Zf 7 1 3 [],
 Zl 8 7 [0],
 Zv 9 8 [1],
 Zz 10 (.bin .eql (.t 9) (.c (.int .i64 0))) [2]] [] [7,8,9])
 (.cond (.t 10)
 (.seq (.region [Zz 4 (.mov (.c (.int .i64 12))) []] [] [2,3,10])
 .ret)
 .skip))
 (.seq (.seq (.region [Zf 11 1 3 [],
 Zl 12 11 [0],
 Zv 13 12 [1],
 Zz 14 (.mov (.c (.int .i64 0))) []] [] [4,10,11])
 (.block 0 (.loop (.seq (.region [Zb 15 .lss 14 13 []] [] [])
 (.seq (.cond (.t 15)
 .skip
 (.exit 0))
 (.seq (.block 1 (.seq (.region [Zm 16 14 [],
 Zi 17 2 12 14 [],
 Zw 18 2 17 [1],
 Zz 6 (.alloc .dyn (.agg [(.int .i64 0),(.int .i64 0)])) [],
 Zm 5 16 [0,0,1,2,3],
 Zs 2 6 18 (Za [3,2,4] 5)] [] [15,16,17,18])
 (.block 2 (.seq (.region [Zf 20 0 6 [],
 Zl 21 20 [0],
 Zz 22 (.bin .lss (.t 21) (.c (.int .i64 0))) [1],
 Zm 23 22 [2],
 Zx 24 (.faddr 0 (.t 6)) [3] 23 false,
 Zx 25 (.load none (.t 24)) [4,3] 23 false,
 Zx 26 (.faddr 0 (.t 2)) [3] 23 false,
 Zx 27 (.load none (.t 26)) [6,3] 23 false,
 Zx 28 (.len 1 (.t 27)) [7,3] 23 false,
 Zx 29 (.bin .geq (.t 25) (.t 28)) [5,8,3] 23 false,
 Zz 30 (.pick (.t 23) (.c (.bool true)) (.t 29)) [3,9],
 Zm 19 30 [10,3]] [] [20,21,22,23,30])
 (.cond (.t 19)
 (.seq (.region [Zz 4 (.mov (.c (.int .i64 2))) []] [] [2,3,12,13,14,53,52,51,44,36,43,42,41,38,40,39,37,35,29,25,28,27,26,24,6,5,19])
 .ret)
 (.seq (.region [Zm 32 5 [],
 Zz 33 (.bin .gtr (.t 32) (.c (.int .i64 0))) [0],
 Zm 34 33 [1],
 Zx 35 (.faddr 0 (.t 6)) [2] 34 true,
 Zx 36 (.load none (.t 35)) [3,2] 34 true,
 Zx 37 (.faddr 1 (.t 3)) [2] 34 true,
 Zx 38 (.load none (.t 37)) [5,2] 34 true,
 Zx 39 (.mov (.t 5)) [2] 34 true,
 Zx 40 (.bin .sub (.t 39) (.c (.int .i64 1))) [7,2] 34 true,
 Zx 41 (.iaddr none 2 (.t 38) (.t 40)) [6,8,2] 34 true,
 Zx 42 (.faddr 0 (.t 41)) [9,2] 34 true,
 Zx 43 (.load none (.t 42)) [10,2] 34 true,
 Zx 44 (.bin .leq (.t 36) (.t 43)) [4,11,2] 34 true,
 Zz 45 (.pick (.t 34) (.t 44) (.c (.bool false))) [2,12],
 Zm 31 45 [13,2]] [] [5,19,32,33,34,45])
 (.cond (.t 31)
 (.seq (.region [Zz 4 (.mov (.c (.int .i64 5))) []] [] [2,3,12,13,14,53,52,51,44,36,43,42,41,38,40,39,37,35,29,25,28,27,26,24,6,31])
 .ret)
 (.seq (.region [Zf 47 1 6 [],
 Zl 48 47 [0],
 Zz 49 (.bin .eql (.t 48) (.c (.int .i64 0))) [1],
 Zm 50 49 [2],
 Zx 51 (.faddr 1 (.t 6)) [3] 50 false,
 Zx 52 (.load none (.t 51)) [4,3] 50 false,
 Zx 53 (.call .pure (.f 190) [(.t 52)]) [5,3,3] 50 false,
 Zz 54 (.pick (.t 50) (.c (.bool true)) (.t 53)) [3,6],
 Zm 46 54 [7,6]] [] [6,31,47,48,49,50,54])
 (.cond (.t 46)
 (.seq (.region [Zz 4 (.mov (.c (.int .i64 2))) []] [] [2,3,12,13,14,53,52,51,44,36,43,42,41,38,40,39,37,35,29,25,28,27,26,24,46])
 .ret)
 .skip)))))))))
 (.region [Zz 55 (.bin .add (.t 14) (.c (.int .i64 1))) [],
 Zm 14 55 [0]] [] [4,46,55])))))))
 (.seq (.seq (.region [Zf 56 2 3 [],
 Zl 57 56 [0],
 Zz 58 (.call .pure (.f 190) [(.t 57)]) [1]] [] [2,3,12,13,14,53,52,51,44,36,43,42,41,38,40,39,37,35,29,25,28,27,26,24,56,57])
 (.cond (.t 58)
 (.seq (.region [Zz 4 (.mov (.c (.int .i64 2))) []] [] [58])
 .ret)
 .skip))
 (.seq (.region [Zz 4 (.mov (.c (.int .i64 0))) []] [] [58])
 .ret)))))⟩
def s110:SFn:=⟨19,[.tmp 4],
 (.seq (.region [Zz 4 (.mov (.c (.int .i64 0))) []] [] [4])
 (.seq (.seq (.region [Zm 6 0 [],
 Zv 7 6 [0],
 Zz 8 (.mov (.c (.int .i64 0))) []] [] [6])
 (.block 0 (.loop (.seq (.region [Zb 9 .lss 8 7 []] [] [])
 (.seq (.cond (.t 9)
 .skip
 (.exit 0))
 (.seq (.block 1 (.seq (.region [Zm 10 8 [],
 Zm 5 10 [0,0]] [] [9,10])
 (.seq (.region [Zm 11 1 [],
 Zm 12 0 [],
 Zm 13 5 [],
 Zi 14 1 12 13 [1,2],
 Zl 15 14 [3],
 Zz 16 (.call .pure (.t 11) [(.t 15)]) [0,4]] [] [11,12,13,14,15])
 (.cond (.t 16)
 (.seq (.region [Zm 17 5 [],
 Zm 4 17 [0,0]] [] [0,1,7,8,5,16,17])
 .ret)
 .skip))))
 (.region [Zz 18 (.bin .add (.t 8) (.c (.int .i64 1))) [],
 Zm 8 18 [0]] [] [4,5,16,18])))))))
 (.seq (.region [Zz 4 (.mov (.c (.int .i64 (-1)))) []] [] [0,1,7,8])
 .ret)))⟩
def s148:SFn:=⟨8,[.tmp 2],
 (.seq (.region [Zz 2 (.mov (.c .nilsl)) []] [] [2])
 (.seq (.seq (.region [Zm 3 0 [],
 Zz 4 (.eqn false (.t 3)) [0]] [] [3])
 (.cond (.t 4)
 (.seq (.region [Zz 2 (.mov (.c .nilsl)) []] [] [0,4])
 .ret)
 .skip))
 (.seq (.region [Zz 5 (.bslice false .dyn 2 0 [] []) [],
 Zm 6 0 [],
 Zz 7 (.append .dyn 2 16 (.t 5) (.t 6)) [0,1],
 Zm 2 7 [2,2,0,1,2]] [] [0,4,5,6,7])
 .ret)))⟩
def s149:SFn:=⟨8,[.tmp 2],
 (.seq (.region [Zz 2 (.mov (.c .nilsl)) []] [] [2])
 (.seq (.seq (.region [Zm 3 0 [],
 Zz 4 (.eqn false (.t 3)) [0]] [] [3])
 (.cond (.t 4)
 (.seq (.region [Zz 2 (.mov (.c .nilsl)) []] [] [0,4])
 .ret)
 .skip))
 (.seq (.region [Zz 5 (.bslice false .dyn 2 0 [] []) [],
 Zm 6 0 [],
 Zz 7 (.append .dyn 2 16 (.t 5) (.t 6)) [0,1],
 Zm 2 7 [2,2,0,1,2]] [] [0,4,5,6,7])
 .ret)))⟩
def s166:SFn:=⟨7,[.tmp 3],
 (.seq (.region [Zz 3 (.mov (.c (.bool false))) []] [] [3])
 (.seq (.region [Zm 4 0 [],
 Zl 5 1 [],
 Zb 6 .geq 4 5 [0,1],
 Zm 3 6 [2,0,1,2]] [] [0,1,4,5,6])
 .ret))⟩
def s167:SFn:=⟨10,[.tmp 4],
 (.seq (.region [Zz 4 (.mov (.c (.bool false))) []] [] [4])
 (.seq (.region [Zm 5 0 [],
 Zm 6 1 [],
 Zz 7 (.call .pure (.f 219) [(.t 5),(.t 6)]) [0,1],
 Zv 8 7 [2],
 Zz 9 (.bin .eql (.t 8) (.c (.int .i64 0))) [3],
 Zm 4 9 (Za [4,2] 5)] [] [0,1,5,6,7,8,9])
 .ret))⟩
def s168:SFn:=⟨74,[.tmp 6],
 (.seq (.region [Zz 6 (.mov (.c .nilsl)) []] [] [6])
 (.seq (.region [Zz 7 (.mov (.c .nilsl)) []] [] [])
 (.seq (.block 0 (.loop (.seq (.seq (.region [Zm 11 0 [],
 Zv 12 11 [0],
 Zz 13 (.bin .gtr (.t 12) (.c (.int .i64 0))) [1],
 Zm 14 13 [2],
 Zx 15 (.mov (.t 1)) [3] 14 false,
 Zx 16 (.len 1 (.t 15)) [4,3] 14 false,
 Zx 17 (.bin .gtr (.t 16) (.c (.int .i64 0))) [5,3] 14 false,
 Zz 18 (.pick (.t 14) (.c (.bool true)) (.t 17)) [3,6]] [] [11,12,13,14])
 (.cond (.t 18)
 .skip
 (.exit 0)))
 (.block 1 (.seq (.region [Zm 19 0 [],
 Zv 20 19 [0],
 Zz 21 (.bin .gtr (.t 20) (.c (.int .i64 0))) [1],
 Zm 22 21 [2],
 Zx 23 (.mov (.t 1)) [3] 22 true,
 Zx 24 (.len 1 (.t 23)) [4,3] 22 true,
 Zx 25 (.bin .eql (.t 24) (.c (.int .i64 0))) [5,3] 22 true,
 Zx 26 (.mov (.t 25)) [6,3,3] 22 true,
 Zx 27 (.mov (.t 0)) [7] 26 false,
 Zx 28 (.iaddr none 1 (.t 27) (.c (.int .i64 0))) [8,7] 26 false,
 Zx 29 (.load none (.t 28)) [9,7] 26 false,
 Zx 30 (.mov (.t 1)) [7] 26 false,
 Zx 31 (.iaddr none 1 (.t 30) (.c (.int .i64 0))) [11,7] 26 false,
 Zx 32 (.load none (.t 31)) [12,7] 26 false,
 Zx 33 (.bin .leq (.t 29) (.t 32)) [10,13,7] 26 false,
 Zx 34 (.pick (.t 26) (.c (.bool true)) (.t 33)) [7,14,3] 22 true,
 Zz 35 (.pick (.t 22) (.t 34) (.c (.bool false))) [3,15],
 Zm 8 35 (Za [16,7] 17)] [] [18,19,20,21,22,35])
 (.seq (.region [Zm 36 1 [],
 Zv 37 36 [0],
 Zz 38 (.bin .gtr (.t 37) (.c (.int .i64 0))) [1],
 Zm 39 38 [2],
 Zx 40 (.mov (.t 0)) [3] 39 true,
 Zx 41 (.len 1 (.t 40)) [4,3] 39 true,
 Zx 42 (.bin .eql (.t 41) (.c (.int .i64 0))) [5,3] 39 true,
 Zx 43 (.mov (.t 42)) [6,3,3] 39 true,
 Zx 44 (.mov (.t 1)) [7] 43 false,
 Zx 45 (.iaddr none 1 (.t 44) (.c (.int .i64 0))) [8,7] 43 false,
 Zx 46 (.load none (.t 45)) [9,7] 43 false,
 Zx 47 (.mov (.t 0)) [7] 43 false,
 Zx 48 (.iaddr none 1 (.t 47) (.c (.int .i64 0))) [11,7] 43 false,
 Zx 49 (.load none (.t 48)) [12,7] 43 false,
 Zx 50 (.bin .leq (.t 46) (.t 49)) [10,13,7] 43 false,
 Zx 51 (.pick (.t 43) (.c (.bool true)) (.t 50)) [7,14,3] 39 true,
 Zz 52 (.pick (.t 39) (.t 51) (.c (.bool false))) [3,15],
 Zm 9 52 (Za [16,7] 17)] [] [36,37,38,39,52])
 (.seq (.region [Zz 10 (.mov (.c (.int .i64 0))) []] [] [])
 (.seq (.seq (.region [Zm 53 8 []] [] [])
 (.cond (.t 53)
 (.region [Zm 54 0 [],
 Zz 55 (.iaddr none 1 (.t 54) (.c (.int .i64 0))) [0],
 Zl 56 55 [1],
 Zm 57 0 [],
 Zz 58 (.slice (some 1) (.t 57) (some (.c (.int .i64 1))) none none) [3],
 Zm 10 56 [2,0,1,2],
 Zm 0 58 (Za [4,5] 6)] [] [53,54,55,56,57,58])
 .skip))
 (.seq (.seq (.region [Zm 59 9 []] [] [53])
 (.cond (.t 59)
 (.region [Zm 60 1 [],
 Zz 61 (.iaddr none 1 (.t 60) (.c (.int .i64 0))) [0],
 Zl 62 61 [1],
 Zm 63 1 [],
 Zz 64 (.slice (some 1) (.t 63) (some (.c (.int .i64 1))) none none) [3],
 Zm 10 62 [2,0,1,2],
 Zm 1 64 (Za [4,5] 6)] [] [59,60,61,62,63,64])
 .skip))
 (.seq (.region [Zm 65 2 [],
 Zm 66 8 [],
 Zm 67 9 [],
 Zz 68 (.call .pure (.t 65) [(.t 66),(.t 67)]) [0,1,2]] [] [8,9,59,65,66,67])
 (.cond (.t 68)
 (.region [Zm 69 7 [],
 Zm 70 10 [],
 Zz 71 (.bslice false .dyn 1 1 [(.int .i64 0)] [(0,1,(.t 70))]) [1],
 Zz 72 (.append .dyn 1 8 (.t 69) (.t 71)) [0,2],
 Zm 7 72 [3,3,0,1,2,3]] [] [10,68,69,70,71,72])
 .skip)))))))))))
 (.seq (.region [Zm 73 7 [],
 Zm 6 73 [0,0]] [] [0,1,2,7,51,43,50,46,49,48,47,45,44,42,41,40,34,26,33,29,32,31,30,28,27,25,24,23,17,16,15,73])
 .ret))))⟩
def s169:SFn:=⟨9,[.tmp 4],
 (.seq (.region [Zz 4 (.mov (.c (.bool false))) []] [] [4])
 (.seq (.region [Zm 5 0 [],
 Zm 6 5 [0],
 Zx 7 (.mov (.t 1)) [1] 6 false,
 Zz 8 (.pick (.t 6) (.c (.bool true)) (.t 7)) [1,2],
 Zm 4 8 [3,1,0,1,2,3]] [] [0,1,5,6,7,8])
 .ret))⟩
def s190:SFn:=⟨9,[.tmp 2],
 (.seq (.region [Zz 2 (.mov (.c (.bool false))) []] [] [2])
 (.seq (.region [Zm 3 0 [],
 Zz 4 (.bin .lss (.t 3) (.c (.int .i64 (-65536)))) [0],
 Zm 5 4 [1],
 Zx 6 (.mov (.t 0)) [2] 5 false,
 Zx 7 (.bin .gtr (.t 6) (.c (.int .i64 65536))) [3,2] 5 false,
 Zz 8 (.pick (.t 5) (.c (.bool true)) (.t 7)) [2,4],
 Zm 2 8 (Za [5,2] 6)] [] [0,3,4,5,6,7,8])
 .ret))⟩
def s219:SFn:=⟨8,[.tmp 4],
 (.seq (.region [Zz 4 (.mov (.c .nilsl)) []] [] [4])
 (.seq (.region [Zm 5 0 [],
 Zm 6 1 [],
 Zz 7 (.call .pure (.f 168) [(.t 5),(.t 6),(.f 242)]) [0,1],
 Zm 4 7 [2,2,0,1,2]] [] [0,1,5,6,7])
 .ret))⟩
def s242:SFn:=⟨10,[.tmp 4],
 (.seq (.region [Zz 4 (.mov (.c (.bool false))) []] [] [4])
 (.seq (.region [Zm 5 0 [],
 Zm 6 5 [0],
 Zx 7 (.mov (.t 1)) [1] 6 true,
 Zx 8 (.un .not (.t 7)) [2,1] 6 true,
 Zz 9 (.pick (.t 6) (.t 8) (.c (.bool false))) [1,3],
 Zm 4 9 (Za [4,1] 5)] [] [0,1,5,6,7,8,9])
 .ret))⟩
theorem ok21:okFn Tryz.prog 21 s21=true:=by kernel_rfl
theorem ok25:okFn Tryz.prog 25 s25=true:=by kernel_rfl
theorem ok36:okFn Tryz.prog 36 s36=true:=by kernel_rfl
theorem ok60:okFn Tryz.prog 60 s60=true:=by kernel_rfl
theorem ok82:okFn Tryz.prog 82 s82=true:=by kernel_rfl
theorem ok84:okFn Tryz.prog 84 s84=true:=by kernel_rfl
theorem ok85:okFn Tryz.prog 85 s85=true:=by kernel_rfl
theorem ok88:okFn Tryz.prog 88 s88=true:=by kernel_rfl
theorem ok103:okFn Tryz.prog 103 s103=true:=by kernel_rfl
theorem ok105:okFn Tryz.prog 105 s105=true:=by kernel_rfl
theorem ok110:okFn Tryz.prog 110 s110=true:=by kernel_rfl
theorem ok148:okFn Tryz.prog 148 s148=true:=by kernel_rfl
theorem ok149:okFn Tryz.prog 149 s149=true:=by kernel_rfl
theorem ok166:okFn Tryz.prog 166 s166=true:=by kernel_rfl
theorem ok167:okFn Tryz.prog 167 s167=true:=by kernel_rfl
theorem ok168:okFn Tryz.prog 168 s168=true:=by kernel_rfl
theorem ok169:okFn Tryz.prog 169 s169=true:=by kernel_rfl
theorem ok190:okFn Tryz.prog 190 s190=true:=by kernel_rfl
theorem ok219:okFn Tryz.prog 219 s219=true:=by kernel_rfl
theorem ok242:okFn Tryz.prog 242 s242=true:=by kernel_rfl
end Go.AM.SO
namespace Go.AM.SD
abbrev Ed:=Nat×Nat×Nat
end Go.AM.SD
namespace Go.AM.SD
def preds (es:List Ed) (v:Nat):List Nat:=(es.filter fun e=>e.2.2==v).map (·.1)
end Go.AM.SD
namespace Go.AM.SD
structure Rm where
 st:Nat
 rank:Int
 reason:Nat
 ev:Int
deriving DecidableEq
end Go.AM.SD
namespace Go.AM.SD
end Go.AM.SD
namespace Go.AM.SD
end Go.AM.SD
namespace Go.AM.SD
structure Aut where
 al:List Nat
 n:Nat
 ms:List Nat
 es:List Ed
structure WfA (a:Aut):Prop where
 al:a.al.Pairwise (· < ·)
 al5:∀x∈a.al,x<5
 n5:a.n<=5
 ms:a.ms.Pairwise (· < ·)
 msn:∀x∈a.ms,x<a.n
 es:a.es.Pairwise fun x y=>x.1<y.1\/(x.1=y.1/\x.2.1<y.2.1)
 esn:∀e∈a.es,e.1<a.n/\e.2.2<a.n
 ev:∀e∈a.es,e.2.1∈a.al
theorem WfA.nd {a:Aut} (h:WfA a):a.ms.Nodup:=by
 rw[List.nodup_iff_pairwise_ne];exact h.ms.imp fun h=>by omega
theorem WfA.srt {a:Aut} (h:WfA a):a.es.Pairwise fun x y=>x.1<=y.1:=h.es.imp fun h=>by omega
def stepA (es:List Ed) (s ev:Nat):Option Nat:=(es.find? fun e=>e.1==s&&e.2.1==ev).map (·.2.2)
def fEv (es:List Ed) (s:Nat) (out:List Nat) (ev:Nat):List Nat:=match stepA es s ev with|some to=>if out.contains to then out else out++[to]|none=>out
def fRow (al:List Nat) (es:List Ed) (s:Nat) (out:List Nat):List Nat:=al.foldl (fEv es s) out
def fQ (al:List Nat) (es:List Ed):Nat->Nat->List Nat->List Nat
 |0,_,out=>out
 |k+1,i,out=>match out[i]? with|some s=>fQ al es k (i+1) (fRow al es s out)|none=>out
def found (a:Aut):List Nat:=fQ a.al a.es (a.n+1) 0 (if 0<a.n then[0]else[])
def idx (l:List Nat) (x:Nat):Nat:=l.findIdx (· ==x)
def cRow (a:Aut) (f:List Nat) (i s:Nat):List Ed:=a.al.filterMap fun ev=>(stepA a.es s ev).map fun to=>(i,ev,idx f to)
def cRows (a:Aut) (f:List Nat):List Ed:=(List.range f.length).flatMap fun i=>cRow a f i (f.getD i 0)
def canon (a:Aut):Aut:=⟨a.al,(found a).length,(List.range (found a).length).filter fun i=>a.ms.contains ((found a).getD i 0),cRows a (found a)⟩
theorem Qeb {n:Nat} {es:List Ed} (hn:∀e∈es,e.1<n/\e.2.2<n) {s ev to:Nat} (h:stepA es s ev=some to):to<n:=by
 unfold stepA at h
 cases hf:es.find? fun e=>e.1==s&&e.2.1==ev with
 |none=>rw[hf]at h;cases h
 |some e=>rw[hf]at h;cases h;exact(hn e (List.mem_of_find?_eq_some hf)).2
structure FI (n:Nat) (out:List Nat):Prop where
 nd:out.Nodup
 lt:∀x∈out,x<n
theorem QaQ:∀(n:Nat) (l:List Nat),l.Nodup->(∀x∈l,x<n)->l.length<=n
 |0,l,_,h=>by
  cases l with
  |nil=>exact Nat.le_refl _
  |cons x l=>have:=h x (by simp);omega
 | n + 1, l, hn, h => by
  by_cases hm:n∈l
  ·have h1 := QaQ n (l.erase n) (hn.erase n) fun x hx => by
    have h2:=(hn.mem_erase_iff).1 hx
    have:=h x h2.2
    have:=h2.1
    omega
   rw[List.length_erase_of_mem hm]at h1
   omega
  ·have := QaQ n l hn fun x hx => by
    have:=h x hx
    have:x≠n:=fun e=>hm (e▸hx)
    omega
   omega
theorem FI.len {n:Nat} {out:List Nat} (h:FI n out):out.length<=n:=QaQ n out h.nd h.lt
theorem FI.row {n:Nat} {es:List Ed} (hn:∀e∈es,e.1<n/\e.2.2<n) (s:Nat):∀(al:List Nat) (out:List Nat),FI n out->FI n (al.foldl (fEv es s) out)/\(∃t,al.foldl (fEv es s) out=out++t)/\∀ev∈al,∀to,stepA es s ev=some to->to∈al.foldl (fEv es s) out:=by
 intro al
 induction al with
 |nil=>intro out h;exact⟨h,⟨[],by simp⟩,fun ev hev=>by cases hev⟩
 | cons ev al ih =>
  intro out h
  rw[List.foldl_cons]
  have h1:FI n (fEv es s out ev)/\(∃t,fEv es s out ev=out++t)/\∀to,stepA es s ev=some to->to∈fEv es s out ev:=by
   unfold fEv
   cases hs:stepA es s ev with
   |none=>exact⟨h,⟨[],by simp⟩,fun to ht=>by cases ht⟩
   | some to =>
    dsimp only
    split
    ·rename_i hc
     exact⟨h,⟨[],by simp⟩,fun t ht=>by cases ht;simpa using hc⟩
    ·rename_i hc
     refine⟨⟨?_,fun x hx=>?_⟩,⟨[to],rfl⟩,fun t ht=>by cases ht;simp⟩
     ·rw [List.nodup_append]
      refine⟨h.nd,by simp,fun a ha b hb e=>?_⟩
      simp only[List.mem_singleton]at hb
      subst hb;subst e
      exact hc (by simpa using ha)
     ·rcases List.mem_append.1 hx with hx | hx
      ·exact h.lt x hx
      ·simp at hx;subst hx;exact Qeb hn hs
  obtain⟨k1,⟨t,k2⟩,k3⟩:=h1
  obtain⟨j1,⟨t2,j2⟩,j3⟩:=ih _ k1
  refine⟨j1,⟨t++t2,by rw[j2,k2,List.append_assoc]⟩,fun e he to ht=>?_⟩
  rcases List.mem_cons.1 he with rfl|he
  ·rw[j2];exact List.mem_append_left _ (k3 to ht)
  ·exact j3 e he to ht
theorem fQ_ok {n : Nat} {al : List Nat} {es : List Ed} (hn : ∀ e ∈ es, e.1 < n /\ e.2.2 < n) : ∀ (k i : Nat) (out : List Nat), FI n out -> i <= out.length -> n < k + i -> (∀ j s, j < i -> out[j]? = some s -> ∀ ev ∈ al, ∀ to, stepA es s ev = some to -> to ∈ out) ->
    FI n (fQ al es k i out)/\(∃t,fQ al es k i out=out++t)/\∀s∈fQ al es k i out,∀ev∈al,∀to,stepA es s ev=some to->to∈fQ al es k i out:=by
  intro k
  induction k with
  |zero=>intro i out h hi hk _;have:=h.len;omega
  | succ k ih =>
    intro i out h hi hk hd
    unfold fQ
    cases hs:out[i]? with
    | none =>
      have hil:out.length<=i:=List.getElem?_eq_none_iff.1 hs
      refine⟨h,⟨[],by simp⟩,fun s hm ev hev to ht=>?_⟩
      have hm:s∈out:=hm
      obtain⟨j,hj⟩:=List.getElem?_of_mem hm
      have hjl:j<out.length:=(List.getElem?_eq_some_iff.1 hj).1
      exact hd j s (by omega) hj ev hev to ht
    | some s =>
      dsimp only
      obtain⟨k1,⟨t,k2⟩,k3⟩:=FI.row hn s al out h
      have hil:i<out.length:=(List.getElem?_eq_some_iff.1 hs).1
      have k2:fRow al es s out=out++t:=k2
      obtain⟨j1,⟨t2,j2⟩,j3⟩:=ih (i+1) (fRow al es s out) k1 (by rw[k2,List.length_append];omega) (by omega) fun j s' hj hs' ev hev to ht=>by
        have hjl:j<out.length:=by omega
        rw[k2,List.getElem?_append_left hjl]at hs'
        by_cases hji:j<i
        · rw[k2];exact List.mem_append_left _ (hd j s' hji hs' ev hev to ht)
        · have : j = i := by omega
          subst this
          rw[hs]at hs';cases hs'
          exact k3 ev hev to ht
      exact⟨j1,⟨t++t2,by rw[j2,k2,List.append_assoc]⟩,j3⟩
theorem Qec {a:Aut} (hn:∀e∈a.es,e.1<a.n/\e.2.2<a.n):FI a.n (found a)/\(∃t,found a=(if 0<a.n then[0]else[])++t)/\∀s∈found a,∀ev∈a.al,∀to,stepA a.es s ev=some to->to∈found a:=by
 refine fQ_ok hn (a.n+1) 0 _ ?_ (Nat.zero_le _) (by omega) fun j s hj=>by omega
 split
 ·rename_i h0;exact⟨by simp,fun x hx=>by simp at hx;omega⟩
 ·exact⟨by simp,fun x hx=>by cases hx⟩
theorem QdR {l:List Nat} {x:Nat} (h:x∈l):idx l x<l.length:=List.findIdx_lt_length_of_exists ⟨x,h,by simp⟩
theorem QnY {l:List Nat} {x:Nat} (h:x∈l):l[idx l x]?=some x:=by
 have h1:=QdR h
 rw[List.getElem?_eq_getElem h1]
 have:=List.findIdx_getElem (p:=(· ==x)) (w:=h1)
 exact congrArg some (by simpa using this:l[List.findIdx (· ==x) l]'h1=x)
theorem Qb1 {l:List Nat} {f:Nat->List Ed} {R:Ed->Ed->Prop} (h1:∀i∈l,(f i).Pairwise R) (h2:l.Pairwise fun i j=>∀x∈f i,∀y∈f j,R x y):(l.flatMap f).Pairwise R:=by
 induction l with
 |nil=>exact List.Pairwise.nil
 |cons i l ih=>
  rw[List.pairwise_cons]at h2
  rw[List.flatMap_cons,List.pairwise_append]
  refine⟨h1 i (by simp),ih (fun j hj=>h1 j (by simp[hj])) h2.2,fun x hx y hy=>?_⟩
  obtain⟨j,hj,hy⟩:=List.mem_flatMap.1 hy
  exact h2.1 j hj x hx y hy
theorem Qno {a:Aut} (hal:a.al.Pairwise (· < ·)) (h5:∀x∈a.al,x<5) (hn5:a.n<=5) (hn:∀e∈a.es,e.1<a.n/\e.2.2<a.n):WfA (canon a):=by
 obtain⟨h1,_,h3⟩:=Qec hn
 have hrow:∀i s,∀e∈cRow a (found a) i s,e.1=i/\e.2.1∈a.al/\(s∈found a->e.2.2<(found a).length):=by
  intro i s e he
  obtain⟨ev,hev,hm⟩:=List.mem_filterMap.1 he
  cases hs:stepA a.es s ev with
  |none=>rw[hs]at hm;cases hm
  |some to=>
   rw[hs]at hm;cases hm
   exact⟨rfl,hev,fun hsf=>QdR (h3 s hsf ev hev to hs)⟩
 have hget:∀i,i<(found a).length->(found a).getD i 0∈found a:=fun i hi=>by
  rw[List.getD_eq_getElem?_getD,List.getElem?_eq_getElem hi];exact List.getElem_mem hi
 refine⟨hal,h5,Nat.le_trans h1.len hn5,?_,fun x hx=>?_,?_,fun e he=>?_,fun e he=>?_⟩
 ·exact List.pairwise_lt_range.filter _
 ·have := (List.mem_filter.1 hx).1
  exact List.mem_range.1 this
 ·refine Qb1 (fun i hi => ?_) (List.pairwise_lt_range.imp fun hij x hx y hy => .inl ?_)
  ·refine List.Pairwise.filterMap _ (R := (· < ·)) ?_ hal
   intro x y hxy p hp q hq
   cases hs:stepA a.es ((found a).getD i 0) x with
   |none=>rw[hs]at hp;cases hp
   |some to=>
    cases hs2:stepA a.es ((found a).getD i 0) y with
    |none=>rw[hs2]at hq;cases hq
    |some to2=>rw[hs]at hp;rw[hs2]at hq;cases hp;cases hq;exact .inr ⟨rfl,hxy⟩
  ·rw[(hrow _ _ x hx).1,(hrow _ _ y hy).1];exact hij
 ·obtain ⟨i, hi, he⟩ := List.mem_flatMap.1 he
  have hi:=List.mem_range.1 hi
  obtain⟨h4,_,h6⟩:=hrow _ _ e he
  exact⟨by rw[h4];exact hi,h6 (hget i hi)⟩
 ·obtain ⟨i, hi, he⟩ := List.mem_flatMap.1 he
  exact(hrow _ _ e he).2.1
end Go.AM.SD
namespace Go.AM.SD
abbrev OE:=List Nat×List Ed
def sEd (i:Nat) (s:OE) (e:Ed):OE:=if s.1.contains e.2.2 then(s.1,s.2++[(i,e.2.1,idx s.1 e.2.2)])else(s.1++[e.2.2],s.2++[(i,e.2.1,s.1.length)])
def sOut (es:List Ed) (left:Nat->Bool) (v:Nat):List Ed:=es.filter fun e=>e.1==v&&left e.2.2
def sRow (es:List Ed) (left:Nat->Bool) (i v:Nat) (s:OE):OE:=(sOut es left v).foldl (sEd i) s
def sQ (es:List Ed) (left:Nat->Bool):Nat->Nat->OE->OE
 |0,_,s=>s
 |k+1,i,s=>match s.1[i]? with|some v=>sQ es left k (i+1) (sRow es left i v s)|none=>s
def sAll (a:Aut) (left:Nat->Bool):OE:=sQ a.es left (a.n+1) 0 (if decide (0<a.n)&&left 0 then[0]else[],[])
def restr (a:Aut) (left:Nat->Bool):Aut:=⟨a.al,(sAll a left).1.length,(List.range (sAll a left).1.length).filter fun i=>a.ms.contains ((sAll a left).1.getD i 0),(sAll a left).2⟩
theorem Qc4 {l t:List Nat} {x:Nat} (h:x∈l):idx (l++t) x=idx l x:=by
 unfold idx
 rw[List.findIdx_append,if_pos]
 exact QdR h
theorem QdS {l:List Nat} {x:Nat} (h:x∉l):idx (l++[x]) x=l.length:=by
 unfold idx
 rw[List.findIdx_append]
 have:¬List.findIdx (· ==x) l<l.length:=fun hl=>by
  have:=List.findIdx_getElem (p:=(· ==x)) (w:=hl)
  have e:l[List.findIdx (· ==x) l]=x:=by simpa using this
  exact h (e▸List.getElem_mem hl)
 rw[if_neg this];simp
theorem QoM {l:List Nat} (hn:l.Nodup) {i x:Nat} (h:l[i]?=some x):idx l x=i:=by
 have hm:=List.mem_of_getElem? h
 have h1:=QnY hm
 have hil:=(List.getElem?_eq_some_iff.1 h).1
 have:=QdR hm
 exact(List.getElem?_inj this hn).1 (h1.trans h.symm)
def num (o:List Nat) (i:Nat) (e:Ed):Ed:=(i,e.2.1,idx o e.2.2)
theorem Qdp {n : Nat} {left : Nat -> Bool} (i : Nat) : ∀ (es2 : List Ed) (s : OE), (∀ e ∈ es2, e.2.2 < n /\ left e.2.2 = true) -> FI n s.1 -> (∀ x ∈ s.1, left x = true) ->
    FI n (es2.foldl (sEd i) s).1/\(∀x∈(es2.foldl (sEd i) s).1,left x=true)/\(∃t,(es2.foldl (sEd i) s).1=s.1++t)/\(∀e∈es2,e.2.2∈(es2.foldl (sEd i) s).1)/\(es2.foldl (sEd i) s).2=s.2++es2.map (num (es2.foldl (sEd i) s).1 i):=by
  intro es2
  induction es2 with
  |nil=>intro s _ h hl;exact⟨h,hl,⟨[],by simp⟩,(fun e he=>by cases he),by simp⟩
  | cons e es2 ih =>
    intro s hes h hl
    rw[List.foldl_cons]
    obtain⟨he1,he2⟩:=hes e (by simp)
    by_cases hc:s.1.contains e.2.2=true
    · have e1 : sEd i s e = (s.1, s.2 ++ [(i, e.2.1, idx s.1 e.2.2)]) := if_pos hc
      have hm:e.2.2∈s.1:=by simpa using hc
      rw[e1]
      obtain⟨k1,k2,⟨t,k3⟩,k4,k5⟩:=ih (s.1,s.2++[(i,e.2.1,idx s.1 e.2.2)]) (fun x hx=>hes x (by simp[hx])) h hl
      refine⟨k1,k2,⟨t,k3⟩,fun x hx=>?_,?_⟩
      · rcases List.mem_cons.1 hx with rfl | hx
        · rw[k3];exact List.mem_append_left _ hm
        · exact k4 x hx
      · rw [k5, List.map_cons]
        have:num (es2.foldl (sEd i) (s.1,s.2++[(i,e.2.1,idx s.1 e.2.2)])).1 i e=(i,e.2.1,idx s.1 e.2.2):=by
          unfold num;rw[k3,Qc4 hm]
        rw[this];simp
    · have e1 : sEd i s e = (s.1 ++ [e.2.2], s.2 ++ [(i, e.2.1, s.1.length)]) := if_neg hc
      have hm:e.2.2∉s.1:=by simpa using hc
      rw[e1]
      obtain⟨k1,k2,⟨t,k3⟩,k4,k5⟩:=ih (s.1++[e.2.2],s.2++[(i,e.2.1,s.1.length)]) (fun x hx=>hes x (by simp[hx]))
        ⟨by
          rw[List.nodup_append]
          refine⟨h.nd,by simp,fun a ha b hb e=>?_⟩
          simp only[List.mem_singleton]at hb
          subst hb;subst e;exact hm ha,fun x hx=>by
          rcases List.mem_append.1 hx with hx|hx
          · exact h.lt x hx
          · simp at hx;subst hx;exact he1⟩
        (fun x hx=>by
          rcases List.mem_append.1 hx with hx|hx
          · exact hl x hx
          · simp at hx;subst hx;exact he2)
      have k3:(es2.foldl (sEd i) (s.1++[e.2.2],s.2++[(i,e.2.1,s.1.length)])).1=(s.1++[e.2.2])++t:=k3
      refine⟨k1,k2,⟨[e.2.2]++t,by rw[k3,List.append_assoc]⟩,fun x hx=>?_,?_⟩
      · rcases List.mem_cons.1 hx with rfl | hx
        · rw[k3];simp
        · exact k4 x hx
      · rw [k5, List.map_cons]
        have:num (es2.foldl (sEd i) (s.1++[e.2.2],s.2++[(i,e.2.1,s.1.length)])).1 i e=(i,e.2.1,s.1.length):=by
          unfold num;rw[k3,Qc4 (by simp),QdS hm]
        rw[this];simp
structure SI (n:Nat) (es:List Ed) (left:Nat->Bool) (i:Nat) (s:OE):Prop where
 fi:FI n s.1
 lft:∀x∈s.1,left x=true
 le:i<=s.1.length
 cl:∀j v,j<i->s.1[j]?=some v->∀e∈sOut es left v,e.2.2∈s.1
 ed:s.2=(List.range i).flatMap fun j=>(sOut es left (s.1.getD j 0)).map (num s.1 j)
theorem QaU {es:List Ed} {left:Nat->Bool} {v:Nat} {e:Ed}:e∈sOut es left v↔e∈es/\e.1=v/\left e.2.2=true:=by
 unfold sOut;rw[List.mem_filter];simp
theorem SI.step {n : Nat} {es : List Ed} {left : Nat -> Bool} (hn : ∀ e ∈ es, e.1 < n /\ e.2.2 < n) {i v : Nat} {s : OE} (h : SI n es left i s) (hv : s.1[i]? = some v) : SI n es left (i + 1) (sRow es left i v s) := by
  obtain⟨k1,k2,⟨t,k3⟩,k4,k5⟩:=Qdp i (sOut es left v) s (fun e he=>⟨(hn e (QaU.1 he).1).2,(QaU.1 he).2.2⟩) h.fi h.lft
  have hil:i<s.1.length:=(List.getElem?_eq_some_iff.1 hv).1
  have k3:(sRow es left i v s).1=s.1++t:=k3
  have hget:∀j,j<s.1.length->(sRow es left i v s).1.getD j 0=s.1.getD j 0:=fun j hj=>by
    rw[k3,List.getD_eq_getElem?_getD,List.getD_eq_getElem?_getD,List.getElem?_append_left hj]
  refine⟨k1,k2,by rw[k3,List.length_append];omega,fun j u hj hu e he=>?_,?_⟩
  · rw [k3, List.getElem?_append_left (by omega)] at hu
    by_cases hji:j<i
    · rw[k3];exact List.mem_append_left _ (h.cl j u hji hu e he)
    · have : j = i := by omega
      subst this
      rw[hv]at hu;cases hu
      exact k4 e he
  · show (sRow es left i v s).2 = _
    have k5:(sRow es left i v s).2=s.2++(sOut es left v).map (num (sRow es left i v s).1 i):=k5
    rw[k5,h.ed,List.range_succ,List.flatMap_append]
    congr 1
    · have : ∀ j ∈ List.range i, (sOut es left (s.1.getD j 0)).map (num s.1 j) = (sOut es left ((sRow es left i v s).1.getD j 0)).map (num (sRow es left i v s).1 j) := fun j hj => by
        have hj:=List.mem_range.1 hj
        rw[hget j (by omega)]
        have hjg:s.1[j]?=some (s.1.getD j 0):=by
          rw[List.getD_eq_getElem?_getD,List.getElem?_eq_getElem (by omega)];rfl
        refine List.map_congr_left fun e he=>?_
        unfold num
        rw[k3,Qc4 (h.cl j _ hj hjg e he)]
      rw[List.flatMap_def,List.flatMap_def,List.map_congr_left this]
    · have : (sRow es left i v s).1.getD i 0 = v := by rw [hget i hil, List.getD_eq_getElem?_getD, hv]; rfl
      simp only[List.flatMap_cons,List.flatMap_nil,List.append_nil,this]
theorem sQ_ok {n:Nat} {es:List Ed} {left:Nat->Bool} (hn:∀e∈es,e.1<n/\e.2.2<n):∀(k i:Nat) (s:OE),SI n es left i s->n<k+i->SI n es left (sQ es left k i s).1.length (sQ es left k i s)/\∃t,(sQ es left k i s).1=s.1++t:=by
 intro k
 induction k with
 |zero=>intro i s h hk;have:=h.fi.len;have:=h.le;omega
 | succ k ih =>
  intro i s h hk
  unfold sQ
  cases hv:s.1[i]? with
  |some v=>
   obtain⟨h1,t,h2⟩:=ih (i+1) _ (h.step hn hv) (by omega)
   obtain⟨_,_,⟨t0,k3⟩,_,_⟩:=Qdp i (sOut es left v) s (fun e he=>⟨(hn e (QaU.1 he).1).2,(QaU.1 he).2.2⟩) h.fi h.lft
   have k3:(sRow es left i v s).1=s.1++t0:=k3
   exact⟨h1,t0++t,by rw[h2,k3,List.append_assoc]⟩
  |none=>
   have:s.1.length=i:=by have:=List.getElem?_eq_none_iff.1 hv;have:=h.le;omega
   dsimp only
   rw[this];exact⟨h,[],by simp⟩
theorem QeY {a:Aut} {left:Nat->Bool} (h:WfA a):SI a.n a.es left (sAll a left).1.length (sAll a left)/\∃t,(sAll a left).1=(if decide (0<a.n)&&left 0 then[0]else[])++t:=by
 refine sQ_ok h.esn (a.n+1) 0 _ ?_ (by omega)
 refine⟨?_,fun x hx=>?_,Nat.zero_le _,fun j v hj=>by omega,by simp⟩
 ·split
  ·rename_i hc
   simp only[Bool.and_eq_true,decide_eq_true_eq]at hc
   exact⟨by simp,fun x hx=>by simp at hx;omega⟩
  ·exact⟨by simp,fun x hx=>by cases hx⟩
 ·dsimp only at hx
  split at hx
  ·rename_i hc
   simp only[Bool.and_eq_true]at hc
   simp at hx;subst hx;exact hc.2
  ·cases hx
theorem Qnp {a:Aut} {left:Nat->Bool} (h:WfA a):WfA (restr a left):=by
 obtain⟨hs,_⟩:=QeY (left:=left) h
 have hmem:∀(j:Nat) (e:Ed),j<(sAll a left).1.length->e∈(sOut a.es left ((sAll a left).1.getD j 0)).map (num (sAll a left).1 j)->∃e'∈a.es,e'.1=(sAll a left).1.getD j 0/\e=(j,e'.2.1,idx (sAll a left).1 e'.2.2)/\e'.2.2∈(sAll a left).1:=by
  intro j e hj he
  obtain⟨e',he',rfl⟩:=List.mem_map.1 he
  have hjg:(sAll a left).1[j]?=some ((sAll a left).1.getD j 0):=by
   rw[List.getD_eq_getElem?_getD,List.getElem?_eq_getElem hj];rfl
  exact⟨e',(QaU.1 he').1,(QaU.1 he').2.1,rfl,hs.cl j _ hj hjg e' he'⟩
 refine⟨h.al,h.al5,Nat.le_trans hs.fi.len h.n5,List.pairwise_lt_range.filter _,fun x hx=>List.mem_range.1 (List.mem_filter.1 hx).1,?_,fun e he=>?_,fun e he=>?_⟩
 ·show (sAll a left).2.Pairwise _
  rw[hs.ed]
  refine Qb1 (fun j hj=>?_) (List.pairwise_lt_range.imp_of_mem fun{i j} hi hj hij x hx y hy=> .inl ?_)
  ·rw [List.pairwise_map]
   have:(sOut a.es left ((sAll a left).1.getD j 0)).Pairwise fun x y=>x.1<y.1\/(x.1=y.1/\x.2.1<y.2.1):=h.es.filter _
   refine this.imp_of_mem fun{x y} hx hy hxy=> .inr ⟨rfl,?_⟩
   have h1:=(QaU.1 hx).2.1
   have h2:=(QaU.1 hy).2.1
   show x.2.1<y.2.1
   omega
  ·obtain ⟨_, _, _, e1, _⟩ := hmem i x (List.mem_range.1 hi) hx
   obtain⟨_,_,_,e2,_⟩:=hmem j y (List.mem_range.1 hj) hy
   rw[e1,e2];exact hij
 ·have he : e ∈ (sAll a left).2 := he
  rw[hs.ed]at he
  obtain⟨j,hj,he⟩:=List.mem_flatMap.1 he
  obtain⟨e',_,_,e1,e2⟩:=hmem j e (List.mem_range.1 hj) he
  rw[e1];exact⟨List.mem_range.1 hj,QdR e2⟩
 ·have he : e ∈ (sAll a left).2 := he
  rw[hs.ed]at he
  obtain⟨j,hj,he⟩:=List.mem_flatMap.1 he
  obtain⟨e',h3,_,e1,e2⟩:=hmem j e (List.mem_range.1 hj) he
  rw[e1];exact h.ev e' h3
theorem QnZ {o:List Nat} (ho:o.Nodup) (i:Nat):∀(es2:List Ed) (s:OE) (t:List Nat),(es2.foldl (sEd i) s).1++t=o->(∃t',s.1++t'=o)->
  (es2.map (num o i)).foldl (sEd i) (List.range s.1.length,s.2)=(List.range (es2.foldl (sEd i) s).1.length,(es2.foldl (sEd i) s).2):=by
 intro es2
 induction es2 with
 |nil=>intro s t _ _;rfl
 | cons e es2 ih =>
  intro s t ht hs
  rw[List.foldl_cons]at ht
  rw[List.map_cons,List.foldl_cons,List.foldl_cons]
  obtain⟨t',hs⟩:=hs
  have hpre:∀(es2:List Ed) (s:OE),∃u,(es2.foldl (sEd i) s).1=s.1++u:=by
   intro es2
   induction es2 with
   |nil=>intro s;exact⟨[],by simp⟩
   |cons e es2 ih=>
    intro s
    rw[List.foldl_cons]
    obtain⟨u,hu⟩:=ih (sEd i s e)
    rw[hu]
    unfold sEd
    split
    ·exact⟨u,rfl⟩
    ·exact⟨[e.2.2]++u,by rw[<-List.append_assoc]⟩
  by_cases hc:s.1.contains e.2.2=true
  ·have e1 : sEd i s e = (s.1, s.2 ++ [(i, e.2.1, idx s.1 e.2.2)]) := if_pos hc
   have hm:e.2.2∈s.1:=by simpa using hc
   have hidx:idx o e.2.2=idx s.1 e.2.2:=by rw[<-hs];exact Qc4 hm
   have e2:sEd i (List.range s.1.length,s.2) (num o i e)=(List.range s.1.length,s.2++[(i,e.2.1,idx s.1 e.2.2)]):=by
    have hlt:idx o e.2.2<s.1.length:=by rw[hidx];exact QdR hm
    unfold sEd num
    rw[if_pos (by simpa using hlt)]
    have:idx (List.range s.1.length) (idx o e.2.2)=idx o e.2.2:=QoM List.nodup_range (List.getElem?_range hlt)
    rw[hidx]at this⊢
    simp only[this]
   rw[e1]at ht⊢
   rw[e2]
   exact ih (s.1,_) t ht ⟨t',hs⟩
  ·have e1 : sEd i s e = (s.1 ++ [e.2.2], s.2 ++ [(i, e.2.1, s.1.length)]) := if_neg hc
   have hm:e.2.2∉s.1:=by simpa using hc
   rw[e1]at ht⊢
   obtain⟨u,hu⟩:=hpre es2 (s.1++[e.2.2],s.2++[(i,e.2.1,s.1.length)])
   have ho2:o=(s.1++[e.2.2])++(u++t):=by rw[<-ht,hu,List.append_assoc]
   have hidx:idx o e.2.2=s.1.length:=by rw[ho2,Qc4 (by simp),QdS hm]
   have e2:sEd i (List.range s.1.length,s.2) (num o i e)=(List.range (s.1++[e.2.2]).length,s.2++[(i,e.2.1,s.1.length)]):=by
    unfold sEd num
    rw[if_neg (by rw[hidx];simp)]
    simp only[hidx,List.length_append,List.length_singleton,List.range_succ,List.length_range]
   rw[e2]
   exact ih (s.1++[e.2.2],_) t ht ⟨u++t,ho2.symm⟩
theorem QoN {n:Nat} {es es':List Ed} {left:Nat->Bool} {o:List Nat} (ho:o.Nodup) (hn:∀e∈es,e.1<n/\e.2.2<n) (hout:∀i v,o[i]?=some v->sOut es' (fun _=>true) i=(sOut es left v).map (num o i)):∀(k i:Nat) (s:OE) (k':Nat),SI n es left i s->n<k+i->n<k'+i->(sQ es left k i s).1=o->
  sQ es' (fun _=>true) k' i (List.range s.1.length,s.2)=(List.range o.length,(sQ es left k i s).2):=by
 intro k
 induction k with
 |zero=>intro i s k' h hk _ _;have:=h.fi.len;have:=h.le;omega
 | succ k ih =>
  intro i s k' h hk hk' hq
  cases k' with
  |zero=>have:=h.fi.len;have:=h.le;omega
  | succ k' =>
   unfold sQ at hq⊢
   cases hv:s.1[i]? with
   |none=>
    have hil:s.1.length<=i:=List.getElem?_eq_none_iff.1 hv
    rw[hv]at hq
    have hq:s.1=o:=hq
    have:(List.range s.1.length)[i]?=none:=List.getElem?_eq_none (by simpa using hil)
    dsimp only
    rw[this,hq]
   | some v =>
    have hil:i<s.1.length:=(List.getElem?_eq_some_iff.1 hv).1
    rw[hv]at hq
    have hq:(sQ es left k (i+1) (sRow es left i v s)).1=o:=hq
    have:(List.range s.1.length)[i]?=some i:=List.getElem?_range hil
    dsimp only
    rw[this]
    dsimp only
    have hstep:=h.step hn hv
    obtain⟨_,t,h2⟩:=sQ_ok hn k (i+1) _ hstep (by omega)
    rw[hq]at h2
    obtain⟨_,_,⟨t0,k3⟩,_,_⟩:=Qdp i (sOut es left v) s (fun e he=>⟨(hn e (QaU.1 he).1).2,(QaU.1 he).2.2⟩) h.fi h.lft
    have k3:(sRow es left i v s).1=s.1++t0:=k3
    have hov:o[i]?=some v:=by
     rw[h2,k3,List.append_assoc,List.getElem?_append_left hil];exact hv
    have hrow:sRow es' (fun _=>true) i i (List.range s.1.length,s.2)=(List.range (sRow es left i v s).1.length,(sRow es left i v s).2):=by
     unfold sRow
     rw[hout i v hov]
     exact QnZ ho i _ s t h2.symm ⟨t0++t,by rw[h2,k3,List.append_assoc]⟩
    rw[hrow]
    exact ih (i+1) _ k' hstep (by omega) (by omega) hq
theorem Qlj {a : Aut} {left : Nat -> Bool} (h : WfA a) {i v : Nat} (hv : (sAll a left).1[i]? = some v) : sOut (restr a left).es (fun _ => true) i = (sOut a.es left v).map (num (sAll a left).1 i) := by
  obtain⟨hs,_⟩:=QeY (left:=left) h
  have hil:i<(sAll a left).1.length:=(List.getElem?_eq_some_iff.1 hv).1
  show(sAll a left).2.filter _=_
  rw[hs.ed,List.filter_flatMap]
  have h1:∀j∈List.range (sAll a left).1.length,(((sOut a.es left ((sAll a left).1.getD j 0)).map (num (sAll a left).1 j)).filter fun e=>e.1==i&&true)=if j=i then(sOut a.es left v).map (num (sAll a left).1 i)else[]:=by
    intro j _
    by_cases e:j=i
    · subst e
      rw[if_pos rfl,List.getD_eq_getElem?_getD,hv]
      refine List.filter_eq_self.2 fun x hx=>?_
      obtain⟨y,_,rfl⟩:=List.mem_map.1 hx
      simp[num]
    · rw [if_neg e]
      refine List.filter_eq_nil_iff.2 fun x hx=>?_
      obtain⟨y,_,rfl⟩:=List.mem_map.1 hx
      simp[num,e]
  rw[List.flatMap_def,List.map_congr_left h1,<-List.flatMap_def]
  have key:∀(l:List Nat) (X:List Ed),l.Nodup->(l.flatMap fun j=>if j=i then X else[])=if i∈l then X else[]:=by
    intro l X
    induction l with
    |nil=>intro _;rfl
    | cons j l ih =>
      intro hn
      rw[List.nodup_cons]at hn
      rw[List.flatMap_cons,ih hn.2]
      by_cases e:j=i
      · subst e;simp[hn.1]
      · have : (i ∈ j :: l) = (i ∈ l) := by rw [List.mem_cons]; exact propext ⟨fun h => h.resolve_left (fun h => e h.symm), .inr⟩
        simp only[if_neg e,List.nil_append,this]
  rw[key _ _ List.nodup_range,if_pos (List.mem_range.2 hil)]
theorem Qlk {a:Aut} {left:Nat->Bool} (h:WfA a):sAll (restr a left) (fun _=>true)=(List.range (restr a left).n,(restr a left).es):=by
 obtain⟨hs,t,ht⟩:=QeY (left:=left) h
 have h0:SI a.n a.es left 0 ((if decide (0<a.n)&&left 0 then[0]else[],[]):OE):=by
  refine⟨?_,fun x hx=>?_,Nat.zero_le _,fun j v hj=>by omega,by simp⟩
  ·split
   ·rename_i hc
    simp only[Bool.and_eq_true,decide_eq_true_eq]at hc
    exact⟨by simp,fun x hx=>by simp at hx;omega⟩
   ·exact⟨by simp,fun x hx=>by cases hx⟩
  ·dsimp only at hx
   split at hx
   ·rename_i hc
    simp only[Bool.and_eq_true]at hc
    simp at hx;subst hx;exact hc.2
   ·cases hx
 have hn:(restr a left).n<=a.n:=hs.fi.len
 by_cases hc:(decide (0<a.n)&&left 0)=true
 ·rw [if_pos hc] at h0 ht
  have e0:sAll a left=sQ a.es left (a.n+1) 0 ([0],[]):=by unfold sAll;rw[if_pos hc]
  have hpos:0<(restr a left).n:=by show 0<(sAll a left).1.length;rw[ht];simp
  have e1:sAll (restr a left) (fun _=>true)=sQ (restr a left).es (fun _=>true) ((restr a left).n+1) 0 (List.range ([0]:List Nat).length,[]):=by
   unfold sAll;rw[if_pos (by simpa using hpos)];rfl
  rw[e1]
  have big:∀(es:List Ed) (left:Nat->Bool) (k i:Nat) (s:OE) (m:Nat),SI m es left i s->(∀e∈es,e.1<m/\e.2.2<m)->m<k+i->∀k',k<=k'->sQ es left k i s=sQ es left k' i s:=by
   intro es left k
   induction k with
   |zero=>intro i s m h _ hk;have:=h.fi.len;have:=h.le;omega
   | succ k ih =>
    intro i s m h hm hk k' hkk
    cases k' with
    |zero=>omega
    |succ k'=>
     unfold sQ
     cases hv:s.1[i]? with
     |none=>rfl
     |some v=>exact ih (i+1) _ m (h.step hm hv) hm (by omega) k' (by omega)
  have hwf:=Qnp (left:=left) h
  have hb0:SI (restr a left).n (restr a left).es (fun _=>true) 0 ((List.range ([0]:List Nat).length,[]):OE):=
   ⟨⟨List.nodup_range,fun x hx=>by have:=List.mem_range.1 hx;simp at this;omega⟩,fun _ _=>rfl,Nat.zero_le _,fun j v hj=>by omega,by simp⟩
  rw[big _ _ ((restr a left).n+1) 0 _ (restr a left).n hb0 hwf.esn (by omega) (a.n+1) (by omega)]
  have:=QoN (n:=a.n) (es:=a.es) (es':=(restr a left).es) (left:=left) (o:=(sAll a left).1) hs.fi.nd h.esn (fun i v hv=>Qlj h hv) (a.n+1) 0 ([0],[]) (a.n+1) h0 (by omega) (by omega) (by rw[e0])
  rw[this]
  show _=(List.range (sAll a left).1.length,(sAll a left).2)
  rw[e0]
 ·have e0 : sAll a left = ([], []) := by
   unfold sAll;rw[if_neg hc];unfold sQ;rfl
  have:(restr a left).n=0:=by show(sAll a left).1.length=0;rw[e0];rfl
  have e2:(restr a left).es=[]:=by show(sAll a left).2=[];rw[e0]
  unfold sAll
  rw[this,e2,if_neg (by simp)]
  unfold sQ;rfl
theorem QjV {a:Aut} {left:Nat->Bool} (h:WfA a):restr (restr a left) (fun _=>true)=restr a left:=by
 have h1:=Qlk (left:=left) h
 have hl:(sAll (restr a left) fun _=>true).1.length=(restr a left).n:=by rw[h1];simp
 have e:∀(A B:Aut),A.al=B.al->A.n=B.n->A.ms=B.ms->A.es=B.es->A=B:=fun A B h1 h2 h3 h4=>by cases A;cases B;simp_all
 refine e _ _ rfl hl ?_ (by show(sAll (restr a left) fun _=>true).2=_;rw[h1])
 show(List.range (sAll (restr a left) fun _=>true).1.length).filter _=_
 rw[hl,h1]
 have hms:(restr a left).ms=(List.range (restr a left).n).filter fun i=>a.ms.contains ((sAll a left).1.getD i 0):=rfl
 have:∀i∈List.range (restr a left).n,(restr a left).ms.contains ((List.range (restr a left).n).getD i 0)=a.ms.contains ((sAll a left).1.getD i 0):=fun i hi=>by
  have hi':=List.mem_range.1 hi
  have e1:(List.range (restr a left).n).getD i 0=i:=by rw[List.getD_eq_getElem?_getD,List.getElem?_range hi'];rfl
  rw[e1,Bool.eq_iff_iff,List.contains_iff_mem,hms,List.mem_filter]
  exact⟨fun h=>h.2,fun h=>⟨hi,h⟩⟩
 rw[List.filter_congr this,hms]
end Go.AM.SD
namespace Go.AM.SD
end Go.AM.SD
namespace Go.AM.SD
def part (n bits:Nat):List Nat:=(List.range n).filter fun i=>bits.testBit i
theorem Qi7 {n bits x:Nat}:x∈part n bits↔x<n/\bits.testBit x=true:=by simp[part]
theorem QcK (n bits:Nat):(part n bits).Pairwise (· < ·):=List.pairwise_lt_range.filter _
end Go.AM.SD
