/- A part of the proof of CellMakesCardSaid: lemmas on the way (AmCzaa, AmCza, AmNa, AmCs, AmDa, AmDb, AmDc, AmDd, AmDe, AmDf, AmDg, AmDh, AmDi). Conditions: none of ours. -/
import Derived.Test.YtmoanlnleppcpaaGreatDoorProg
import Derived.KernelRfl
import Derived.Test.YtmoanlnleppcpaaGreatDoorAmZ9
set_option linter.unusedSectionVars false
set_option maxHeartbeats 32000000
set_option maxRecDepth 100000
set_option linter.unusedVariables false
set_option linter.unusedSimpArgs false
namespace Go.AM.SK
open Go.Proofs
def f15:FFn:=⟨106,[.tmp 0],
 (fq [fz 0 (.mov (.c (.bool false))) []] 1
 (fq [fz 13 (.call .heap (.f 16) [(fk 1)]) [],
 fz 14 (.call .heap (.f 16) [(fk 2)]) [0],
 fz 15 (.call .heap (.f 16) [(fk 2)]) [1],
 fz 1 (.alloc .dyn (.agg [fN,fN,fN,fN,fN])) [],
 fz 2 (.alloc .dyn (.agg [fN,fN,fN,fN,fN])) [],
 fz 3 (.alloc .dyn (.agg [fN,fN,fN,fN,fN])) [],
 fj 5 1 13 [3,0,2,0,3,4,5],
 fj 5 2 14 [4,1,6,0,1,3,4,5,6],
 fj 5 3 15 (fa [5,2,7] 8)] 57344
 (fq [fz 16 (.bslice false .dyn 1 1 [fO] [(0,1,(fk 1))]) [],
 fz 17 (.bslice false .dyn 1 1 [fO] [(0,1,(fk 0))]) [],
 fz 18 (.build [fN,fO,fN,fN] [(0,1,(.t 16)),(1,1,(fk 1)),(2,1,(.t 17))]) [0,1],
 fz 19 (.build [(.str []),fN,fO,fN,fN] [(0,1,(.c (.str [110,101,118,101,114]))),(1,4,(.t 18))]) [2],
 fz 20 (.bslice false .dyn 5 1 [(.str []),fN,fO,fN,fN] [(0,5,(.t 19))]) [3],
 ff 21 2 1 (fa [] 5),
 fj 1 21 20 (fa [5,4] 5)] 4128768
 (fq [fz 22 (.build [fO,fO] [(0,1,(fk 0)),(1,1,(fk 1))]) [],
 fz 23 (.build [fO,fO] [(0,1,(fk 1)),(1,1,(fk 1))]) [],
 fz 24 (.bslice false .dyn 2 2 [fO,fO,fO,fO] [(0,2,(.t 22)),(2,2,(.t 23))]) [0,1],
 fz 25 (.build [(.str []),fN] [(0,1,(.c (.str [98,111,116,104]))),(1,1,(.t 24))]) [2],
 fz 26 (.bslice false .dyn 2 1 [(.str []),fN] [(0,2,(.t 25))]) [3],
 ff 27 3 2 (fa [] 5),
 fj 1 27 26 (fa [5,4] 5)] 264241152
 (fq [fz 28 (.build [fO,fO] [(0,1,(fk 0)),(1,1,(fk 1))]) [],
 fz 29 (.build [fO,fO] [(0,1,(fk 1)),(1,1,(fk 1))]) [],
 fz 30 (.bslice false .dyn 2 2 [fO,fO,fO,fO] [(0,2,(.t 28)),(2,2,(.t 29))]) [0,1],
 fz 31 (.build [(.str []),fN,fO] [(0,1,(.c (.str [109,111,115,116]))),(1,1,(.t 30)),(2,1,(fk 1))]) [2],
 fz 32 (.bslice false .dyn 3 1 [(.str []),fN,fO] [(0,3,(.t 31))]) [3],
 ff 33 4 3 (fa [] 5),
 fj 1 33 32 (fa [5,4] 5)] 16911433728
 (fq [fw 35 5 1 [],
 fg 36 18 [35] [0],
 fm 34 36 [1],
 fe 37 0 34 [2],
 fe 38 1 34 [2],
 fz 4 (.alloc .dyn (.agg [fN,fO,fN,fN,fN,fN,fN,fN])) [],
 fj 8 4 37 [5,3,1,0,1,2,3,5],
 fm 5 38 (fa [4,6] 7)] 532575944704
 (fq [fw 40 5 1 [],
 fg 41 19 [40] [0],
 fm 39 41 [1],
 fe 42 0 39 [2],
 fe 43 1 39 [2],
 fe 44 2 39 [2],
 fz 6 (.alloc .dyn (.agg [fN,fO,fN,fN])) [],
 fj 4 6 42 [6,3,1,0,1,2,3,6],
 fm 7 43 [4,7,0,1,2,3,4,6,7],
 fm 8 44 (fa [5,8] 9)] 34634616274946
 (fq [fw 46 5 2 [],
 fg 47 18 [46] [0],
 fm 45 47 [1],
 fe 48 0 45 [2],
 fe 49 1 45 [2],
 fz 9 (.alloc .dyn (.agg [fN,fO,fN,fN,fN,fN,fN,fN])) [],
 fj 8 9 48 [5,3,1,0,1,2,3,5],
 fm 10 49 (fa [4,6] 7)] 1090715534753796
 (fq [fw 51 5 3 [],
 fg 52 18 [51] [0],
 fm 50 52 [1],
 fe 53 0 50 [2],
 fe 54 1 50 [2],
 fz 11 (.alloc .dyn (.agg [fN,fO,fN,fN,fN,fN,fN,fN])) [],
 fj 8 11 53 [5,3,1,0,1,2,3,5],
 fm 12 54 (fa [4,6] 7)] 34902897112121352
 (fq [fm 55 5 [],
 fc 56 .eql 55 0 [0],
 fm 57 56 [1],
 fx 58 (.mov (.t 8)) [2] 57 true,
 fx 59 (.bin .eql (.t 58) (fk 0)) [3,2] 57 true,
 fz 60 (.pick (.t 57) (.t 59) (.c (.bool false))) [2,4],
 fm 61 60 [5,2],
 fx 62 (.mov (.t 10)) [6] 61 true,
 fx 63 (.bin .eql (.t 62) (fk 0)) [7,6] 61 true,
 fz 64 (.pick (.t 61) (.t 63) (.c (.bool false))) [6,8],
 fm 65 64 [9,6],
 fx 66 (.mov (.t 12)) [10] 65 true,
 fx 67 (.bin .eql (.t 66) (fk 0)) [11,10] 65 true,
 fz 68 (.pick (.t 65) (.t 67) (.c (.bool false))) [10,12],
 fm 69 68 [13,10],
 fx 70 (.faddr 7 (.t 4)) [14] 69 true,
 fx 71 (.load none (.t 70)) [15,14] 69 true,
 fx 72 (.build [fO,fO,fO,fO] [(0,1,(fk 1)),(1,1,(fk 3)),(2,1,(fk 0)),(3,1,(fk 1))]) [14] 69 true,
 fx 73 (.bslice false .dyn 4 1 [fO,fO,fO,fO] [(0,4,(.t 72))]) [17,14] 69 true,
 fx 74 (.call .heap (.f 45) [(.t 71),(.t 73)]) [16,18,14,14] 69 true,
 fz 75 (.pick (.t 69) (.t 74) (.c (.bool false))) [14,19],
 fm 76 75 [20,19],
 fx 77 (.faddr 1 (.t 6)) [21] 76 true,
 fx 78 (.load none (.t 77)) [22,21] 76 true,
 fx 79 (.bin .eql (.t 78) (fk 3)) [23,21] 76 true,
 fz 80 (.pick (.t 76) (.t 79) (.c (.bool false))) [21,24],
 fm 81 80 [25,21],
 fx 82 (.mov (.t 7)) [26] 81 true,
 fx 83 (.bslice false .dyn 1 1 [fO] [(0,1,(fk 2))]) [26] 81 true,
 fx 84 (.call .heap (.f 31) [(.t 82),(.t 83)]) [27,28,26,26] 81 true,
 fz 85 (.pick (.t 81) (.t 84) (.c (.bool false))) [26,29],
 fm 86 85 [30,29],
 fx 87 (.faddr 0 (.t 9)) [31] 86 true,
 fx 88 (.faddr 1 (.t 87)) [32,31] 86 true,
 fx 89 (.load none (.t 88)) [33,31] 86 true,
 fx 90 (.bin .eql (.t 89) (fk 4)) [34,31] 86 true,
 fz 91 (.pick (.t 86) (.t 90) (.c (.bool false))) [31,35],
 fm 92 91 [36,31],
 fx 93 (.faddr 7 (.t 9)) [37] 92 true,
 fx 94 (.load none (.t 93)) [38,37] 92 true,
 fx 95 (.build [fO,fO,fO,fO] [(0,1,(fk 3)),(1,1,(fk 1)),(2,1,(fk 0)),(3,1,(.c (.int .i64 (.negSucc 0))))]) [37] 92 true,
 fx 96 (.bslice false .dyn 4 1 [fO,fO,fO,fO] [(0,4,(.t 95))]) [40,37] 92 true,
 fx 97 (.call .heap (.f 45) [(.t 94),(.t 96)]) [39,41,37,37] 92 true,
 fz 98 (.pick (.t 92) (.t 97) (.c (.bool false))) [37,42],
 fm 99 98 [43,42],
 fx 100 (.faddr 7 (.t 11)) [44] 99 true,
 fx 101 (.load none (.t 100)) [45,44] 99 true,
 fx 102 (.build [fO,fO,fO,fO] [(0,1,(fk 3)),(1,1,(fk 2)),(2,1,(fk 0)),(3,1,(.c (.int .i64 (.negSucc 0))))]) [44] 99 true,
 fx 103 (.bslice false .dyn 4 1 [fO,fO,fO,fO] [(0,4,(.t 102))]) [47,44] 99 true,
 fx 104 (.call .heap (.f 45) [(.t 101),(.t 103)]) [46,48,44,44] 99 true,
 fz 105 (.pick (.t 99) (.t 104) (.c (.bool false))) [44,49],
 fm 0 105 (fa [50,49] 51)] 81129638414606645666991986188272
 .ret))))))))))⟩
def f16:FFn:=⟨44,[.cell 2 (some 5)],
 (fq [fz 2 (.alloc .dyn (.agg [fN,fN,fN,fN,fN])) []] 0
 (fq [fz 3 (.alloc .dyn (.agg [fN,fN,fN,fN,fN])) []] 0
 (.seq (fq [fm 5 0 [],
 fn 6 0 []] 1
 (.block 0 (.loop (fq [fb 7 .lss 6 5 []] 0
 (.seq (fo 7 0)
 (.seq (.block 1 (fq [fm 8 6 [],
 fm 4 8 [0,0]] 384
 (fq [ff 9 0 3 [],
 fl 10 9 [0],
 fm 11 4 [],
 fz 12 (.bin .add (fk 97) (.t 11)) [2],
 fz 13 (.conv .i32 (.t 12)) [3],
 fz 14 (.convS (.t 13)) [4],
 fz 15 (.bin .add (.c (.str [115,116,97,114,116])) (.t 14)) [5],
 fz 16 (.build [(.str []),(.bool false),(.bool false),(.bool false),fO] [(0,1,(.t 15)),(1,1,(.c (.bool true))),(2,1,(.c (.bool true)))]) [6],
 fm 17 4 [],
 fz 18 (.bin .add (fk 97) (.t 17)) [8],
 fz 19 (.conv .i32 (.t 18)) [9],
 fz 20 (.convS (.t 19)) [10],
 fz 21 (.bin .add (.c (.str [102,105,110,105,115,104])) (.t 20)) [11],
 fz 22 (.build [(.str []),(.bool false),(.bool false),(.bool false),fO] [(0,1,(.t 21)),(2,1,(.c (.bool true)))]) [12],
 fz 23 (.bslice false .dyn 5 2 [(.str []),(.bool false),(.bool false),(.bool false),fO,(.str []),(.bool false),(.bool false),(.bool false),fO] [(0,5,(.t 16)),(5,5,(.t 22))]) [7,13],
 fz 24 (.append .dyn 5 32 (.t 10) (.t 23)) [1,14],
 ff 25 0 3 (fa [] 16),
 fj 1 25 24 (fa [16,15,15] 16)] 67108352
 (.region [ff 26 1 3 [],
 fl 27 26 [0],
 fm 28 4 [],
 fz 29 (.bin .add (fk 97) (.t 28)) [2],
 fz 30 (.conv .i32 (.t 29)) [3],
 fz 31 (.convS (.t 30)) [4],
 fz 32 (.bin .add (.c (.str [109,97,99,104,105,110,101])) (.t 31)) [5],
 fm 33 4 [],
 fz 34 (.bin .mul (fk 2) (.t 33)) [7],
 fm 35 4 [],
 fz 36 (.bin .mul (fk 2) (.t 35)) [9],
 fc 37 .add 36 1 [10],
 fg 38 68 [32,34,37] [6,8,11],
 fz 39 (.bslice false .dyn 5 1 [(.str []),fN,fO,fN,fN] [(0,5,(.t 38))]) [12],
 fz 40 (.append .dyn 5 96 (.t 27) (.t 39)) [1,13,12],
 ff 41 1 3 (fa [] 15),
 fj 1 41 40 (fa [15,14,14] 15)] [(1,12),(1,13)] 4397979402256))))
 (fr [fc 42 .add 6 1 [],
 ⟨false,⟨(some 6),.mov (.t 42),[0],none⟩⟩] 4398046511104)))))))
 (fq [fw 43 5 3 [],
 fj 5 2 43 [0,0]] 8796093022312
 .ret))))⟩
def f17:FFn:=⟨19,[.cell 2 (some 4),.tmp 3,.tmp 4],
 (fq [fz 1 (.box .dyn (.t 0)) [],
 fz 2 (.alloc .dyn (.agg [fN,fO,fN,fN])) [],
 fz 3 (.mov (.c fN)) [],
 fn 4 0 [2]] 25
 (.seq (fq [fw 6 5 1 [],
 fg 7 21 [6] [0],
 fm 5 7 [1,1,0,1]] 192
 (fq [fm 8 5 [],
 fc 9 .neq 8 0 [0]] 256
 (.cond (.t 9)
 (fq [fz 10 (.build [fN,fO,fN,fN] []) [],
 fm 11 5 [],
 fj 4 2 10 [0,0],
 fz 3 (.mov (.c fN)) [2,0,2],
 fm 4 11 [1,3,0,1,2,3]] 3618
 .ret)
 .skip)))
 (fq [ff 12 1 1 [],
 fl 13 12 [0],
 fg 14 69 [13] [1],
 fg 15 28 [14] [2,2],
 fe 16 0 15 [3],
 fe 17 1 15 [3],
 fe 18 2 15 [3],
 fj 4 2 16 (fa [4,3] 7),
 ⟨false,⟨(some 3),.mov (.t 17),[5,7,0,1,2,3,4,5,6,7],none⟩⟩,
 ⟨false,⟨(some 4),.mov (.t 18),[6,8,0,1,2,3,4,5,6,7,8],none⟩⟩] 520738
 .ret)))⟩
def f18:FFn:=⟨120,[.cell 2 (some 8),.tmp 3],
 (fq [fz 1 (.box .dyn (.t 0)) [],
 fz 2 (.alloc .dyn (.agg [fN,fO,fN,fN,fN,fN,fN,fN])) [],
 fn 3 0 []] 1
 (fq [fw 19 5 1 [],
 fg 20 70 [19] [0],
 fm 18 20 [1],
 fe 21 0 18 [2],
 fe 22 1 18 [2],
 fm 4 21 [3,1,0,1,2,3],
 fm 5 22 (fa [4,5] 6)] 8126464
 (.seq (fq [fm 23 5 [],
 fc 24 .neq 23 0 [0]] 8388608
 (.cond (.t 24)
 (fq [fz 25 (.build [fN,fO,fN,fN,fN,fN,fN,fN] []) [],
 fm 26 5 [],
 fj 8 2 25 [0,0],
 ⟨false,⟨(some 3),.mov (.t 26),[1,2,0,1,2],none⟩⟩] 117440562
 .ret)
 .skip))
 (fq [fm 27 4 [],
 fz 28 (.nilchk (.t 27)) [0],
 ff 29 10 28 [1],
 fw 30 4 29 [2],
 fz 31 (.build [fN,fO,fN,fN,fN,fN,fN,fN] [(0,4,(.t 30))]) [3],
 fz 6 (.alloc .dyn (.agg [fN,fO,fN,fN,fN,fN,fN,fN])) [],
 fj 8 6 31 (fa [5,4] 6)] 4177526816
 (.seq (fq [fm 32 4 [],
 fz 33 (.nilchk (.t 32)) [0],
 ff 34 14 33 [1],
 fl 35 34 [2],
 fv 36 35 [3],
 fn 37 0 []] 30064771072
 (.block 0 (.loop (fq [fb 38 .lss 37 36 []] 0
 (.seq (fo 38 0)
 (.seq (.block 1 (fq [fm 39 37 [],
 fi 40 1 35 37 [],
 fl 41 40 [1],
 fz 7 (.alloc .dyn fO) [],
 fj 1 7 39 [3,0,0,1,2,3],
 fm 8 41 (fa [2,4] 5)] 4123168604160
 (fq [fm 43 4 [],
 fm 44 8 [],
 fg 45 71 [43,44] [0,1],
 fm 42 45 [2],
 fe 46 0 42 [3],
 fe 47 1 42 [3],
 fm 9 46 (fa [4,2] 5),
 fm 10 47 (fa [5,6] 7)] 277076930199808
 (.seq (.region [fm 48 4 [],
 fz 49 (.nilchk (.t 48)) [0],
 ff 50 18 49 [1],
 fl 51 50 [2],
 fm 52 9 [],
 fg 53 72 [52] [4],
 fz 54 (.lookup false [.s] fO false (.t 51) (.t 53)) [3,5],
 fm 11 54 (fa [6,5] 7)] [(3,5)] 35747322042253312)
 (.seq (.region [ff 55 4 6 [],
 fl 56 55 [0],
 fm 57 9 [],
 fg 58 41 [57] [2],
 fz 59 (.bslice false .dyn 1 1 [fN] [(0,1,(.t 58))]) [3],
 fz 60 (.append .dyn 1 24 (.t 56) (.t 59)) [1,4,3],
 ff 61 5 6 [],
 fl 62 61 [6],
 fm 63 10 [],
 fg 64 41 [63] [8,5],
 fz 65 (.bslice false .dyn 1 1 [fN] [(0,1,(.t 64))]) [9],
 fz 66 (.append .dyn 1 24 (.t 62) (.t 65)) [7,10,9],
 ff 67 6 6 [],
 fl 68 67 [12],
 fm 69 11 [],
 fz 70 (.bslice false .dyn 1 1 [fO] [(0,1,(.t 69))]) [14],
 fz 71 (.append .dyn 1 8 (.t 68) (.t 70)) [13,15,11],
 ff 72 4 6 [0,1,2,3,4,5,6,7,12,13],
 fj 1 72 60 [17,5,16,0,1,2,3,4,5,6,7,12,13],
 ff 73 5 6 [0,1,2,3,4,5,6,7,8,9,10,11,12,13,17,18],
 fj 1 73 66 [19,11,18,0,1,2,3,4,5,6,7,8,9,10,11,12,13,17,18],
 ff 74 6 6 (fa [] 21),
 fj 1 74 71 (fa [21,16,20] 21)] [(1,3),(1,4),(3,7),(4,7),(5,7),(7,9),(7,10),(3,13),(4,13),(5,13),(9,13),(10,13),(11,13),(1,15),(3,15),(4,15),(5,15),(7,15),(9,15),(10,15),(11,15),(13,15)] 37778895834160142745600)
 (.seq (fq [fm 76 4 [],
 fz 77 (.nilchk (.t 76)) [0],
 ff 78 15 77 [1],
 fw 79 3 78 [2],
 fm 80 9 [],
 fg 81 73 [79,80] [3,4],
 fm 75 81 [5],
 fe 82 0 75 [6],
 fe 83 1 75 [6],
 fe 84 2 75 [6],
 fe 85 3 75 [6],
 fm 12 82 (fa [7,5] 8),
 fm 13 83 [8,11,0,1,2,3,4,5,6,7,8,11],
 fm 14 84 [9,12,0,1,2,3,4,5,6,7,8,9,11,12],
 fm 15 85 (fa [10,13] 14)] 77333473523473310019518976
 (fq [fm 86 14 []] 16384
 (.cond (.t 86)
 (fq [ff 87 7 6 [],
 fl 88 87 [0],
 fl 89 7 [],
 fm 90 12 [],
 fm 91 13 [],
 fz 92 (.build [fO,fO,fO,fO] [(0,1,(.t 89)),(1,1,(.t 90)),(2,1,(.t 91)),(3,1,(.c (.int .i64 (.negSucc 0))))]) [2,3,4],
 fz 93 (.bslice false .dyn 4 1 [fO,fO,fO,fO] [(0,4,(.t 92))]) [5],
 fz 94 (.append .dyn 4 32 (.t 88) (.t 93)) [1,6],
 ff 95 7 6 (fa [] 8),
 fj 1 95 94 (fa [8,7,7] 8)] 79150791261809001326362770560
 (.exit 1))
 .skip)))
 (fq [fm 96 4 [],
 fm 97 11 [],
 fm 98 10 [],
 fg 99 74 [96,97,98] [0,1,2]] 554674508852305699421988862976
 (.block 2 (.rfunc (.t 99) [100,101] 120 (fq [fm 16 100 []] 1901475900342344102245054808064
 (fr [fm 17 101 []] 2535301200456458802993406410752))
 (.block 3 (fq [ff 102 0 1 [],
 fl 103 102 [0],
 fm 104 16 [],
 fi 105 5 103 104 [1,2],
 ff 106 1 105 [3],
 fl 107 106 [4],
 fu 108 107 [5]] 319447951257513809177169207754752
 (.cond (.t 108)
 (fq [ff 109 7 6 [],
 fl 110 109 [0],
 fl 111 7 [],
 fm 112 17 [],
 fm 113 16 [],
 fz 114 (.build [fO,fO,fO,fO] [(0,1,(.t 111)),(1,1,(fk 3)),(2,1,(.t 112)),(3,1,(.t 113))]) [2,3,4],
 fz 115 (.bslice false .dyn 4 1 [fO,fO,fO,fO] [(0,4,(.t 114))]) [5],
 fz 116 (.append .dyn 4 32 (.t 110) (.t 115)) [1,6],
 ff 117 7 6 (fa [] 8),
 fj 1 117 116 (fa [8,7,7] 8)] 331982480392570541499168609049706624
 (.exit 2))
 .skip))))))))))))
 (fr [fc 118 .add 37 1 [],
 ⟨false,⟨(some 37),.mov (.t 118),[0],none⟩⟩] 332307632771529082340652513421688960)))))))
 (fq [fw 119 8 6 [],
 fj 8 2 119 [0,0],
 ⟨false,⟨(some 3),.mov (.c fO),[1,0,1],none⟩⟩] 664613997892457936451903770658340946
 .ret))))))⟩
def f19:FFn:=⟨118,[.cell 2 (some 4),.tmp 3,.tmp 4],
 (fq [fz 1 (.box .dyn (.t 0)) [],
 fz 2 (.alloc .dyn (.agg [fN,fO,fN,fN])) [],
 fz 3 (.mov (.c fN)) [],
 fn 4 0 [2]] 17
 (fq [fw 18 5 1 [],
 fg 19 70 [18] [0],
 fm 17 19 [1],
 fe 20 0 17 [2],
 fe 21 1 17 [2],
 fm 5 20 [3,1,0,1,2,3],
 fm 4 21 (fa [4,5] 6)] 4063234
 (.seq (fq [fm 22 4 [],
 fc 23 .neq 22 0 [0]] 4194304
 (.cond (.t 23)
 (fq [fz 24 (.build [fN,fO,fN,fN] []) [],
 fm 25 4 [],
 fj 4 2 24 [0,0],
 ⟨false,⟨(some 3),.mov (.c fN),[2,0,2],none⟩⟩,
 ⟨false,⟨(some 4),.mov (.t 25),[1,3,0,1,2,3],none⟩⟩] 58720288
 .ret)
 .skip))
 (fq [fm 26 5 [],
 fz 27 (.nilchk (.t 26)) [0],
 ff 28 10 27 [1],
 ff 29 1 28 [2],
 fl 30 29 [3],
 fz 6 (.alloc .dyn fO) [],
 fj 1 6 30 (fa [5,4] 6)] 2088763392
 (.seq (fq [fl 31 6 [],
 fc 32 .geq 31 4096 [0]] 2147483648
 (.cond (.t 32)
 (fq [fz 33 (.build [fN,fO,fN,fN] []) [],
 fj 4 2 33 [0,0],
 ⟨false,⟨(some 3),.mov (.c fN),[1,0,1],none⟩⟩,
 ⟨false,⟨(some 4),.mov (.c (.int .i64 (.ofNat 3))),[2,0,1,2],none⟩⟩] 12884901984
 .ret)
 .skip))
 (.seq (.region [fm 34 5 [],
 fz 35 (.nilchk (.t 34)) [0],
 ff 36 10 35 [1],
 ff 37 0 36 [2],
 fl 38 37 [3],
 fg 39 41 [38] [4],
 fl 40 6 [],
 fc 41 .add 40 1 [6],
 fm 42 5 [],
 fz 43 (.nilchk (.t 42)) [8],
 ff 44 10 43 [9],
 ff 45 2 44 [10],
 fl 46 45 [11],
 fg 47 41 [46] [12,5],
 fm 48 5 [],
 fz 49 (.nilchk (.t 48)) [14],
 ff 50 10 49 [15],
 ff 51 3 50 [16],
 fl 52 51 [17],
 fg 53 75 [52] [18,13],
 fz 54 (.build [fN,fO,fN,fN] [(0,1,(.t 39)),(1,1,(.t 41)),(2,1,(.t 47)),(3,1,(.t 53))]) [5,7,13,19],
 fj 4 2 54 (fa [20,19] 21)] [(5,6),(5,12),(6,13),(5,18),(13,18),(6,19)] 36028784134062080)
 (.seq (fq [fm 55 5 [],
 fz 56 (.nilchk (.t 55)) [0],
 ff 57 14 56 [1],
 fl 58 57 [2],
 fv 59 58 [3],
 fn 60 0 []] 252201579132747776
 (.block 0 (.loop (fq [fb 61 .lss 60 59 []] 0
 (.seq (fo 61 0)
 (.seq (.block 1 (fq [fm 62 60 [],
 fi 63 1 58 60 [],
 fl 64 63 [1],
 fz 7 (.alloc .dyn fO) [],
 fj 1 7 62 [3,0,0,1,2,3],
 fm 8 64 (fa [2,4] 5)] 34587645138205409280
 (fq [fm 66 5 [],
 fm 67 8 [],
 fg 68 71 [66,67] [0,1],
 fm 65 68 [2],
 fe 69 0 65 [3],
 fe 70 1 65 [3],
 fm 9 69 (fa [4,2] 5),
 fm 10 70 (fa [5,6] 7)] 2324289753287403503872
 (.seq (fq [fm 72 5 [],
 fz 73 (.nilchk (.t 72)) [0],
 ff 74 15 73 [1],
 fw 75 3 74 [2],
 fm 76 9 [],
 fg 77 73 [75,76] [3,4],
 fm 71 77 [5],
 fe 78 0 71 [6],
 fe 79 1 71 [6],
 fe 80 2 71 [6],
 fe 81 3 71 [6],
 fm 11 78 (fa [7,5] 8),
 fm 12 79 [8,11,0,1,2,3,4,5,6,7,8,11],
 fm 13 80 [9,12,0,1,2,3,4,5,6,7,8,9,11,12],
 fm 14 81 (fa [10,13] 14)] 4833342095217081876240384
 (fq [fm 82 13 []] 8192
 (.cond (.t 82)
 (fr [fm 83 3 [],
 fl 84 7 [],
 fz 85 (.bslice false .dyn 1 1 [fO] [(0,1,(.t 84))]) [1],
 fz 86 (.append .dyn 1 8 (.t 83) (.t 85)) [0,2],
 ⟨false,⟨(some 3),.mov (.t 86),[3,3,0,1,2,3],none⟩⟩] 149906801632214017663565824)
 .skip)))
 (.seq (.region [fm 87 5 [],
 fz 88 (.nilchk (.t 87)) [0],
 ff 89 18 88 [1],
 fl 90 89 [2],
 fm 91 9 [],
 fg 92 72 [91] [4],
 fz 93 (.lookup false [.s] fO false (.t 90) (.t 92)) [3,5],
 fm 15 93 (fa [6,5] 7)] [(3,5)] 19657133826933870380722422272)
 (fq [fm 94 5 [],
 fm 95 15 [],
 fm 96 10 [],
 fg 97 74 [94,95,96] [0,1,2]] 138649284399962590788701946880
 (.block 2 (.rfunc (.t 97) [98,99] 118 (fr [fm 16 98 []] 1109194275201718338942677286968)
 (.block 3 (fr [ff 100 3 2 [],
 fl 101 100 [0],
 fl 102 7 [],
 fm 103 16 [],
 fl 104 6 [],
 fz 105 (.build [fO,fO,fO] [(0,1,(.t 102)),(1,1,(.t 103)),(2,1,(.t 104))]) [2,3,4],
 fz 106 (.bslice false .dyn 3 1 [fO,fO,fO] [(0,3,(.t 105))]) [5],
 fz 107 (.append .dyn 3 24 (.t 101) (.t 106)) [1,6],
 ff 108 3 2 (fa [] 8),
 fj 1 108 107 (fa [8,7,7] 8)] 647769456716625224164815338012868))))))))))
 (fr [fc 109 .add 60 1 [],
 ⟨false,⟨(some 60),.mov (.t 109),[0],none⟩⟩] 649195563641881982241499129053312)))))))
 (fq [ff 110 3 2 [],
 fl 111 110 [0],
 fz 112 (.call .heap (.f 76) [(.t 111),(.f 77)]) [1]] 9086519502435950367541001638117424
 (.seq (.region [fw 113 4 2 [],
 fm 114 3 [],
 fl 115 6 [],
 fz 116 (.bslice false .dyn 1 1 [fO] [(0,1,(.t 115))]) [2],
 fz 117 (.append .dyn 1 8 (.t 114) (.t 116)) [1,3],
 fj 4 2 113 [0,4,0],
 ⟨false,⟨(some 3),.mov (.t 117),[4,5,0,1,2,3,4,5],none⟩⟩,
 fn 4 0 (fa [6] 7)] [(0,4)] 321922405229159312968890772411646016)
 .ret)))))))))⟩
def f21:FFn:=⟨94,[.tmp 2],
 (fq [fz 1 (.box .dyn (.t 0)) [],
 fn 2 0 []] 5
 (.seq (fq [ff 15 0 1 [],
 fl 16 15 [0],
 fg 17 82 [16] [1],
 fm 3 17 [2,2,0,1,2]] 229376
 (fq [fm 18 3 [],
 fc 19 .neq 18 0 [0]] 262144
 (.cond (.t 19)
 (fq [fm 20 3 [],
 fm 2 20 [0,0]] 1572874
 .ret)
 .skip)))
 (.seq (fq [ff 21 1 1 [],
 fl 22 21 [0],
 fv 23 22 [1],
 fm 4 23 [2,0,1,2]] 15204364
 (.block 0 (fq [fm 25 4 [],
 fc 26 .eql 25 0 [0],
 fm 24 26 [1]] 100663296
 (.cond (.t 24)
 (fq [fn 2 12 []] 16777234
 .ret)
 (fq [fm 28 4 [],
 fc 29 .gtr 28 8 [0],
 fm 30 29 [1],
 fx 31 (.mov (.t 4)) [2] 30 false,
 fx 32 (.faddr 2 (.t 1)) [2] 30 false,
 fx 33 (.load none (.t 32)) [4,2] 30 false,
 fx 34 (.len 1 (.t 33)) [5,2] 30 false,
 fx 35 (.bin .add (.t 31) (.t 34)) [3,6,2] 30 false,
 fx 36 (.bin .gtr (.t 35) (fk 12)) [7,2] 30 false,
 fz 37 (.pick (.t 30) (.c (.bool true)) (.t 36)) [2,8],
 fm 27 37 [9,2]] 274626248720
 (.cond (.t 27)
 (fq [fn 2 3 []] 134217730
 .ret)
 .skip))))))
 (fq [fz 38 (.mkmap .dyn) [],
 fm 5 38 [0,0]] 275012124676
 (fq [fz 6 (.mov (.c fN)) [],
 fz 7 (.mov (.c fN)) [0]] 0
 (.seq (fq [ff 39 0 1 [],
 fl 40 39 [0],
 fv 41 40 [1],
 fn 42 0 []] 1649267441664
 (.block 1 (.loop (fq [fb 43 .lss 42 41 []] 0
 (.seq (fo 43 1)
 (.seq (.block 2 (fq [fm 44 42 [],
 fm 8 44 [0,0]] 26388279066624
 (fr [fm 45 6 [],
 fm 46 8 [],
 fz 47 (.bslice false .dyn 1 1 [fO] [(0,1,(.t 46))]) [1],
 fz 48 (.append .dyn 1 8 (.t 45) (.t 47)) [0,2],
 ⟨false,⟨(some 6),.mov (.t 48),[3,3,0,1,2,3],none⟩⟩] 527765581332736)))
 (fr [fc 49 .add 42 1 [],
 ⟨false,⟨(some 42),.mov (.t 49),[0],none⟩⟩] 562949953421312)))))))
 (.seq (fq [ff 50 1 1 [],
 fl 51 50 [0],
 fv 52 51 [1],
 fn 53 0 []] 1132496976609280
 (.block 3 (.loop (fq [fb 54 .lss 53 52 []] 0
 (.seq (fo 54 3)
 (.seq (.block 4 (fq [fi 55 5 51 53 [],
 fw 56 5 55 [0],
 fz 10 (.alloc .dyn (.agg [(.str []),fN,fO,fN,fN])) [],
 fj 5 10 56 [2,1,0,1,2]] 126100789566373888
 (.seq (fq [fw 57 5 10 [],
 ff 58 0 1 [],
 fl 59 58 [1],
 fv 60 59 [2],
 fm 61 6 [],
 fm 62 5 [],
 fg 63 83 [57,60,61,62] [0,3,4,5],
 fm 11 63 (fa [6,6] 7)] 18302628885633695744
 (fq [fm 64 11 [],
 fc 65 .neq 64 0 [0]] 18446744073709551616
 (.cond (.t 65)
 (fq [fm 66 11 [],
 fm 2 66 [0,0]] 110696227040953109730
 .ret)
 .skip)))
 (fr [fm 67 7 [],
 ff 68 1 10 [],
 ff 69 0 68 [1],
 fl 70 69 [2],
 fg 71 84 [67,70] [0,3],
 ⟨false,⟨(some 7),.mov (.t 71),[4,4,0,1,2,3,4],none⟩⟩] 4611686018427387907076))))
 (fr [fc 72 .add 53 1 [],
 ⟨false,⟨(some 53),.mov (.t 72),[0],none⟩⟩] 4722366482869645213696)))))))
 (.seq (fq [ff 73 2 1 [],
 fl 74 73 [0],
 fv 75 74 [1],
 fn 76 0 []] 9444748728337986224192
 (.block 5 (.loop (fq [fb 77 .lss 76 75 []] 0
 (.seq (fo 77 5)
 (.seq (.block 6 (fq [fi 78 5 74 76 [],
 fw 79 5 78 [0],
 fz 13 (.alloc .dyn (.agg [(.str []),fN,fO,fN,fN])) [],
 fj 5 13 79 [2,1,0,1,2]] 1057810092162800527867904
 (fq [fw 80 5 13 [],
 ff 81 0 1 [],
 fl 82 81 [1],
 fv 83 82 [2],
 fm 84 7 [],
 fm 85 5 [],
 fg 86 83 [80,83,84,85] [0,3,4,5],
 fm 14 86 (fa [6,6] 7)] 153533579091057905187692544
 (fq [fm 87 14 [],
 fc 88 .neq 87 0 [0]] 154742504910672534362390528
 (.cond (.t 88)
 (fq [fm 89 14 [],
 fm 2 89 [0,0]] 928587255725555556240343202
 .ret)
 .skip)))))
 (fr [fc 90 .add 76 1 [],
 ⟨false,⟨(some 76),.mov (.t 90),[0],none⟩⟩] 1547425049106725343623921668)))))))
 (fq [fw 91 5 1 [],
 fg 92 85 [91] [0],
 fg 93 32 [92] [1,1],
 fm 2 93 [2,2,0,1,2]] 17331292776256844198653722786
 .ret)))))))))⟩
def f28:FFn:=⟨117,[.cell 2 (some 4),.tmp 3,.tmp 4],
 (fq [fz 2 (.alloc .dyn (.agg [fN,fO,fN,fN])) [],
 fz 3 (.mov (.c fN)) [],
 fn 4 0 [1]] 24
 (.seq (fq [fm 17 0 [],
 fg 18 95 [17] [0],
 fm 5 18 [1,1,0,1]] 393216
 (fq [fm 19 5 [],
 fc 20 .neq 19 0 [0]] 524288
 (.cond (.t 20)
 (fq [fz 21 (.build [fN,fO,fN,fN] []) [],
 fm 22 5 [],
 fj 4 2 21 [0,0],
 fz 3 (.mov (.c fN)) [2,0,2],
 fm 4 22 [1,3,0,1,2,3]] 7340065
 .ret)
 .skip)))
 (fq [fm 23 0 [],
 fg 24 96 [23] [0],
 fz 6 (.alloc .dyn (.agg [fN,fN,fN])) [],
 fj 3 6 24 [2,1,1,0,1,2]] 26214457
 (fq [ff 25 1 6 [],
 fl 26 25 [0],
 ff 27 0 2 [0,1],
 fj 1 27 26 [2,1,0,1]] 234881024
 (fq [fw 29 3 6 [],
 fg 30 97 [29] [0],
 fm 28 30 [1],
 fe 31 0 28 [2],
 fe 32 1 28 [2],
 fm 7 31 [3,1,0,1,2,3],
 fm 8 32 (fa [4,5] 6)] 8321499136
 (.seq (fq [fm 33 8 [],
 fu 34 33 [0]] 8589934848
 (.cond (.t 34)
 (fq [fw 35 4 2 [],
 fj 4 2 35 [0,0],
 fz 3 (.mov (.c fN)) [1,0,1],
 fn 4 0 [2,0,1,2]] 51539607744
 .ret)
 .skip))
 (fq [fm 36 7 [],
 fz 37 (.bslice false .dyn 1 1 [fN] [(0,1,(.t 36))]) [0],
 ⟨false,⟨(some 3),.mov (.t 37),[1,0,1],none⟩⟩] 223338299408
 (fq [fz 38 (.mkmap .dyn) [],
 fm 39 7 [],
 fg 40 98 [39] [1],
 ⟨false,⟨none,.mupd false [.s] (.t 38) (.t 40) (.c fO),[0,2],none⟩⟩,
 fm 41 38 [0,1,2,3],
 fm 9 41 (fa [4,2] 5)] 4123168604288
 (.seq (fq [fn 10 0 []] 0
 (.block 0 (.loop (.seq (fq [fm 42 10 [],
 fm 43 3 [],
 fv 44 43 [1],
 fb 45 .lss 42 44 [0,2]] 30786325577728
 (fo 45 0))
 (.seq (.block 1 (.seq (fq [fw 48 3 6 [],
 fm 49 3 [],
 fm 50 10 [],
 fi 51 1 49 50 [1,2],
 fl 52 51 [3],
 fg 53 99 [48,52] [0,4]] 8760908650119168
 (.cond (.t 53)
 (fr [ff 54 2 2 [],
 fl 55 54 [0],
 fm 56 10 [],
 fz 57 (.bslice false .dyn 1 1 [fO] [(0,1,(.t 56))]) [2],
 fz 58 (.append .dyn 1 8 (.t 55) (.t 57)) [1,3],
 ff 59 2 2 (fa [] 5),
 fj 1 59 58 (fa [5,4,4] 5)] 1143914305352105984)
 .skip))
 (fq [ff 60 1 6 [],
 fl 61 60 [0],
 fv 62 61 [1],
 fn 63 0 []] 1161928703861587968
 (.block 2 (.loop (fq [fb 64 .lss 63 62 []] 0
 (.seq (fo 64 2)
 (.seq (.block 3 (fq [fi 65 1 61 63 [],
 fl 66 65 [0],
 fm 12 66 [1,0,1]] 129127208515966861312
 (fq [fw 68 3 6 [],
 fm 69 3 [],
 fm 70 10 [],
 fi 71 1 69 70 [1,2],
 fl 72 71 [3],
 fm 73 12 [],
 fg 74 100 [68,72,73] [0,4,5],
 fm 67 74 [6],
 fe 75 0 67 [7],
 fe 76 1 67 [7],
 fm 13 75 (fa [8,6] 9),
 fm 14 76 (fa [9,10] 11)] 150968153499238970425344
 (.seq (fq [fm 77 14 [],
 fu 78 77 [0]] 151115727451828646854656
 (.cond (.t 78)
 (.exit 3)
 .skip))
 (fq [fm 80 9 [],
 fm 81 13 [],
 fg 82 98 [81] [1],
 fz 83 (.lookup false [.s] fO true (.t 80) (.t 82)) [0,2],
 fm 79 83 [3],
 fe 84 0 79 [4],
 fe 85 1 79 [4],
 fm 15 84 (fa [5,2] 6),
 fm 16 85 (fa [6,7] 8)] 77069021000432609887518720
 (.seq (fq [fm 86 16 [],
 fu 87 86 [0]] 77371252455336267181260800
 (.cond (.t 87)
 (.seq (fq [fm 88 3 [],
 fv 89 88 [0],
 fc 90 .eql 89 4096 [1]] 1083197534374707740536766464
 (.cond (.t 90)
 (fq [fz 91 (.build [fN,fO,fN,fN] []) [],
 fj 4 2 91 [0,0],
 ⟨false,⟨(some 3),.mov (.c fN),[1,0,1],none⟩⟩,
 fn 4 3 [2,0,1,2]] 3713820133997041889193244224
 .ret)
 .skip))
 (fq [fm 92 3 [],
 fv 93 92 [0],
 fm 15 93 [1,0,1]] 16093220510709943573688614928
 (fq [fm 94 9 [],
 fm 95 13 [],
 fg 96 98 [95] [1],
 fm 97 15 [],
 ⟨false,⟨none,.mupd false [.s] (.t 94) (.t 96) (.t 97),[0,2,3,2,0,1,2,3],none⟩⟩] 297105609428491265975789813760
 (fr [fm 98 3 [],
 fm 99 13 [],
 fz 100 (.bslice false .dyn 1 1 [fN] [(0,1,(.t 99))]) [1],
 fz 101 (.append .dyn 1 24 (.t 98) (.t 100)) [0,2],
 ⟨false,⟨(some 3),.mov (.t 101),[3,3,0,1,2,3],none⟩⟩] 4753689750855860255612637028352))))
 .skip))
 (fr [ff 102 3 2 [],
 fl 103 102 [0],
 fm 104 10 [],
 fm 105 12 [],
 fm 106 15 [],
 fz 107 (.build [fO,fO,fO] [(0,1,(.t 104)),(1,1,(.t 105)),(2,1,(.t 106))]) [2,3,4],
 fz 108 (.bslice false .dyn 3 1 [fO,fO,fO] [(0,3,(.t 107))]) [5],
 fz 109 (.append .dyn 3 24 (.t 103) (.t 108)) [1,6],
 ff 110 3 2 (fa [] 8),
 fj 1 110 109 (fa [8,7,7] 8)] 2591077981609005807331795714224128)))))))
 (fr [fc 111 .add 63 1 [],
 ⟨false,⟨(some 63),.mov (.t 111),[0],none⟩⟩] 2596148429267413814265248164610048)))))))))
 (fr [fm 46 10 [],
 fc 47 .add 46 1 [0],
 ⟨false,⟨(some 10),.mov (.t 47),[1,0,1],none⟩⟩] 16141112170728390656))))))
 (fq [fm 112 3 [],
 fv 113 112 [0],
 ff 114 1 2 [0,1],
 fj 1 114 113 [2,1,0,1]] 36346078009743793399713474304542272
 (fq [fw 115 4 2 [],
 fm 116 3 [],
 fj 4 2 115 [0,0],
 ⟨false,⟨(some 3),.mov (.t 116),[1,2,0,1,2],none⟩⟩,
 fn 4 0 [3,0,1,2,3]] 124615124604835863084731911901282304
 .ret)))))))))))⟩
def f31:FFn:=⟨26,[.tmp 4],
 (fq [fz 4 (.mov (.c (.bool false))) []] 16
 (.seq (fq [fm 6 0 [],
 fv 7 6 [0],
 fm 8 1 [],
 fv 9 8 [2],
 fb 10 .neq 7 9 [1,3]] 960
 (.cond (.t 10)
 (fq [fz 4 (.mov (.c (.bool false))) []] 1027
 .ret)
 .skip))
 (.seq (fq [fm 11 0 [],
 fv 12 11 [0],
 fn 13 0 []] 3088
 (.block 0 (.loop (fq [fb 14 .lss 13 12 []] 0
 (.seq (fo 14 0)
 (.seq (.block 1 (fq [fm 15 13 [],
 fm 5 15 [0,0]] 49152
 (fq [fm 16 0 [],
 fm 17 5 [],
 fi 18 1 16 17 [0,1],
 fl 19 18 [2],
 fm 20 1 [],
 fm 21 5 [],
 fi 22 1 20 21 [4,5],
 fl 23 22 [6],
 fb 24 .neq 19 23 [3,7]] 16711712
 (.cond (.t 24)
 (fq [fz 4 (.mov (.c (.bool false))) []] 16789507
 .ret)
 .skip))))
 (fr [fc 25 .add 13 1 [],
 ⟨false,⟨(some 13),.mov (.t 25),[0],none⟩⟩] 50331664)))))))
 (fq [fz 4 (.mov (.c (.bool true))) []] 12291
 .ret))))⟩
def f32:FFn:=⟨89,[.tmp 2],
 (fq [fz 1 (.box .dyn (.t 0)) [],
 fn 2 0 []] 5
 (.seq (fq [ff 15 0 1 [],
 fl 16 15 [0],
 fv 17 16 [1],
 fc 18 .gtr 17 8 [2]] 229376
 (.cond (.t 18)
 (fq [fn 2 3 []] 262146
 .ret)
 .skip))
 (.seq (fq [ff 19 0 1 [],
 fl 20 19 [0],
 fv 21 20 [1],
 fn 22 0 []] 786436
 (.block 0 (.loop (fq [fb 23 .lss 22 21 []] 0
 (.seq (fo 23 0)
 (.seq (.block 1 (fq [fi 24 1 20 22 [],
 fl 25 24 [0],
 fm 4 25 [1,0,1]] 58720256
 (fq [fm 26 4 [],
 fc 27 .lss 26 1 [0],
 fm 28 27 [1],
 ⟨false,⟨(some 29),.mov (.t 4),[2],(some (28,false))⟩⟩,
 ⟨false,⟨(some 30),.bin .gtr (.t 29) (.c (.int .i64 (.ofNat 4096))),[3,2],(some (28,false))⟩⟩,
 fz 31 (.pick (.t 28) (.c (.bool true)) (.t 30)) [2,4]] 469762064
 (.cond (.t 31)
 (fq [fn 2 2 []] 4126934040578
 .ret)
 .skip))))
 (fr [fc 32 .add 22 1 [],
 ⟨false,⟨(some 22),.mov (.t 32),[0],none⟩⟩] 6442450948)))))))
 (.seq (fq [ff 33 1 1 [],
 fl 34 33 [0],
 fv 35 34 [1],
 fc 36 .gtr 35 32 [2],
 fm 37 36 [3],
 ⟨false,⟨(some 38),.faddr 2 (.t 1),[4],(some (37,false))⟩⟩,
 ⟨false,⟨(some 39),.load none (.t 38),[5,4],(some (37,false))⟩⟩,
 ⟨false,⟨(some 40),.len 1 (.t 39),[6,4],(some (37,false))⟩⟩,
 ⟨false,⟨(some 41),.bin .gtr (.t 40) (.c (.int .i64 (.ofNat 32))),[7,4],(some (37,false))⟩⟩,
 fz 42 (.pick (.t 37) (.c (.bool true)) (.t 41)) [4,8]] 4391074529280
 (.cond (.t 42)
 (fq [fn 2 3 []] 4398046511106
 .ret)
 .skip))
 (.seq (fq [ff 43 1 1 [],
 fl 44 43 [0],
 fv 45 44 [1],
 fn 46 0 []] 13194139533316
 (.block 2 (.loop (fq [fb 47 .lss 46 45 []] 0
 (.seq (fo 47 2)
 (.seq (.block 3 (fq [fm 48 46 [],
 fi 49 2 44 46 [],
 fw 50 2 49 [1],
 fz 5 (.alloc .dyn fO) [],
 fz 6 (.alloc .dyn (.agg [(.str []),fN])) [],
 fj 1 5 48 (fa [3,0] 5),
 fj 2 6 50 (fa [4,2,5] 6)] 2111062325329920
 (fq [fz 51 (.mkfn 101 [] [(.t 1),(.t 5)]) [],
 fm 7 51 [0,0]] 2251799813685280
 (.seq (fq [ff 52 0 6 [],
 fl 53 52 [0],
 fm 54 7 [],
 fg 55 102 [53,54] [1,2],
 fm 8 55 [3,3,0,1,2,3]] 67553994410557568
 (fq [fm 56 8 [],
 fc 57 .neq 56 0 [0]] 72057594037927936
 (.cond (.t 57)
 (fq [fm 58 8 [],
 fm 2 58 [0,0]] 432468709529878850
 .ret)
 .skip)))
 (fq [fw 59 3 1 [],
 fw 60 2 6 [],
 fg 61 103 [59,60] [0,1],
 fm 9 61 [2,2,0,1,2]] 4179340454199820612
 (fq [fm 62 9 [],
 fc 63 .neq 62 0 [0]] 4611686018427387904
 (.cond (.t 63)
 (fq [fm 64 9 [],
 fm 2 64 [0,0]] 27670239255866638850
 .ret)
 .skip)))))))
 (fr [fc 65 .add 46 1 [],
 ⟨false,⟨(some 46),.mov (.t 65),[0],none⟩⟩] 46116860184273879556)))))))
 (.seq (fq [ff 66 2 1 [],
 fl 67 66 [0],
 fv 68 67 [1],
 fn 69 0 []] 73787099440140517376
 (.block 4 (.loop (fq [fb 70 .lss 69 68 []] 0
 (.seq (fo 70 4)
 (.seq (.block 5 (fq [fm 71 69 [],
 fi 72 3 67 69 [],
 fw 73 3 72 [1],
 fz 10 (.alloc .dyn fO) [],
 fz 11 (.alloc .dyn (.agg [(.str []),fN,fO])) [],
 fj 1 10 71 (fa [3,0] 5),
 fj 3 11 73 (fa [4,2,5] 6)] 17708874310761169551360
 (fq [fz 74 (.mkfn 104 [] [(.t 1),(.t 10)]) [],
 fm 12 74 [0,0]] 18889465931478580855808
 (.seq (fq [ff 75 0 11 [],
 fl 76 75 [0],
 fm 77 12 [],
 fg 78 102 [76,77] [1,2],
 fm 13 78 [3,3,0,1,2,3]] 566683977944357425647616
 (fq [fm 79 13 [],
 fc 80 .neq 79 0 [0]] 604462909807314587353088
 (.cond (.t 80)
 (fq [fm 81 13 [],
 fm 2 81 [0,0]] 3627810476512015259019266
 .ret)
 .skip)))
 (fq [fw 82 3 1 [],
 fw 83 3 11 [],
 fg 84 105 [82,83] [0,1],
 fm 14 84 [2,2,0,1,2]] 35058848768824246066489348
 (fq [fm 85 14 [],
 fc 86 .neq 85 0 [0]] 38685626227668133590597632
 (.cond (.t 86)
 (fq [fm 87 14 [],
 fm 2 87 [0,0]] 232114790383676929278492674
 .ret)
 .skip)))))))
 (fr [fc 88 .add 69 1 [],
 ⟨false,⟨(some 69),.mov (.t 88),[0],none⟩⟩] 386856262276681335905992708)))))))
 (fq [fn 2 0 []] 1033017668127734890498
 .ret)))))))⟩
def f33:FFn:=⟨31,[.tmp 4],
 (fq [fz 2 (.box .dyn (.t 0)) [],
 fz 3 (.box .dyn (.t 1)) [],
 fz 4 (.mov (.c (.bool false))) []] 19
 (fq [ff 5 1 2 [],
 fl 6 5 [0],
 ff 7 1 3 [],
 fl 8 7 [2],
 fb 9 .eql 6 8 [1,3],
 fm 10 9 [4],
 fx 11 (.faddr 0 (.t 2)) [5] 10 true,
 fx 12 (.load none (.t 11)) [6,5] 10 true,
 fx 13 (.faddr 0 (.t 3)) [5] 10 true,
 fx 14 (.load none (.t 13)) [8,5] 10 true,
 fx 15 (.call .heap (.f 31) [(.t 12),(.t 14)]) [7,9,5,5] 10 true,
 fz 16 (.pick (.t 10) (.t 15) (.c (.bool false))) [5,10],
 fm 17 16 [11,10],
 fx 18 (.faddr 2 (.t 2)) [12] 17 true,
 fx 19 (.load none (.t 18)) [13,12] 17 true,
 fx 20 (.faddr 2 (.t 3)) [12] 17 true,
 fx 21 (.load none (.t 20)) [15,12] 17 true,
 fx 22 (.call .heap (.f 31) [(.t 19),(.t 21)]) [14,16,12,12] 17 true,
 fz 23 (.pick (.t 17) (.t 22) (.c (.bool false))) [12,17],
 fm 24 23 [18,17],
 fx 25 (.faddr 3 (.t 2)) [19] 24 true,
 fx 26 (.load none (.t 25)) [20,19] 24 true,
 fx 27 (.faddr 3 (.t 3)) [19] 24 true,
 fx 28 (.load none (.t 27)) [22,19] 24 true,
 fx 29 (.call .heap (.f 106) [(.t 26),(.t 28)]) [21,23,19,19] 24 true,
 fz 30 (.pick (.t 24) (.t 29) (.c (.bool false))) [19,24],
 fm 4 30 (fa [25,24] 26)] 2147483628
 .ret))⟩
def f36:FFn:=⟨9,[.tmp 4],
 (fq [fz 4 (.mov (.c (.bool false))) []] 16
 (fq [fm 5 0 [],
 fm 6 1 [],
 fg 7 110 [5,6] [0,1],
 fc 8 .geq 7 0 [2],
 fm 4 8 [3,2,0,1,2,3]] 483
 .ret))⟩
def f38:FFn:=⟨9,[.tmp 4],
 (fq [fz 4 (.mov (.c (.bool false))) []] 16
 (fq [fm 5 0 [],
 fm 6 1 [],
 fg 7 111 [5,6] [0,1],
 fc 8 .geq 7 0 [2],
 fm 4 8 [3,2,0,1,2,3]] 483
 .ret))⟩
def f41:FFn:=⟨8,[.tmp 2],
 (fq [fz 2 (.mov (.c fN)) []] 4
 (.seq (fq [fm 3 0 [],
 fz 4 (.eqn false (.t 3)) [0]] 8
 (.cond (.t 4)
 (fq [fz 2 (.mov (.c fN)) []] 17
 .ret)
 .skip))
 (fq [fz 5 (.bslice false .dyn 1 0 [] []) [],
 fm 6 0 [],
 fz 7 (.append .dyn 1 8 (.t 5) (.t 6)) [0,1],
 ⟨false,⟨(some 2),.mov (.t 7),[2,2,0,1,2],none⟩⟩] 241
 .ret)))⟩
def f45:FFn:=⟨26,[.tmp 4],
 (fq [fz 4 (.mov (.c (.bool false))) []] 16
 (.seq (fq [fm 6 0 [],
 fv 7 6 [0],
 fm 8 1 [],
 fv 9 8 [2],
 fb 10 .neq 7 9 [1,3]] 960
 (.cond (.t 10)
 (fq [fz 4 (.mov (.c (.bool false))) []] 1027
 .ret)
 .skip))
 (.seq (fq [fm 11 0 [],
 fv 12 11 [0],
 fn 13 0 []] 3088
 (.block 0 (.loop (fq [fb 14 .lss 13 12 []] 0
 (.seq (fo 14 0)
 (.seq (.block 1 (fq [fm 15 13 [],
 fm 5 15 [0,0]] 49152
 (fq [fm 16 0 [],
 fm 17 5 [],
 fi 18 4 16 17 [0,1],
 fw 19 4 18 [2],
 fm 20 1 [],
 fm 21 5 [],
 fi 22 4 20 21 [4,5],
 fw 23 4 22 [6],
 fz 24 (.eq (.flat true [.i,.i,.i,.i]) true (.t 19) (.t 23)) [3,7]] 16711712
 (.cond (.t 24)
 (fq [fz 4 (.mov (.c (.bool false))) []] 16789507
 .ret)
 .skip))))
 (fr [fc 25 .add 13 1 [],
 ⟨false,⟨(some 13),.mov (.t 25),[0],none⟩⟩] 50331664)))))))
 (fq [fz 4 (.mov (.c (.bool true))) []] 12291
 .ret))))⟩
def f48:FFn:=⟨19,[.tmp 4],
 (fq [fn 4 0 []] 16
 (.seq (fq [fm 6 0 [],
 fv 7 6 [0],
 fn 8 0 []] 64
 (.block 0 (.loop (fq [fb 9 .lss 8 7 []] 0
 (.seq (fo 9 0)
 (.seq (.block 1 (fq [fm 10 8 [],
 fm 5 10 [0,0]] 1536
 (fq [fm 11 1 [],
 fm 12 0 [],
 fm 13 5 [],
 fi 14 3 12 13 [1,2],
 fw 15 3 14 [3],
 fz 16 (.call .heap (.t 11) [(.t 15)]) [0,4]] 63488
 (.cond (.t 16)
 (fq [fm 17 5 [],
 fm 4 17 [0,0]] 197027
 .ret)
 .skip))))
 (fr [fc 18 .add 8 1 [],
 ⟨false,⟨(some 8),.mov (.t 18),[0],none⟩⟩] 327728)))))))
 (fq [fz 4 (.mov (.c (.int .i64 (.negSucc 0)))) []] 387
 .ret)))⟩
def f60:FFn:=⟨12,[.tmp 2],
 (fq [fz 1 (.box .dyn (.t 0)) [],
 fz 2 (.mov (.c (.bool false))) []] 5
 (.seq (.region [fw 3 4 1 [],
 fg 4 112 [3] [0],
 fc 5 .eql 4 0 [1],
 fm 6 5 [2,1],
 fx 7 (.load (some 4) (.t 1)) [3] 6 true,
 fx 8 (.load (some 4) (.t 1)) [3] 6 true,
 fx 9 (.call .heap (.f 150) [(.t 8)]) [5,3,3] 6 true,
 fx 10 (.call .heap (.f 33) [(.t 7),(.t 9)]) [4,6,6,3] 6 true,
 fz 11 (.pick (.t 6) (.t 10) (.c (.bool false))) [3,7],
 fm 2 11 (fa [8,7] 9)] [(4,6)] 4090)
 .ret))⟩
def f68:FFn:=⟨21,[.cell 6 (some 5)],
 (fq [fz 6 (.alloc .dyn (.agg [(.str []),fN,fO,fN,fN])) []] 0
 (fq [fm 8 1 [],
 fm 9 2 [],
 fz 10 (.bslice false .dyn 1 2 [fO,fO] [(0,1,(.t 8)),(1,1,(.t 9))]) [0,1],
 fz 11 (.bslice false .dyn 1 1 [fO] [(0,1,(fk 0))]) [],
 fm 12 1 [],
 fz 13 (.build [fO,fO,fO] [(0,1,(fk 0)),(1,1,(.t 12)),(2,1,(fk 1))]) [4],
 fm 14 2 [],
 fz 15 (.build [fO,fO,fO] [(0,1,(fk 1)),(1,1,(.t 14)),(2,1,(fk 0))]) [6],
 fz 16 (.bslice false .dyn 3 2 [fO,fO,fO,fO,fO,fO] [(0,3,(.t 13)),(3,3,(.t 15))]) [5,7],
 fz 17 (.build [fN,fO,fN,fN] [(0,1,(.t 10)),(1,1,(fk 2)),(2,1,(.t 11)),(3,1,(.t 16))]) [2,3,8],
 fz 7 (.alloc .dyn (.agg [fN,fO,fN,fN])) [],
 fj 4 7 17 (fa [10,9] 11)] 261894
 (fq [fm 18 0 [],
 fw 19 4 7 [],
 fz 20 (.build [(.str []),fN,fO,fN,fN] [(0,1,(.t 18)),(1,4,(.t 19))]) [0,1],
 fj 5 6 20 [2,0,1,2]] 1835137
 .ret)))⟩
def f69:FFn:=⟨19,[.tmp 2],
 (fq [fz 2 (.mov (.c fN)) []] 4
 (fq [fz 3 (.mov (.c fN)) []] 0
 (.seq (fq [fm 6 0 [],
 fv 7 6 [0],
 fn 8 0 []] 1
 (.block 0 (.loop (fq [fb 9 .lss 8 7 []] 0
 (.seq (fo 9 0)
 (.seq (.block 1 (fq [fi 10 5 6 8 [],
 fw 11 5 10 [0],
 fz 5 (.alloc .dyn (.agg [(.str []),fN,fO,fN,fN])) [],
 fj 5 5 11 [2,1,0,1,2]] 3584
 (fr [fm 12 3 [],
 ff 13 1 5 [],
 fw 14 4 13 [1],
 fz 15 (.bslice false .dyn 4 1 [fN,fO,fN,fN] [(0,4,(.t 14))]) [2],
 fz 16 (.append .dyn 4 80 (.t 12) (.t 15)) [0,3],
 ⟨false,⟨(some 3),.mov (.t 16),[4,4,0,1,2,3,4],none⟩⟩] 127008)))
 (fr [fc 17 .add 8 1 [],
 ⟨false,⟨(some 8),.mov (.t 17),[0],none⟩⟩] 131072)))))))
 (fq [fm 18 3 [],
 fm 2 18 [0,0]] 262600
 .ret))))⟩
def f70:FFn:=⟨75,[.tmp 2,.tmp 3],
 (fq [fz 1 (.box .dyn (.t 0)) [],
 fz 2 (.mov (.c .nilptr)) [],
 fn 3 0 [1]] 13
 (fq [fw 8 5 1 [],
 fz 9 (.build [fN,fN,fN,fN,fN,fN,fO,fN,fN,fN,fN,fO,fN,fN,fN,fN,fN,fN,.nilmap] [(0,5,(.t 8))]) [0],
 fz 10 (.box .dyn (.t 9)) [1],
 fm 4 10 [2,0,1,2]] 1792
 (fq [fn 5 0 []] 32
 (.seq (fq [fm 12 4 [],
 fm 13 4 [],
 fw 14 5 1 [],
 fg 15 17 [14] [2],
 fm 11 15 [3],
 fe 16 0 11 [4],
 fe 17 1 11 [4],
 fe 18 2 11 [4],
 fz 19 (.nilchk (.t 12)) [0,0,2,3,4,5],
 ff 20 5 19 [8,0,2,3,4,5],
 fj 4 20 16 [9,5,3,0,2,3,4,5],
 fz 21 (.nilchk (.t 13)) [1,0,1,2,3,4,5,6,8,9,10],
 ff 22 9 21 [11,0,1,2,3,4,5,6,8,9,10],
 fj 1 22 17 [12,6,10,0,1,2,3,4,5,6,8,9,10],
 fm 5 18 (fa [7,13] 14)] 8386560
 (fq [fm 23 5 [],
 fc 24 .neq 23 0 [0]] 8388608
 (.cond (.t 24)
 (fq [fm 25 5 [],
 fz 2 (.mov (.c .nilptr)) [],
 fm 3 25 [0,1,0,1]] 50331698
 .ret)
 .skip)))
 (.seq (.seq (.region [fm 27 4 [],
 fm 28 4 [],
 ff 29 1 1 [],
 fl 30 29 [2],
 fg 31 69 [30] [3],
 ff 32 2 1 [],
 fl 33 32 [5],
 fg 34 69 [33] [6,4],
 fz 35 (.append .dyn 4 80 (.t 31) (.t 34)) [4,7,7],
 fg 36 28 [35] [8,8],
 fm 26 36 [9],
 fe 37 0 26 [10],
 fe 38 1 26 [10],
 fe 39 2 26 [10],
 fz 40 (.nilchk (.t 27)) [0,0,2,3,4,5,6,7,8,9,10,11],
 ff 41 10 40 [14,0,2,3,4,5,6,7,8,9,10,11],
 fj 4 41 37 [15,11,9,0,2,3,4,5,6,7,8,9,10,11],
 fz 42 (.nilchk (.t 28)) [1,0,1,2,3,4,5,6,7,8,9,10,11,12,14,15,16],
 ff 43 14 42 [17,0,1,2,3,4,5,6,7,8,9,10,11,12,14,15,16],
 fj 1 43 38 [18,12,16,0,1,2,3,4,5,6,7,8,9,10,11,12,14,15,16],
 ⟨false,⟨(some 5),.mov (.t 39),[13,19,0,1,2,3,4,5,6,7,8,9,10,11,12,13,14,15,16,17,18,19],none⟩⟩] [(4,6)] 17592135712780)
 (fq [fm 44 5 [],
 fc 45 .neq 44 0 [0]] 17592186044416
 (.cond (.t 45)
 (fq [fm 46 5 [],
 fz 2 (.mov (.c .nilptr)) [],
 fm 3 46 [0,1,0,1]] 105553116266546
 .ret)
 .skip)))
 (fq [fm 47 4 [],
 fm 48 4 [],
 fw 49 5 1 [],
 fg 50 85 [49] [2],
 fz 51 (.mkmap .dyn) [],
 fz 52 (.nilchk (.t 47)) [0,0,2,3],
 ff 53 15 52 [5,0,2,3],
 fj 3 53 50 [6,3,3,0,2,3],
 fz 54 (.nilchk (.t 48)) (fa [1] 8),
 ff 55 18 54 (fa [8] 8),
 fj 1 55 51 (fa [9,4,7] 8)] 71952040921661486
 (.seq (fq [fm 56 4 [],
 fz 57 (.nilchk (.t 56)) [0],
 ff 58 9 57 [1],
 fl 59 58 [2],
 fv 60 59 [3],
 fn 61 0 []] 504403158265495552
 (.block 0 (.loop (fq [fb 62 .lss 61 60 []] 0
 (.seq (fo 62 0)
 (.seq (.block 1 (fq [fm 63 61 [],
 fi 64 1 59 61 [],
 fl 65 64 [1],
 fm 6 63 [0,0,1,2],
 fm 7 65 [2,3,0,1,2,3]] 69175290276410818560
 (.region [fm 66 4 [],
 fz 67 (.nilchk (.t 66)) [0],
 ff 68 18 67 [1],
 fl 69 68 [2],
 fm 70 7 [],
 fg 71 72 [70] [4],
 fm 72 6 [],
 ⟨false,⟨none,.mupd false [.s] (.t 69) (.t 71) (.t 72),[3,5,6,5,0,1,2,3,4,5,6],none⟩⟩] [(3,5)] 9370945989444452221120)))
 (fr [fc 73 .add 61 1 [],
 ⟨false,⟨(some 61),.mov (.t 73),[0],none⟩⟩] 9444732965739290427392)))))))
 (fq [fm 74 4 [],
 fm 2 74 [0,0],
 fn 3 0 [1,0,1]] 18893501156744704819216
 .ret))))))))⟩
def f71:FFn:=⟨20,[.tmp 4,.tmp 5],
 (fq [fz 4 (.mov (.c fN)) [],
 fz 5 (.mov (.c fN)) [0]] 48
 (fq [fm 7 0 [],
 fz 8 (.nilchk (.t 7)) [0],
 ff 9 0 8 [1],
 ff 10 1 9 [2],
 fl 11 10 [3],
 fv 12 11 [4],
 fm 6 12 (fa [5] 6)] 8065
 (fq [fm 13 1 [],
 fm 14 6 [],
 fm 15 6 [],
 fz 16 (.slice (some 1) (.t 13) none (some (.t 14)) (some (.t 15))) [0,1,2],
 fm 17 1 [],
 fm 18 6 [],
 fz 19 (.slice (some 1) (.t 17) (some (.t 18)) none none) [4,5],
 fm 4 16 [3,0,1,2,3],
 fm 5 19 (fa [6,7] 8)] 1040450
 .ret)))⟩
def f72:FFn:=⟨18,[.tmp 2],
 (fq [fz 2 (.mov (.c (.str []))) []] 4
 (fq [fz 3 (.allocT 238 .dyn (.agg [.nilptr,fN])) []] 0
 (.seq (fq [fm 6 0 [],
 fv 7 6 [0],
 fn 8 0 []] 1
 (.block 0 (.loop (fq [fb 9 .lss 8 7 []] 0
 (.seq (fo 9 0)
 (.seq (.block 1 (fq [fi 10 1 6 8 [],
 fl 11 10 [0],
 fm 5 11 [1,0,1]] 3584
 (fr [fm 12 5 [],
 fg 13 155 [12] [0],
 fz 14 (.bin .add (.t 13) (.c (.str [32]))) [1],
 fg 15 154 [3,14] [2,1]] 61472)))
 (fr [fc 16 .add 8 1 [],
 ⟨false,⟨(some 8),.mov (.t 16),[0],none⟩⟩] 65536)))))))
 (fq [fg 17 156 [3] [],
 fm 2 17 [0,0,0]] 131528
 .ret))))⟩
def f73:FFn:=⟨35,[.tmp 4,.tmp 5,.tmp 6,.tmp 7],
 (fq [fz 2 (.box .dyn (.t 0)) [],
 fn 4 0 [],
 fn 5 0 [1],
 fz 6 (.mov (.c (.bool false))) [2],
 fn 7 0 [3]] 241
 (.seq (fq [fw 10 3 2 [],
 fm 11 1 [],
 fg 12 157 [10,11] [0,1],
 fm 8 12 [2,2,0,1,2]] 7168
 (fq [fm 13 8 [],
 fc 14 .neq 13 0 [0]] 8192
 (.cond (.t 14)
 (fq [fm 15 8 [],
 fn 4 0 [],
 fn 5 0 [1,1],
 fz 6 (.mov (.c (.bool false))) [2,1,2],
 fm 7 15 [0,3,0,1,2,3]] 49414
 .ret)
 .skip)))
 (fq [fw 16 3 2 [],
 fg 17 159 [16] [0],
 fm 18 1 [],
 fg 19 158 [17,18] [1,2,1],
 fm 9 19 [3,3,0,1,2,3]] 999922
 (.block 0 (fq [fm 26 9 [],
 fc 27 .lss 26 0 [0],
 fm 25 27 [1]] 201326592
 (.cond (.t 25)
 (fq [fn 4 0 [],
 fn 5 0 [0,0],
 fz 6 (.mov (.c (.bool false))) [1,0,1],
 fn 7 0 [2,0,1,2]] 33554948
 .ret)
 (fq [fm 29 9 [],
 ff 30 1 2 [],
 fl 31 30 [1],
 fv 32 31 [2],
 fb 33 .lss 29 32 [0,3],
 fm 28 33 [4]] 16676552704
 (.cond (.t 28)
 (fq [fm 34 9 [],
 fn 4 1 [],
 fm 5 34 [0,1,0,1],
 fz 6 (.mov (.c (.bool true))) [2,0,1,2],
 fn 7 0 [3,0,1,2,3]] 17448305156
 .ret)
 (fq [fm 20 9 [],
 ff 21 1 2 [],
 fl 22 21 [1],
 fv 23 22 [2],
 fb 24 .sub 20 23 [0,3],
 fn 4 2 [],
 fm 5 24 (fa [4,5] 6),
 fz 6 (.mov (.c (.bool true))) (fa [6] 7),
 fn 7 0 (fa [7] 8)] 300941828
 .ret)))))))))⟩
def f74:FFn:=⟨8,[.tmp 6],
 (fq [fz 3 (.box .dyn (.t 0)) [],
 fz 4 (.box .dyn (.t 1)) [],
 fz 5 (.box .dyn (.t 2)) [],
 fz 6 (.mov (.c .nilfn)) []] 71
 (fq [fz 7 (.mkfn 160 [] [(.t 3),(.t 4),(.t 5)]) [],
 fm 6 7 [0,0]] 184
 .ret))⟩
def f75:FFn:=⟨8,[.tmp 2],
 (fq [fz 2 (.mov (.c fN)) []] 4
 (.seq (fq [fm 3 0 [],
 fz 4 (.eqn false (.t 3)) [0]] 8
 (.cond (.t 4)
 (fq [fz 2 (.mov (.c fN)) []] 17
 .ret)
 .skip))
 (fq [fz 5 (.bslice false .dyn 3 0 [] []) [],
 fm 6 0 [],
 fz 7 (.append .dyn 3 24 (.t 5) (.t 6)) [0,1],
 ⟨false,⟨(some 2),.mov (.t 7),[2,2,0,1,2],none⟩⟩] 241
 .ret)))⟩
def f76:FFn:=⟨14,[],
 (fq [fm 5 0 [],
 fv 6 5 [0],
 fm 4 6 [1,0,1]] 96
 (fr [fm 7 0 [],
 fm 8 4 [],
 fm 9 4 [],
 fz 10 (.conv .u64 (.t 9)) [2],
 fg 11 164 [10] [3],
 fm 12 1 [],
 fz 13 (.call .heap (.f 163) [(.t 7),(fk 0),(.t 8),(.t 11),(.t 12)]) [0,1,4,5,4]] 16275))⟩
def f77:FFn:=⟨20,[.tmp 4],
 (fq [fz 2 (.box .dyn (.t 0)) [],
 fz 3 (.box .dyn (.t 1)) [],
 fn 4 0 []] 19
 (.seq (fq [ff 5 0 2 [],
 fl 6 5 [0],
 ff 7 0 3 [],
 fl 8 7 [2],
 fb 9 .neq 6 8 [1,3]] 480
 (.cond (.t 9)
 (fq [ff 10 0 2 [],
 fl 11 10 [0],
 ff 12 0 3 [],
 fl 13 12 [2],
 fb 14 .sub 11 13 [1,3],
 fm 4 14 (fa [4] 5)] 32268
 .ret)
 .skip))
 (fq [ff 15 1 2 [],
 fl 16 15 [0],
 ff 17 1 3 [],
 fl 18 17 [2],
 fb 19 .sub 16 18 [1,3],
 ⟨false,⟨(some 4),.mov (.t 19),[4,0,1,2,3,4],none⟩⟩] 1016332
 .ret)))⟩
def f82:FFn:=⟨51,[.tmp 2],
 (fq [fn 2 0 []] 4
 (.seq (fq [fm 6 0 [],
 fv 7 6 [0],
 fc 8 .gtr 7 32 [1]] 192
 (.cond (.t 8)
 (fq [fn 2 3 []] 257
 .ret)
 .skip))
 (fq [fz 9 (.mkmap .dyn) [],
 fm 3 9 [0,0]] 772
 (.seq (fq [fm 10 0 [],
 fv 11 10 [0],
 fn 12 0 []] 1
 (.block 0 (.loop (fq [fb 13 .lss 12 11 []] 0
 (.seq (fo 13 0)
 (.seq (.block 1 (fq [fi 14 5 10 12 [],
 fw 15 5 14 [0],
 fz 5 (.alloc .dyn (.agg [(.str []),(.bool false),(.bool false),(.bool false),fO])) [],
 fj 5 5 15 [2,1,0,1,2]] 57344
 (.seq (.block 2 (fq [ff 17 0 5 [],
 fl 18 17 [0],
 fg 19 135 [18] [1],
 fu 20 19 [2],
 fm 16 20 [3,2]] 1966080
 (.cond (.t 16)
 (fq [fn 2 7 []] 69284265008168
 .ret)
 (fq [fm 22 3 [],
 ff 23 0 5 [],
 fl 24 23 [1],
 fz 25 (.lookup false [.s] (.bool false) false (.t 22) (.t 24)) [0,2],
 fm 21 25 [3]] 62980096
 (.cond (.t 21)
 (fq [fn 2 8 []] 69284267039784
 .ret)
 (fq [ff 27 4 5 [],
 fl 28 27 [0],
 fc 29 .lss 28 0 [1],
 fm 30 29 [2],
 ⟨false,⟨(some 31),.faddr 4 (.t 5),[3],(some (30,false))⟩⟩,
 ⟨false,⟨(some 32),.load none (.t 31),[4,3],(some (30,false))⟩⟩,
 ⟨false,⟨(some 33),.bin .gtr (.t 32) (.c (.int .i64 (.ofNat 4))),[5,3],(some (30,false))⟩⟩,
 fz 34 (.pick (.t 30) (.c (.bool true)) (.t 33)) [3,6],
 fm 26 34 [7,3]] 19195232256
 (.cond (.t 26)
 (fq [fn 2 2 []] 69284332051496
 .ret)
 (fq [ff 36 4 5 [],
 fl 37 36 [0],
 fc 38 .neq 37 0 [1],
 fm 39 38 [2],
 ⟨false,⟨(some 40),.faddr 1 (.t 5),[3],(some (39,true))⟩⟩,
 ⟨false,⟨(some 41),.load none (.t 40),[4,3],(some (39,true))⟩⟩,
 ⟨false,⟨(some 42),.mov (.t 41),[5,3,3],(some (39,true))⟩⟩,
 ⟨false,⟨(some 43),.faddr 2 (.t 5),[6],(some (42,false))⟩⟩,
 ⟨false,⟨(some 44),.load none (.t 43),[7,6],(some (42,false))⟩⟩,
 ⟨false,⟨(some 45),.pick (.t 42) (.c (.bool true)) (.t 44),[6,8,3],(some (39,true))⟩⟩,
 fz 46 (.pick (.t 39) (.t 45) (.c (.bool false))) [3,9],
 fm 35 46 [10,6]] 71399603437568
 (.cond (.t 35)
 (fq [fn 2 13 []] 69318624681000
 .ret)
 .skip)))))))))
 (fr [fm 47 3 [],
 ff 48 0 5 [],
 fl 49 48 [1],
 ⟨false,⟨none,.mupd false [.s] (.t 47) (.t 49) (.c (.bool true)),[0,2,0,1,2],none⟩⟩] 985196778225700))))
 (fr [fc 50 .add 12 1 [],
 ⟨false,⟨(some 12),.mov (.t 50),[0],none⟩⟩] 1125899906842624)))))))
 (fq [fn 2 0 []] 69284264942600
 .ret)))))⟩
def f83:FFn:=⟨52,[.tmp 8],
 (fq [fz 4 (.box .dyn (.t 0)) [],
 fz 5 (.box .dyn (.t 1)) [],
 fn 8 0 []] 259
 (.seq (.block 0 (fq [ff 11 0 4 [],
 fl 12 11 [0],
 fg 13 135 [12] [1],
 fu 14 13 [2],
 fm 10 14 [3,2]] 30720
 (.cond (.t 10)
 (fq [fn 8 7 []] 1084
 .ret)
 (fq [fm 16 3 [],
 ff 17 0 4 [],
 fl 18 17 [1],
 fz 19 (.lookup false [.s] (.bool false) false (.t 16) (.t 18)) [0,2],
 fm 15 19 [3]] 984064
 (.cond (.t 15)
 (fq [fn 8 8 []] 32828
 .ret)
 .skip)))))
 (fq [fm 20 3 [],
 ff 21 0 4 [],
 fl 22 21 [1],
 ⟨false,⟨none,.mupd false [.s] (.t 20) (.t 22) (.c (.bool true)),[0,2,0,1,2],none⟩⟩] 7373064
 (.seq (fq [ff 23 1 4 [],
 fw 24 4 23 [0],
 fg 25 112 [24] [1],
 fm 9 25 [2,2,0,1,2]] 58720256
 (fq [fm 26 9 [],
 fc 27 .neq 26 0 [0]] 67108864
 (.cond (.t 27)
 (fq [fm 28 9 [],
 fm 8 28 [0,0]] 402653748
 .ret)
 .skip)))
 (.seq (.block 1 (fq [ff 30 1 4 [],
 fw 31 4 30 [0],
 fg 32 60 [31] [1],
 fu 33 32 [2],
 fm 29 33 [3,2]] 16240345856
 (.cond (.t 29)
 (fq [fn 8 6 []] 536870964
 .ret)
 (fq [ff 35 1 4 [],
 ff 36 1 35 [0],
 fl 37 36 [1],
 fc 38 .eql 37 0 [2],
 fm 34 38 [3]] 515932946432
 (.cond (.t 34)
 (fq [fn 8 12 []] 17179869236
 .ret)
 (fq [ff 40 1 4 [],
 ff 41 0 40 [0],
 fl 42 41 [1],
 fz 43 (.mkfn 166 [] [(.t 5)]) [],
 fg 44 36 [42,43] [2,3],
 fm 39 44 [4,4]] 34102040330272
 (.cond (.t 39)
 (fq [fn 8 2 []] 549755813908
 .ret)
 (fq [ff 46 1 4 [],
 ff 47 0 46 [0],
 fl 48 47 [1],
 fm 49 2 [],
 fg 50 167 [48,49] [2,3],
 fu 51 50 [4],
 fm 45 51 [5,4]] 4433780639006740
 (.cond (.t 45)
 (fq [fn 8 9 []] 35184372088832
 .ret)
 .skip)))))))))
 (fq [⟨false,⟨(some 8),.mov (.c fO),[],none⟩⟩] 35184372088832
 .ret))))))⟩
def f84:FFn:=⟨8,[.tmp 4],
 (fq [fz 4 (.mov (.c fN)) []] 16
 (fq [fm 5 0 [],
 fm 6 1 [],
 fz 7 (.call .heap (.f 168) [(.t 5),(.t 6),(.f 169)]) [0,1],
 fm 4 7 [2,2,0,1,2]] 227
 .ret))⟩
def f85:FFn:=⟨68,[.cell 2 (some 3)],
 (fq [fz 1 (.box .dyn (.t 0)) [],
 fz 2 (.alloc .dyn (.agg [fN,fN,fN])) []] 1
 (fq [fz 10 (.build [fN,fN,fN] []) [],
 fz 3 (.alloc .dyn (.agg [fN,fN,fN])) [],
 fj 3 3 10 [1,0,0,1]] 1024
 (.seq (fq [ff 11 1 1 [],
 fl 12 11 [0],
 fv 13 12 [1],
 fn 14 0 []] 2048
 (.block 0 (.loop (fq [fb 15 .lss 14 13 []] 0
 (.seq (fo 15 0)
 (.seq (.block 1 (fq [fi 16 5 12 14 [],
 fw 17 5 16 [0],
 fz 5 (.alloc .dyn (.agg [(.str []),fN,fO,fN,fN])) [],
 fj 5 5 17 [2,1,0,1,2]] 229376
 (fr [ff 18 0 3 [],
 fl 19 18 [0],
 ff 20 1 5 [],
 ff 21 1 20 [2],
 fl 22 21 [3],
 fz 23 (.bslice false .dyn 1 1 [fO] [(0,1,(.t 22))]) [4],
 fz 24 (.append .dyn 1 8 (.t 19) (.t 23)) [1,5],
 ff 25 0 3 (fa [] 7),
 fj 1 25 24 (fa [7,6,6] 7)] 66846752)))
 (fr [fc 26 .add 14 1 [],
 ⟨false,⟨(some 14),.mov (.t 26),[0],none⟩⟩] 67108864)))))))
 (.seq (fq [ff 27 3 1 [],
 fl 28 27 [0],
 fv 29 28 [1],
 fn 30 0 []] 134246400
 (.block 2 (.loop (fq [fb 31 .lss 30 29 []] 0
 (.seq (fo 31 2)
 (.seq (.block 3 (fq [fi 32 2 28 30 [],
 fw 33 2 32 [0],
 fz 7 (.alloc .dyn (.agg [(.str []),fN])) [],
 fj 2 7 33 [2,1,0,1,2]] 15032385536
 (.region [ff 34 1 3 [],
 fl 35 34 [0],
 ff 36 0 7 [],
 fl 37 36 [2],
 ff 38 1 7 [],
 fl 39 38 [4],
 fg 40 148 [39] [5],
 fz 41 (.build [(.str []),fN] [(0,1,(.t 37)),(1,1,(.t 40))]) [3,6],
 fz 42 (.bslice false .dyn 2 1 [(.str []),fN] [(0,2,(.t 41))]) [7],
 fz 43 (.append .dyn 2 40 (.t 35) (.t 42)) [1,8,6],
 ff 44 1 3 (fa [] 10),
 fj 1 44 43 (fa [10,9,9] 10)] [(1,6),(3,6),(1,8)] 35167192219776)))
 (fr [fc 45 .add 30 1 [],
 ⟨false,⟨(some 30),.mov (.t 45),[0],none⟩⟩] 35184372088832)))))))
 (.seq (fq [ff 46 4 1 [],
 fl 47 46 [0],
 fv 48 47 [1],
 fn 49 0 []] 70370623225858
 (.block 4 (.loop (fq [fb 50 .lss 49 48 []] 0
 (.seq (fo 50 4)
 (.seq (.block 5 (fq [fi 51 3 47 49 [],
 fw 52 3 51 [0],
 fz 9 (.alloc .dyn (.agg [(.str []),fN,fO])) [],
 fj 3 9 52 [2,1,0,1,2]] 7881299347898368
 (.region [ff 53 2 3 [],
 fl 54 53 [0],
 ff 55 0 9 [],
 fl 56 55 [2],
 ff 57 1 9 [],
 fl 58 57 [4],
 fg 59 149 [58] [5],
 ff 60 2 9 [],
 fl 61 60 [7],
 fz 62 (.build [(.str []),fN,fO] [(0,1,(.t 56)),(1,1,(.t 59)),(2,1,(.t 61))]) [3,6,8],
 fz 63 (.bslice false .dyn 3 1 [(.str []),fN,fO] [(0,3,(.t 62))]) [9],
 fz 64 (.append .dyn 3 48 (.t 54) (.t 63)) [1,10,6],
 ff 65 2 3 (fa [] 12),
 fj 1 65 64 (fa [12,11,11] 12)] [(1,6),(3,6),(6,8),(1,10)] 73777969095583465984)))
 (fr [fc 66 .add 49 1 [],
 ⟨false,⟨(some 49),.mov (.t 66),[0],none⟩⟩] 73786976294838206464)))))))
 (fq [fw 67 3 3 [],
 fj 3 2 67 [0,0]] 147574937752094900232
 .ret))))))⟩
def f90:FFn:=⟨14,[.tmp 4],
 (fq [fz 4 (.mov (.c fN)) []] 16
 (fq [fm 6 0 [],
 fg 7 41 [6] [0],
 fm 8 1 [],
 fz 9 (.append .dyn 1 8 (.t 7) (.t 8)) [1,2,1],
 fm 5 9 [3,3,0,1,2,3]] 963
 (fq [fm 10 5 [],
 fg 11 183 [10] [0]] 3072
 (fq [fm 12 5 [],
 fg 13 184 [12] [0],
 fm 4 13 [1,1,0,1]] 12320
 .ret))))⟩
def f95:FFn:=⟨21,[.tmp 2],
 (fq [fn 2 0 []] 4
 (.seq (fq [fm 6 0 [],
 fv 7 6 [0],
 fc 8 .gtr 7 12 [1]] 192
 (.cond (.t 8)
 (fq [fn 2 3 []] 257
 .ret)
 .skip))
 (.seq (fq [fm 9 0 [],
 fv 10 9 [0],
 fn 11 0 []] 261
 (.block 0 (.loop (fq [fb 12 .lss 11 10 []] 0
 (.seq (fo 12 0)
 (.seq (.block 1 (fq [fi 13 4 9 11 [],
 fw 14 4 13 [0],
 fz 4 (.alloc .dyn (.agg [fN,fO,fN,fN])) [],
 fj 4 4 14 [2,1,0,1,2]] 28672
 (fq [fw 15 4 4 [],
 fg 16 112 [15] [0],
 fm 5 16 [1,1,0,1]] 98320
 (fq [fm 17 5 [],
 fc 18 .neq 17 0 [0]] 131072
 (.cond (.t 18)
 (fq [fm 19 5 [],
 fm 2 19 [0,0]] 790048
 .ret)
 .skip)))))
 (fr [fc 20 .add 11 1 [],
 ⟨false,⟨(some 11),.mov (.t 20),[0],none⟩⟩] 1310756)))))))
 (fq [fn 2 0 []] 3584
 .ret))))⟩
def f96:FFn:=⟨44,[.cell 2 (some 3)],
 (fq [fz 2 (.alloc .dyn (.agg [fN,fN,fN])) []] 0
 (fq [fm 9 0 [],
 fm 10 0 [],
 fg 11 187 [10] [1],
 fz 12 (.build [fN,fN,fN] [(0,1,(.t 9)),(1,1,(.t 11))]) [0,2],
 fz 3 (.alloc .dyn (.agg [fN,fN,fN])) [],
 fj 3 3 12 (fa [4,3,2] 5)] 7680
 (.seq (fq [fm 13 0 [],
 fv 14 13 [0],
 fn 15 0 []] 1
 (.block 0 (.loop (fq [fb 16 .lss 15 14 []] 0
 (.seq (fo 16 0)
 (.seq (.block 1 (fq [fi 17 4 13 15 [],
 fw 18 4 17 [0],
 fz 5 (.alloc .dyn (.agg [fN,fO,fN,fN])) [],
 fj 4 5 18 [2,1,0,1,2]] 458752
 (fq [fz 19 (.mkmap .dyn) [],
 fm 6 19 [0,0]] 524288
 (.seq (fq [ff 20 3 5 [],
 fl 21 20 [0],
 fv 22 21 [1],
 fn 23 0 []] 1048608
 (.block 2 (.loop (fq [fb 24 .lss 23 22 []] 0
 (.seq (fo 24 2)
 (.seq (.block 3 (fq [fi 25 3 21 23 [],
 fw 26 3 25 [0],
 fz 8 (.alloc .dyn (.agg [fO,fO,fO])) [],
 fj 3 8 26 [2,1,0,1,2]] 117440512
 (fr [fm 27 6 [],
 ff 28 0 8 [],
 fl 29 28 [1],
 ff 30 1 8 [],
 fl 31 30 [3],
 fz 32 (.build [fO,fO] [(0,1,(.t 29)),(1,1,(.t 31))]) [2,4],
 ff 33 2 8 [],
 fl 34 33 [6],
 ⟨false,⟨none,.mupd true [.i,.i] (.t 27) (.t 32) (.t 34),[0,5,7,0,1,2,3,4,5,6,7],none⟩⟩] 34225520896)))
 (fr [fc 35 .add 23 1 [],
 ⟨false,⟨(some 23),.mov (.t 35),[0],none⟩⟩] 34359738368)))))))
 (fr [ff 36 2 3 [],
 fl 37 36 [0],
 fm 38 6 [],
 fz 39 (.bslice false .dyn 1 1 [.nilmap] [(0,1,(.t 38))]) [2],
 fz 40 (.append .dyn 1 8 (.t 37) (.t 39)) [1,3],
 ff 41 2 3 (fa [] 5),
 fj 1 41 40 (fa [5,4,4] 5)] 4329341714496)))))
 (fr [fc 42 .add 15 1 [],
 ⟨false,⟨(some 15),.mov (.t 42),[0],none⟩⟩] 4398046511104)))))))
 (fq [fw 43 3 3 [],
 fj 3 2 43 [0,0]] 8796093079560
 .ret))))⟩
def f97:FFn:=⟨21,[.tmp 2,.tmp 3],
 (fq [fz 1 (.box .dyn (.t 0)) [],
 fz 2 (.mov (.c fN)) [],
 fz 3 (.mov (.c (.bool false))) [1]] 13
 (.seq (fq [ff 6 0 1 [],
 fl 7 6 [0],
 fv 8 7 [1],
 fn 9 0 []] 64
 (.block 0 (.loop (fq [fb 10 .lss 9 8 []] 0
 (.seq (fo 10 0)
 (.seq (.block 1 (fq [fi 11 4 7 9 [],
 fw 12 4 11 [0],
 fz 5 (.alloc .dyn (.agg [fN,fO,fN,fN])) [],
 fj 4 5 12 [2,1,0,1,2]] 7168
 (fq [ff 13 1 5 [],
 fl 14 13 [0],
 fc 15 .eql 14 0 [1]] 24608
 (.cond (.t 15)
 (fq [fz 2 (.mov (.c fN)) [],
 fz 3 (.mov (.c (.bool false))) [0,0]] 33666
 .ret)
 .skip))))
 (fr [fc 16 .add 9 1 [],
 ⟨false,⟨(some 9),.mov (.t 16),[0],none⟩⟩] 98316)))))))
 (fq [ff 17 0 1 [],
 fl 18 17 [0],
 fv 19 18 [1],
 fz 20 (.mkslice .dyn 1 8 [fO] (.t 19) (.t 19)) [2,2],
 fm 2 20 [3,0,1,2,3],
 fz 3 (.mov (.c (.bool true))) (fa [4] 5)] 1966978
 .ret)))⟩
def f98:FFn:=⟨18,[.tmp 2],
 (fq [fz 2 (.mov (.c (.str []))) []] 4
 (fq [fz 3 (.allocT 238 .dyn (.agg [.nilptr,fN])) []] 0
 (.seq (fq [fm 6 0 [],
 fv 7 6 [0],
 fn 8 0 []] 1
 (.block 0 (.loop (fq [fb 9 .lss 8 7 []] 0
 (.seq (fo 9 0)
 (.seq (.block 1 (fq [fi 10 1 6 8 [],
 fl 11 10 [0],
 fm 5 11 [1,0,1]] 3584
 (fq [fm 12 5 [],
 fg 13 155 [12] [0],
 fg 14 154 [3,13] [1,1]] 28704
 (fr [fz 15 (.call .heap (.f 188) [(.t 3),(.c (.int .u8 (.ofNat 32)))]) []] 32768))))
 (fr [fc 16 .add 8 1 [],
 ⟨false,⟨(some 8),.mov (.t 16),[0],none⟩⟩] 65536)))))))
 (fq [fg 17 156 [3] [],
 fm 2 17 [0,0,0]] 131528
 .ret))))⟩
def f99:FFn:=⟨24,[.tmp 4],
 (fq [fz 2 (.box .dyn (.t 0)) [],
 fz 4 (.mov (.c (.bool false))) []] 17
 (.seq (fq [ff 7 0 2 [],
 fl 8 7 [0],
 fv 9 8 [1],
 fn 10 0 []] 132
 (.block 0 (.loop (fq [fb 11 .lss 10 9 []] 0
 (.seq (fo 11 0)
 (.seq (.block 1 (fq [fm 12 10 [],
 fi 13 4 8 10 [],
 fw 14 4 13 [1],
 fz 6 (.alloc .dyn (.agg [fN,fO,fN,fN])) [],
 fm 5 12 [0,0,1,2,3],
 fj 4 6 14 (fa [3,2,4] 5)] 30720
 (fq [ff 15 2 6 [],
 fl 16 15 [0],
 fm 17 1 [],
 fm 18 5 [],
 fi 19 1 17 18 [2,3],
 fl 20 19 [4],
 fg 21 189 [16,20] [1,5],
 fu 22 21 [6]] 4161632
 (.cond (.t 22)
 (fq [fz 4 (.mov (.c (.bool false))) []] 4196098
 .ret)
 .skip))))
 (fr [fc 23 .add 10 1 [],
 ⟨false,⟨(some 10),.mov (.t 23),[0],none⟩⟩] 12582928)))))))
 (fq [fz 4 (.mov (.c (.bool true))) []] 1794
 .ret)))⟩
def f100:FFn:=⟨51,[.tmp 6,.tmp 7],
 (fq [fz 3 (.box .dyn (.t 0)) [],
 fz 6 (.mov (.c fN)) [],
 fz 7 (.mov (.c (.bool false))) [1]] 193
 (fq [fm 13 1 [],
 fg 14 41 [13] [0],
 fm 8 14 [1,1,0,1]] 24576
 (.seq (fq [ff 15 0 3 [],
 fl 16 15 [0],
 fv 17 16 [1],
 fn 18 0 []] 32768
 (.block 0 (.loop (fq [fb 19 .lss 18 17 []] 0
 (.seq (fo 19 0)
 (.seq (.block 1 (fq [fm 20 18 [],
 fi 21 4 16 18 [],
 fw 22 4 21 [1],
 fz 10 (.alloc .dyn (.agg [fN,fO,fN,fN])) [],
 fm 9 20 [0,0,1,2,3],
 fj 4 10 22 (fa [3,2,4] 5)] 7864320
 (.seq (fq [ff 23 0 10 [],
 fl 24 23 [0],
 fm 25 2 [],
 fg 26 189 [24,25] [1,2],
 fu 27 26 [3]] 125830144
 (.cond (.t 27)
 (.exit 1)
 .skip))
 (fq [ff 29 2 3 [],
 fl 30 29 [0],
 fm 31 9 [],
 fi 32 1 30 31 [1,2],
 fl 33 32 [3],
 fm 34 1 [],
 fm 35 9 [],
 fi 36 1 34 35 [5,6],
 fl 37 36 [7],
 fm 38 2 [],
 fz 39 (.build [fO,fO] [(0,1,(.t 37)),(1,1,(.t 38))]) [8,9],
 fz 40 (.lookup true [.i,.i] fO true (.t 33) (.t 39)) [4,10],
 fm 28 40 [11],
 fe 41 0 28 [12],
 fe 42 1 28 [12],
 fm 11 41 (fa [13] 14),
 fm 12 42 (fa [14,15] 16)] 8795958804480
 (.seq (fq [fm 43 12 [],
 fu 44 43 [0]] 8796093026304
 (.cond (.t 44)
 (fq [fz 6 (.mov (.c fN)) [],
 fz 7 (.mov (.c (.bool false))) [0,0]] 17592186505998
 .ret)
 .skip))
 (fr [fm 45 8 [],
 fm 46 9 [],
 fm 47 11 [],
 fi 48 1 45 46 [0,1,0,1,2],
 fj 1 48 47 [3,2,0,1,2]] 545357767379648))))))
 (fr [fc 49 .add 18 1 [],
 ⟨false,⟨(some 18),.mov (.t 49),[0],none⟩⟩] 562949953421312)))))))
 (fq [fm 50 8 [],
 fm 6 50 [0,0],
 fz 7 (.mov (.c (.bool true))) [1,0,1]] 1125899907301646
 .ret))))⟩
def f101:FFn:=⟨21,[],
 (fq [ff 6 1 1 [],
 fl 7 6 [0],
 fl 8 2 [],
 fz 9 (.slice (some 2) (.t 7) none (some (.t 8)) none) [1,2],
 fv 10 9 [3],
 fn 11 0 []] 454
 (.block 0 (.loop (fq [fb 12 .lss 11 10 []] 0
 (.seq (fo 12 0)
 (.seq (.block 1 (fq [fi 13 2 9 11 [],
 fw 14 2 13 [0],
 fz 5 (.alloc .dyn (.agg [(.str []),fN])) [],
 fj 2 5 14 [2,1,0,1,2]] 28672
 (fq [fm 15 0 [],
 ff 16 0 5 [],
 fl 17 16 [1],
 fz 18 (.call .heap (.t 15) [(.t 17)]) [0,2],
 fu 19 18 [3]] 491552
 (.cond (.t 19)
 .ret
 .skip))))
 (fr [fc 20 .add 11 1 [],
 ⟨false,⟨(some 11),.mov (.t 20),[0],none⟩⟩] 1572864)))))))⟩
def f102:FFn:=⟨14,[.cell 4 none],
 (fq [fz 2 (.box .dyn (.t 0)) [],
 fz 4 (.alloc .dyn fO) []] 1
 (.seq (fq [fl 6 2 [],
 fg 7 135 [6] [0],
 fu 8 7 [1]] 192
 (.cond (.t 8)
 (fq [⟨false,⟨none,.store 1 (.t 4) (.c (.int .i64 (.ofNat 7))),[],none⟩⟩] 262
 .ret)
 .skip))
 (.seq (fq [fm 9 1 []] 258
 (.block 0 (.rfunc (.t 9) [10] 14 (fr [fm 5 10 []] 1536)
 (.block 1 (fq [fm 11 5 [],
 fl 12 2 [],
 fb 13 .eql 11 12 [0,1]] 6180
 (.cond (.t 13)
 (fq [⟨false,⟨none,.store 1 (.t 4) (.c (.int .i64 (.ofNat 8))),[],none⟩⟩] 8192
 .ret)
 .skip))))))
 (fq [⟨false,⟨none,.store 1 (.t 4) (.c fO),[],none⟩⟩] 516
 .ret))))⟩
def f103:FFn:=⟨62,[.tmp 4],
 (fq [fz 2 (.box .dyn (.t 0)) [],
 fz 3 (.box .dyn (.t 1)) [],
 fn 4 0 []] 19
 (.seq (fq [ff 7 1 3 [],
 fl 8 7 [0],
 fv 9 8 [1],
 fc 10 .eql 9 0 [2]] 896
 (.cond (.t 10)
 (fq [fn 4 12 []] 1036
 .ret)
 .skip))
 (.seq (fq [ff 11 1 3 [],
 fl 12 11 [0],
 fv 13 12 [1],
 fn 14 0 []] 3088
 (.block 0 (.loop (fq [fb 15 .lss 14 13 []] 0
 (.seq (fo 15 0)
 (.seq (.block 1 (fq [fm 16 14 [],
 fi 17 2 12 14 [],
 fw 18 2 17 [1],
 fz 6 (.alloc .dyn (.agg [fO,fO])) [],
 fm 5 16 [0,0,1,2,3],
 fj 2 6 18 (fa [3,2,4] 5)] 491520
 (.block 2 (fq [ff 20 0 6 [],
 fl 21 20 [0],
 fc 22 .lss 21 0 [1],
 fm 23 22 [2],
 ⟨false,⟨(some 24),.faddr 0 (.t 6),[3],(some (23,false))⟩⟩,
 ⟨false,⟨(some 25),.load none (.t 24),[4,3],(some (23,false))⟩⟩,
 ⟨false,⟨(some 26),.faddr 0 (.t 2),[3],(some (23,false))⟩⟩,
 ⟨false,⟨(some 27),.load none (.t 26),[6,3],(some (23,false))⟩⟩,
 ⟨false,⟨(some 28),.len 1 (.t 27),[7,3],(some (23,false))⟩⟩,
 ⟨false,⟨(some 29),.bin .geq (.t 25) (.t 28),[5,8,3],(some (23,false))⟩⟩,
 fz 30 (.pick (.t 23) (.c (.bool true)) (.t 29)) [3,9],
 fm 19 30 [10,3]] 1089470464
 (.cond (.t 19)
 (fq [fn 4 2 []] 1150704855863029868
 .ret)
 (fq [fm 32 5 [],
 fc 33 .gtr 32 0 [0],
 fm 34 33 [1],
 ⟨false,⟨(some 35),.faddr 0 (.t 6),[2],(some (34,true))⟩⟩,
 ⟨false,⟨(some 36),.load none (.t 35),[3,2],(some (34,true))⟩⟩,
 ⟨false,⟨(some 37),.faddr 1 (.t 3),[2],(some (34,true))⟩⟩,
 ⟨false,⟨(some 38),.load none (.t 37),[5,2],(some (34,true))⟩⟩,
 ⟨false,⟨(some 39),.mov (.t 5),[2],(some (34,true))⟩⟩,
 ⟨false,⟨(some 40),.bin .sub (.t 39) (.c (.int .i64 (.ofNat 1))),[7,2],(some (34,true))⟩⟩,
 ⟨false,⟨(some 41),.iaddr none 2 (.t 38) (.t 40),[6,8,2],(some (34,true))⟩⟩,
 ⟨false,⟨(some 42),.faddr 0 (.t 41),[9,2],(some (34,true))⟩⟩,
 ⟨false,⟨(some 43),.load none (.t 42),[10,2],(some (34,true))⟩⟩,
 ⟨false,⟨(some 44),.bin .leq (.t 36) (.t 43),[4,11,2],(some (34,true))⟩⟩,
 fz 45 (.pick (.t 34) (.t 44) (.c (.bool false))) [2,12],
 fm 31 45 [13,2]] 35214437384224
 (.cond (.t 31)
 (fq [fn 4 5 []] 1150704858009989196
 .ret)
 (fq [ff 47 1 6 [],
 fl 48 47 [0],
 fc 49 .lss 48 0 [1],
 fm 50 49 [2],
 ⟨false,⟨(some 51),.faddr 1 (.t 6),[3],(some (50,false))⟩⟩,
 ⟨false,⟨(some 52),.load none (.t 51),[4,3],(some (50,false))⟩⟩,
 ⟨false,⟨(some 53),.faddr 0 (.t 2),[3],(some (50,false))⟩⟩,
 ⟨false,⟨(some 54),.load none (.t 53),[6,3],(some (50,false))⟩⟩,
 ⟨false,⟨(some 55),.faddr 0 (.t 6),[3],(some (50,false))⟩⟩,
 ⟨false,⟨(some 56),.load none (.t 55),[8,3],(some (50,false))⟩⟩,
 ⟨false,⟨(some 57),.iaddr none 1 (.t 54) (.t 56),[7,9,3],(some (50,false))⟩⟩,
 ⟨false,⟨(some 58),.load none (.t 57),[10,3],(some (50,false))⟩⟩,
 ⟨false,⟨(some 59),.bin .geq (.t 52) (.t 58),[5,11,3],(some (50,false))⟩⟩,
 fz 60 (.pick (.t 50) (.c (.bool true)) (.t 59)) [3,12],
 fm 46 60 [13,3]] 1155032569079660608
 (.cond (.t 46)
 (fq [fn 4 2 []] 1150775224606683148
 .ret)
 .skip)))))))))
 (fr [fc 61 .add 14 1 [],
 ⟨false,⟨(some 14),.mov (.t 61),[0],none⟩⟩] 2305913377957871632)))))))
 (fq [fn 4 0 []] 1150704855862505484
 .ret))))⟩
def f104:FFn:=⟨21,[],
 (fq [ff 6 2 1 [],
 fl 7 6 [0],
 fl 8 2 [],
 fz 9 (.slice (some 3) (.t 7) none (some (.t 8)) none) [1,2],
 fv 10 9 [3],
 fn 11 0 []] 454
 (.block 0 (.loop (fq [fb 12 .lss 11 10 []] 0
 (.seq (fo 12 0)
 (.seq (.block 1 (fq [fi 13 3 9 11 [],
 fw 14 3 13 [0],
 fz 5 (.alloc .dyn (.agg [(.str []),fN,fO])) [],
 fj 3 5 14 [2,1,0,1,2]] 28672
 (fq [fm 15 0 [],
 ff 16 0 5 [],
 fl 17 16 [1],
 fz 18 (.call .heap (.t 15) [(.t 17)]) [0,2],
 fu 19 18 [3]] 491552
 (.cond (.t 19)
 .ret
 .skip))))
 (fr [fc 20 .add 11 1 [],
 ⟨false,⟨(some 11),.mov (.t 20),[0],none⟩⟩] 1572864)))))))⟩
def f105:FFn:=⟨59,[.tmp 4],
 (fq [fz 2 (.box .dyn (.t 0)) [],
 fz 3 (.box .dyn (.t 1)) [],
 fn 4 0 []] 19
 (.seq (fq [ff 7 1 3 [],
 fl 8 7 [0],
 fv 9 8 [1],
 fc 10 .eql 9 0 [2]] 896
 (.cond (.t 10)
 (fq [fn 4 12 []] 1036
 .ret)
 .skip))
 (.seq (fq [ff 11 1 3 [],
 fl 12 11 [0],
 fv 13 12 [1],
 fn 14 0 []] 3088
 (.block 0 (.loop (fq [fb 15 .lss 14 13 []] 0
 (.seq (fo 15 0)
 (.seq (.block 1 (fq [fm 16 14 [],
 fi 17 2 12 14 [],
 fw 18 2 17 [1],
 fz 6 (.alloc .dyn (.agg [fO,fO])) [],
 fm 5 16 [0,0,1,2,3],
 fj 2 6 18 (fa [3,2,4] 5)] 491520
 (.block 2 (fq [ff 20 0 6 [],
 fl 21 20 [0],
 fc 22 .lss 21 0 [1],
 fm 23 22 [2],
 ⟨false,⟨(some 24),.faddr 0 (.t 6),[3],(some (23,false))⟩⟩,
 ⟨false,⟨(some 25),.load none (.t 24),[4,3],(some (23,false))⟩⟩,
 ⟨false,⟨(some 26),.faddr 0 (.t 2),[3],(some (23,false))⟩⟩,
 ⟨false,⟨(some 27),.load none (.t 26),[6,3],(some (23,false))⟩⟩,
 ⟨false,⟨(some 28),.len 1 (.t 27),[7,3],(some (23,false))⟩⟩,
 ⟨false,⟨(some 29),.bin .geq (.t 25) (.t 28),[5,8,3],(some (23,false))⟩⟩,
 fz 30 (.pick (.t 23) (.c (.bool true)) (.t 29)) [3,9],
 fm 19 30 [10,3]] 1089470464
 (.cond (.t 19)
 (fq [fn 4 2 []] 15797749765664876
 .ret)
 (fq [fm 32 5 [],
 fc 33 .gtr 32 0 [0],
 fm 34 33 [1],
 ⟨false,⟨(some 35),.faddr 0 (.t 6),[2],(some (34,true))⟩⟩,
 ⟨false,⟨(some 36),.load none (.t 35),[3,2],(some (34,true))⟩⟩,
 ⟨false,⟨(some 37),.faddr 1 (.t 3),[2],(some (34,true))⟩⟩,
 ⟨false,⟨(some 38),.load none (.t 37),[5,2],(some (34,true))⟩⟩,
 ⟨false,⟨(some 39),.mov (.t 5),[2],(some (34,true))⟩⟩,
 ⟨false,⟨(some 40),.bin .sub (.t 39) (.c (.int .i64 (.ofNat 1))),[7,2],(some (34,true))⟩⟩,
 ⟨false,⟨(some 41),.iaddr none 2 (.t 38) (.t 40),[6,8,2],(some (34,true))⟩⟩,
 ⟨false,⟨(some 42),.faddr 0 (.t 41),[9,2],(some (34,true))⟩⟩,
 ⟨false,⟨(some 43),.load none (.t 42),[10,2],(some (34,true))⟩⟩,
 ⟨false,⟨(some 44),.bin .leq (.t 36) (.t 43),[4,11,2],(some (34,true))⟩⟩,
 fz 45 (.pick (.t 34) (.t 44) (.c (.bool false))) [2,12],
 fm 31 45 [13,2]] 35214437384224
 (.cond (.t 31)
 (fq [fn 4 5 []] 15797751912624204
 .ret)
 (fq [ff 47 1 6 [],
 fl 48 47 [0],
 fc 49 .eql 48 0 [1],
 fm 50 49 [2],
 ⟨false,⟨(some 51),.faddr 1 (.t 6),[3],(some (50,false))⟩⟩,
 ⟨false,⟨(some 52),.load none (.t 51),[4,3],(some (50,false))⟩⟩,
 ⟨false,⟨(some 53),.call .heap (.f 190) [(.t 52)],[5,3,3],(some (50,false))⟩⟩,
 fz 54 (.pick (.t 50) (.c (.bool true)) (.t 53)) [3,6],
 fm 46 54 [7,6]] 20125462982295616
 (.cond (.t 46)
 (fq [fn 4 2 []] 15868118509318156
 .ret)
 .skip)))))))))
 (fr [fc 55 .add 14 1 [],
 ⟨false,⟨(some 14),.mov (.t 55),[0],none⟩⟩] 36099165763141648)))))))
 (.seq (fq [ff 56 2 3 [],
 fl 57 56 [0],
 fg 58 190 [57] [1]] 231970531878924300
 (.cond (.t 58)
 (fq [fn 4 2 []] 288230376151711744
 .ret)
 .skip))
 (fq [⟨false,⟨(some 4),.mov (.c fO),[],none⟩⟩] 288230376151711744
 .ret)))))⟩
def f106:FFn:=⟨26,[.tmp 4],
 (fq [fz 4 (.mov (.c (.bool false))) []] 16
 (.seq (fq [fm 6 0 [],
 fv 7 6 [0],
 fm 8 1 [],
 fv 9 8 [2],
 fb 10 .neq 7 9 [1,3]] 960
 (.cond (.t 10)
 (fq [fz 4 (.mov (.c (.bool false))) []] 1027
 .ret)
 .skip))
 (.seq (fq [fm 11 0 [],
 fv 12 11 [0],
 fn 13 0 []] 3088
 (.block 0 (.loop (fq [fb 14 .lss 13 12 []] 0
 (.seq (fo 14 0)
 (.seq (.block 1 (fq [fm 15 13 [],
 fm 5 15 [0,0]] 49152
 (fq [fm 16 0 [],
 fm 17 5 [],
 fi 18 3 16 17 [0,1],
 fw 19 3 18 [2],
 fm 20 1 [],
 fm 21 5 [],
 fi 22 3 20 21 [4,5],
 fw 23 3 22 [6],
 fz 24 (.eq (.flat true [.i,.i,.i]) true (.t 19) (.t 23)) [3,7]] 16711712
 (.cond (.t 24)
 (fq [fz 4 (.mov (.c (.bool false))) []] 16789507
 .ret)
 .skip))))
 (fr [fc 25 .add 13 1 [],
 ⟨false,⟨(some 13),.mov (.t 25),[0],none⟩⟩] 50331664)))))))
 (fq [fz 4 (.mov (.c (.bool true))) []] 12291
 .ret))))⟩
def f110:FFn:=⟨19,[.tmp 4],
 (fq [fn 4 0 []] 16
 (.seq (fq [fm 6 0 [],
 fv 7 6 [0],
 fn 8 0 []] 64
 (.block 0 (.loop (fq [fb 9 .lss 8 7 []] 0
 (.seq (fo 9 0)
 (.seq (.block 1 (fq [fm 10 8 [],
 fm 5 10 [0,0]] 1536
 (fq [fm 11 1 [],
 fm 12 0 [],
 fm 13 5 [],
 fi 14 1 12 13 [1,2],
 fl 15 14 [3],
 fz 16 (.call .heap (.t 11) [(.t 15)]) [0,4]] 63488
 (.cond (.t 16)
 (fq [fm 17 5 [],
 fm 4 17 [0,0]] 197027
 .ret)
 .skip))))
 (fr [fc 18 .add 8 1 [],
 ⟨false,⟨(some 8),.mov (.t 18),[0],none⟩⟩] 327728)))))))
 (fq [fz 4 (.mov (.c (.int .i64 (.negSucc 0)))) []] 387
 .ret)))⟩
def f111:FFn:=⟨19,[.tmp 4],
 (fq [fn 4 0 []] 16
 (.seq (fq [fm 6 0 [],
 fv 7 6 [0],
 fn 8 0 []] 64
 (.block 0 (.loop (fq [fb 9 .lss 8 7 []] 0
 (.seq (fo 9 0)
 (.seq (.block 1 (fq [fm 10 8 [],
 fm 5 10 [0,0]] 1536
 (fq [fm 11 1 [],
 fm 12 0 [],
 fm 13 5 [],
 fi 14 1 12 13 [1,2],
 fl 15 14 [3],
 fb 16 .eql 11 15 [0,4]] 63488
 (.cond (.t 16)
 (fq [fm 17 5 [],
 fm 4 17 [0,0]] 197027
 .ret)
 .skip))))
 (fr [fc 18 .add 8 1 [],
 ⟨false,⟨(some 8),.mov (.t 18),[0],none⟩⟩] 327728)))))))
 (fq [fz 4 (.mov (.c (.int .i64 (.negSucc 0)))) []] 387
 .ret)))⟩
def f112:FFn:=⟨29,[.tmp 2],
 (fq [fz 1 (.box .dyn (.t 0)) [],
 fn 2 0 []] 5
 (.seq (fq [ff 5 0 1 [],
 fl 6 5 [0],
 fz 7 (.call .heap (.f 192) [(.t 6),(fk 32)]) [1],
 fm 3 7 [2,2,0,1,2]] 224
 (fq [fm 8 3 [],
 fc 9 .neq 8 0 [0]] 256
 (.cond (.t 9)
 (fq [fm 10 3 [],
 fm 2 10 [0,0]] 1546
 .ret)
 .skip)))
 (.seq (.block 0 (fq [ff 12 1 1 [],
 fl 13 12 [0],
 fc 14 .lss 13 0 [1],
 fm 11 14 [2]] 29196
 (.cond (.t 11)
 (fq [fn 2 2 []] 2050
 .ret)
 (fq [ff 16 1 1 [],
 fl 17 16 [0],
 fc 18 .gtr 17 4096 [1],
 fm 15 18 [2]] 460800
 (.cond (.t 15)
 (fq [fn 2 3 []] 32770
 .ret)
 .skip)))))
 (.seq (fq [ff 19 2 1 [],
 fl 20 19 [0],
 ff 21 1 1 [],
 fl 22 21 [2],
 fg 23 192 [20,22] [1,3],
 fm 4 23 (fa [4,4] 5)] 16285700
 (fq [fm 24 4 [],
 fc 25 .neq 24 0 [0]] 16777216
 (.cond (.t 25)
 (fq [fm 26 4 [],
 fm 2 26 [0,0]] 100663314
 .ret)
 .skip)))
 (fq [fw 27 4 1 [],
 fg 28 193 [27] [0],
 ⟨false,⟨(some 2),.mov (.t 28),[1,1,0,1],none⟩⟩] 436207634
 .ret)))))⟩
def f115:FFn:=⟨9,[.tmp 4],
 (fq [fz 4 (.mov (.c (.bool false))) []] 16
 (fq [fm 5 0 [],
 fm 6 1 [],
 fg 7 195 [5,6] [0,1],
 fc 8 .geq 7 0 [2],
 fm 4 8 [3,2,0,1,2,3]] 483
 .ret))⟩
def f135:FFn:=⟨55,[.tmp 2],
 (fq [fz 2 (.mov (.c (.bool false))) []] 4
 (.seq (fq [fm 6 0 [],
 fz 7 (.len 0 (.t 6)) [0],
 fn 8 0 []] 64
 (.block 0 (.loop (fq [fb 9 .lss 8 7 []] 0
 (.seq (fo 9 0)
 (.seq (.block 1 (fq [fm 10 8 [],
 fm 3 10 [0,0]] 1536
 (fq [fm 11 0 [],
 fm 12 3 [],
 fz 13 (.index none (.t 11) (.t 12)) [0,1],
 fm 4 13 [2,0,1,2]] 14336
 (fq [fm 14 4 [],
 fz 15 (.bin .geq (.t 14) (.c (.int .u8 (.ofNat 97)))) [0],
 fm 16 15 [1],
 ⟨false,⟨(some 17),.mov (.t 4),[2],(some (16,true))⟩⟩,
 ⟨false,⟨(some 18),.bin .leq (.t 17) (.c (.int .u8 (.ofNat 122))),[3,2],(some (16,true))⟩⟩,
 fz 19 (.pick (.t 16) (.t 18) (.c (.bool false))) [2,4],
 fm 20 19 [5,2],
 ⟨false,⟨(some 21),.mov (.t 4),[6],(some (20,false))⟩⟩,
 ⟨false,⟨(some 22),.bin .geq (.t 21) (.c (.int .u8 (.ofNat 65))),[7,6],(some (20,false))⟩⟩,
 ⟨false,⟨(some 23),.mov (.t 22),[8,6,6],(some (20,false))⟩⟩,
 ⟨false,⟨(some 24),.mov (.t 4),[9],(some (23,true))⟩⟩,
 ⟨false,⟨(some 25),.bin .leq (.t 24) (.c (.int .u8 (.ofNat 90))),[10,9],(some (23,true))⟩⟩,
 ⟨false,⟨(some 26),.pick (.t 23) (.t 25) (.c (.bool false)),[9,11,6],(some (20,false))⟩⟩,
 fz 27 (.pick (.t 20) (.c (.bool true)) (.t 26)) [6,12],
 fm 28 27 [13,9],
 ⟨false,⟨(some 29),.mov (.t 4),[14],(some (28,false))⟩⟩,
 ⟨false,⟨(some 30),.bin .eql (.t 29) (.c (.int .u8 (.ofNat 95))),[15,14],(some (28,false))⟩⟩,
 fz 31 (.pick (.t 28) (.c (.bool true)) (.t 30)) [14,16],
 fm 5 31 (fa [17,14] 18)] 2551824384
 (fq [fm 32 5 [],
 fu 33 32 [0],
 fm 34 33 [1],
 ⟨false,⟨(some 35),.mov (.t 3),[2],(some (34,true))⟩⟩,
 ⟨false,⟨(some 36),.bin .eql (.t 35) (.c fO),[3,2],(some (34,true))⟩⟩,
 ⟨false,⟨(some 37),.mov (.t 36),[4,2,2],(some (34,true))⟩⟩,
 ⟨false,⟨(some 38),.mov (.t 4),[5],(some (37,false))⟩⟩,
 ⟨false,⟨(some 39),.bin .lss (.t 38) (.c (.int .u8 (.ofNat 48))),[6,5],(some (37,false))⟩⟩,
 ⟨false,⟨(some 40),.pick (.t 37) (.c (.bool true)) (.t 39),[5,7,2],(some (34,true))⟩⟩,
 ⟨false,⟨(some 41),.mov (.t 40),[8,5,2],(some (34,true))⟩⟩,
 ⟨false,⟨(some 42),.mov (.t 4),[9],(some (41,false))⟩⟩,
 ⟨false,⟨(some 43),.bin .gtr (.t 42) (.c (.int .u8 (.ofNat 57))),[10,9],(some (41,false))⟩⟩,
 ⟨false,⟨(some 44),.pick (.t 41) (.c (.bool true)) (.t 43),[9,11,2],(some (34,true))⟩⟩,
 fz 45 (.pick (.t 34) (.t 44) (.c (.bool false))) [2,12]] 30064771128
 (.cond (.t 45)
 (fq [fz 2 (.mov (.c (.bool false))) []] 15832934823362945
 .ret)
 .skip))))))
 (fr [fc 46 .add 8 1 [],
 ⟨false,⟨(some 8),.mov (.t 46),[0],none⟩⟩] 105553116266500)))))))
 (fq [fm 47 0 [],
 fz 48 (.len 0 (.t 47)) [0],
 fc 49 .gtr 48 0 [1],
 fm 50 49 [2],
 ⟨false,⟨(some 51),.mov (.t 0),[3],(some (50,true))⟩⟩,
 ⟨false,⟨(some 52),.len 0 (.t 51),[4,3],(some (50,true))⟩⟩,
 ⟨false,⟨(some 53),.bin .leq (.t 52) (.c (.int .i64 (.ofNat 32))),[5,3],(some (50,true))⟩⟩,
 fz 54 (.pick (.t 50) (.t 53) (.c (.bool false))) [3,6],
 fm 2 54 (fa [7,3] 8)] 35923211286086017
 .ret)))⟩
def f144:FFn:=⟨54,[.tmp 4,.tmp 5],
 (fq [fn 4 0 [],
 fz 5 (.mov (.c (.bool false))) [0]] 48
 (fq [fm 10 0 [],
 fv 11 10 [0],
 fm 6 11 [1,0,1]] 3072
 (fq [fm 12 6 [],
 fn 7 0 [],
 fm 8 12 [0,1,0,1]] 4096
 (.seq (.block 0 (.loop (.seq (fq [fm 13 7 [],
 fm 14 8 [],
 fb 15 .lss 13 14 [0,1]] 24576
 (fo 15 0))
 (.block 1 (fq [fm 16 7 [],
 fm 17 8 [],
 fb 18 .add 16 17 [0,1],
 fz 19 (.conv .u64 (.t 18)) [2],
 fz 20 (.bin .shr (.t 19) (.c (.int .u64 (.ofNat 1)))) [3],
 fz 21 (.conv .i64 (.t 20)) [4],
 fm 9 21 (fa [5] 6)] 4161536
 (fq [fm 22 0 [],
 fm 23 9 [],
 fi 24 1 22 23 [0,1],
 fl 25 24 [2],
 fm 26 1 [],
 fg 27 197 [25,26] [3,4]] 130023424
 (.cond (.t 27)
 (fr [fm 28 9 [],
 fc 29 .add 28 1 [0],
 ⟨false,⟨(some 7),.mov (.t 29),[1,0,1],none⟩⟩] 939524608)
 (fr [fm 30 9 [],
 ⟨false,⟨(some 8),.mov (.t 30),[0,0],none⟩⟩] 1207960064))))))))
 (fq [fm 31 7 [],
 fm 32 7 [],
 fm 33 6 [],
 fb 34 .lss 32 33 [1,2],
 fm 35 34 [3],
 ⟨false,⟨(some 36),.mov (.t 0),[4],(some (35,true))⟩⟩,
 ⟨false,⟨(some 37),.mov (.t 7),[4],(some (35,true))⟩⟩,
 ⟨false,⟨(some 38),.iaddr none 1 (.t 36) (.t 37),[5,6,4],(some (35,true))⟩⟩,
 ⟨false,⟨(some 39),.load none (.t 38),[7,4],(some (35,true))⟩⟩,
 ⟨false,⟨(some 40),.mov (.t 1),[4],(some (35,true))⟩⟩,
 ⟨false,⟨(some 41),.bin .eql (.t 39) (.t 40),[8,9,4],(some (35,true))⟩⟩,
 ⟨false,⟨(some 42),.mov (.t 41),[10,4,4],(some (35,true))⟩⟩,
 ⟨false,⟨(some 43),.mov (.t 0),[11],(some (42,false))⟩⟩,
 ⟨false,⟨(some 44),.mov (.t 7),[11],(some (42,false))⟩⟩,
 ⟨false,⟨(some 45),.iaddr none 1 (.t 43) (.t 44),[12,13,11],(some (42,false))⟩⟩,
 ⟨false,⟨(some 46),.load none (.t 45),[14,11],(some (42,false))⟩⟩,
 ⟨false,⟨(some 47),.call .heap (.f 198) [(.t 46)],[15,11,11],(some (42,false))⟩⟩,
 ⟨false,⟨(some 48),.mov (.t 47),[16,16,11],(some (42,false))⟩⟩,
 ⟨false,⟨(some 49),.mov (.t 1),[17],(some (48,true))⟩⟩,
 ⟨false,⟨(some 50),.call .heap (.f 198) [(.t 49)],[18,17,17],(some (48,true))⟩⟩,
 ⟨false,⟨(some 51),.pick (.t 48) (.t 50) (.c (.bool false)),[17,19,11],(some (42,false))⟩⟩,
 ⟨false,⟨(some 52),.pick (.t 42) (.c (.bool true)) (.t 51),[11,20,4],(some (35,true))⟩⟩,
 fz 53 (.pick (.t 35) (.t 52) (.c (.bool false))) [4,21],
 fm 4 31 [0,19,0],
 fm 5 53 (fa [22,23] 24)] 18014396361998787
 .ret)))))⟩
def f148:FFn:=⟨8,[.tmp 2],
 (fq [fz 2 (.mov (.c fN)) []] 4
 (.seq (fq [fm 3 0 [],
 fz 4 (.eqn false (.t 3)) [0]] 8
 (.cond (.t 4)
 (fq [fz 2 (.mov (.c fN)) []] 17
 .ret)
 .skip))
 (fq [fz 5 (.bslice false .dyn 2 0 [] []) [],
 fm 6 0 [],
 fz 7 (.append .dyn 2 16 (.t 5) (.t 6)) [0,1],
 ⟨false,⟨(some 2),.mov (.t 7),[2,2,0,1,2],none⟩⟩] 241
 .ret)))⟩
def f149:FFn:=⟨8,[.tmp 2],
 (fq [fz 2 (.mov (.c fN)) []] 4
 (.seq (fq [fm 3 0 [],
 fz 4 (.eqn false (.t 3)) [0]] 8
 (.cond (.t 4)
 (fq [fz 2 (.mov (.c fN)) []] 17
 .ret)
 .skip))
 (fq [fz 5 (.bslice false .dyn 2 0 [] []) [],
 fm 6 0 [],
 fz 7 (.append .dyn 2 16 (.t 5) (.t 6)) [0,1],
 ⟨false,⟨(some 2),.mov (.t 7),[2,2,0,1,2],none⟩⟩] 241
 .ret)))⟩
def f150:FFn:=⟨105,[.cell 2 (some 4)],
 (fq [fz 1 (.box .dyn (.t 0)) [],
 fz 2 (.alloc .dyn (.agg [fN,fO,fN,fN])) []] 1
 (fq [ff 12 0 1 [],
 fl 13 12 [0],
 fg 14 41 [13] [1],
 fz 15 (.build [fN,fO,fN,fN] [(0,1,(.t 14))]) [2],
 fz 3 (.alloc .dyn (.agg [fN,fO,fN,fN])) [],
 fj 4 3 15 (fa [4,3,2] 5)] 61440
 (.seq (fq [ff 16 1 1 [],
 fl 17 16 [0],
 fc 18 .eql 17 0 [1]] 196608
 (.cond (.t 18)
 (fq [fw 19 4 3 [],
 fj 4 2 19 [0,0]] 786442
 .ret)
 .skip))
 (fq [ff 20 1 1 [],
 fl 21 20 [0],
 fz 22 (.mkslice .dyn 1 8 [fO] (.t 21) (.t 21)) [1,1],
 fm 4 22 [2,0,1,2]] 7602176
 (.seq (fq [fm 23 4 [],
 fv 24 23 [0],
 fn 25 0 []] 8388608
 (.block 0 (.loop (fq [fb 26 .lss 25 24 []] 0
 (.seq (fo 26 0)
 (.seq (.block 1 (fq [fm 27 25 [],
 fm 5 27 [0,0]] 201326592
 (fr [fm 28 4 [],
 fm 29 5 [],
 fi 30 1 28 29 [0,1,0,1],
 ⟨false,⟨none,.store 1 (.t 30) (.c (.int .i64 (.negSucc 0))),[2,0,1],none⟩⟩] 1879048224)))
 (fr [fc 31 .add 25 1 [],
 ⟨false,⟨(some 25),.mov (.t 31),[0],none⟩⟩] 2147483648)))))))
 (fq [fm 32 4 [],
 fz 33 (.iaddr none 1 (.t 32) (fk 0)) [0,0],
 ⟨false,⟨none,.store 1 (.t 33) (.c fO),[1,0],none⟩⟩] 12935233536
 (fq [fz 34 (.bslice false .dyn 1 1 [fO] [(0,1,(fk 0))]) [],
 fm 6 34 [0,0]] 17179869184
 (.seq (fq [fn 7 0 []] 0
 (.block 2 (.loop (.seq (fq [fm 35 7 [],
 fm 36 6 [],
 fv 37 36 [1],
 fb 38 .lss 35 37 [0,2]] 240518168576
 (fo 38 2))
 (.seq (.block 3 (.seq (fq [ff 42 2 1 [],
 fl 43 42 [0],
 fm 44 6 [],
 fm 45 7 [],
 fi 46 1 44 45 [2,3],
 fl 47 46 [4],
 fg 48 144 [43,47] [1,5],
 fm 41 48 [6],
 fe 49 0 41 [7],
 fe 50 1 41 [7],
 fm 8 49 (fa [8,6] 9),
 fm 9 50 (fa [9,10] 11)] 2249875668336896
 (fq [fm 51 9 []] 512
 (.cond (.t 51)
 (fr [ff 52 2 3 [],
 fl 53 52 [0],
 fm 54 7 [],
 fz 55 (.bslice false .dyn 1 1 [fO] [(0,1,(.t 54))]) [2],
 fz 56 (.append .dyn 1 8 (.t 53) (.t 55)) [1,3],
 ff 57 2 3 (fa [] 5),
 fj 1 57 56 (fa [5,4,4] 5)] 285978576338026496)
 .skip)))
 (fq [fw 58 4 1 [],
 fm 59 6 [],
 fm 60 7 [],
 fi 61 1 59 60 [1,2],
 fl 62 61 [3],
 fg 63 199 [58,62] [0,4],
 fv 64 63 [5],
 fn 65 0 []] 8937393460516749312
 (.block 4 (.loop (fq [fb 66 .lss 65 64 []] 0
 (.seq (fo 66 4)
 (.seq (.block 5 (fq [fi 67 3 63 65 [],
 fw 68 3 67 [0],
 fz 11 (.alloc .dyn (.agg [fO,fO,fO])) [],
 fj 3 11 68 [2,1,0,1,2]] 516508834063867445248
 (.seq (fq [fm 69 4 [],
 ff 70 2 11 [],
 fl 71 70 [1],
 fi 72 1 69 71 [0,2],
 fl 73 72 [3],
 fc 74 .lss 73 0 [4]] 18299170121119875203072
 (.cond (.t 74)
 (fq [fm 75 4 [],
 ff 76 2 11 [],
 fl 77 76 [1],
 fm 78 6 [],
 fv 79 78 [3],
 fi 80 1 75 77 (fa [0,2] 5),
 fj 1 80 79 (fa [5,4] 5)] 2398962173297779768557568
 (fr [fm 81 6 [],
 ff 82 2 11 [],
 fl 83 82 [1],
 fz 84 (.bslice false .dyn 1 1 [fO] [(0,1,(.t 83))]) [2],
 fz 85 (.append .dyn 1 8 (.t 81) (.t 84)) [0,3],
 ⟨false,⟨(some 6),.mov (.t 85),[4,4,0,1,2,3,4],none⟩⟩] 74953400816107008831782912))
 .skip))
 (fr [ff 86 3 3 [],
 fl 87 86 [0],
 fm 88 7 [],
 ff 89 1 11 [],
 fl 90 89 [3],
 fm 91 4 [],
 ff 92 2 11 [],
 fl 93 92 [6],
 fi 94 1 91 93 [5,7],
 fl 95 94 [8],
 fz 96 (.build [fO,fO,fO] [(0,1,(.t 88)),(1,1,(.t 90)),(2,1,(.t 95))]) [2,4,9],
 fz 97 (.bslice false .dyn 3 1 [fO,fO,fO] [(0,3,(.t 96))]) [10],
 fz 98 (.append .dyn 3 24 (.t 87) (.t 97)) [1,11],
 ff 99 3 3 (fa [] 13),
 fj 1 99 98 (fa [13,12,12] 13)] 1267573247865239996708102866944))))
 (fr [fc 100 .add 65 1 [],
 ⟨false,⟨(some 65),.mov (.t 100),[0],none⟩⟩] 1267650600228229401496703205376)))))))))
 (fr [fm 39 7 [],
 fc 40 .add 39 1 [0],
 ⟨false,⟨(some 7),.mov (.t 40),[1,0,1],none⟩⟩] 64563605907250872320))))))
 (fq [fm 101 6 [],
 fv 102 101 [0],
 ff 103 1 3 [0,1],
 fj 1 103 102 [2,1,0,1]] 17747108403195211620953844875474
 (fq [fw 104 4 3 [],
 fj 4 2 104 [0,0]] 20282409603651670423947251286024
 .ret))))))))))⟩
def f154:FFn:=⟨19,[.tmp 4,.tmp 5],
 (fq [fn 4 0 [],
 fz 5 (.mov (.c .nilif)) [0]] 48
 (fq [fm 6 0 [],
 fg 7 200 [6] [0]] 192
 (fq [fm 8 0 [],
 fm 9 0 [],
 fz 10 (.nilchk (.t 9)) [1],
 ff 11 1 10 [2],
 fl 12 11 [3],
 fm 13 1 [],
 fz 14 (.appendT 5 .dyn 1 1 (.t 12) (.t 13)) [4,5],
 fz 15 (.nilchk (.t 8)) (fa [0] 7),
 ff 16 1 15 (fa [7] 7),
 fj 1 16 14 (fa [8,6,6] 7)] 130817
 (fq [fm 17 1 [],
 fz 18 (.len 0 (.t 17)) [0],
 fm 4 18 [1,0,1],
 fz 5 (.mov (.c .nilif)) [2,0,1,2]] 393218
 .ret))))⟩
def f155:FFn:=⟨5,[.tmp 2],
 (fq [fz 2 (.mov (.c (.str []))) []] 4
 (fq [fm 3 0 [],
 fg 4 201 [3] [0],
 fm 2 4 [1,1,0,1]] 25
 .ret))⟩
def f156:FFn:=⟨14,[.tmp 2],
 (fq [fz 2 (.mov (.c (.str []))) []] 4
 (fq [fm 3 0 [],
 fz 4 (.nilchk (.t 3)) [0],
 ff 5 1 4 [1],
 fl 6 5 [2],
 fz 7 (.usd (.t 6)) [3],
 fm 8 0 [],
 fz 9 (.nilchk (.t 8)) [5],
 ff 10 1 9 [6],
 fl 11 10 [7],
 fv 12 11 [8],
 fz 13 (.ustr 5 (.t 7) (.t 12)) [4,9],
 fm 2 13 (fa [10] 11)] 16377
 .ret))⟩
def f157:FFn:=⟨14,[.tmp 4],
 (fq [fz 2 (.box .dyn (.t 0)) [],
 fn 4 0 []] 17
 (.seq (fq [fw 6 3 2 [],
 fg 7 32 [6] [0],
 fm 5 7 [1,1,0,1]] 192
 (fq [fm 8 5 [],
 fc 9 .neq 8 0 [0]] 256
 (.cond (.t 9)
 (fq [fm 10 5 [],
 fm 4 10 [0,0]] 1574
 .ret)
 .skip)))
 (fq [fw 11 3 2 [],
 fm 12 1 [],
 fg 13 202 [11,12] [0,1],
 ⟨false,⟨(some 4),.mov (.t 13),[2,2,0,1,2],none⟩⟩] 14886
 .ret)))⟩
def f158:FFn:=⟨8,[.tmp 4],
 (fq [fz 3 (.box .dyn (.t 1)) [],
 fn 4 0 []] 18
 (fq [fm 5 0 [],
 fz 6 (.mkfn 204 [] [(.t 3)]) [],
 fg 7 203 [5,6] [0,1],
 fm 4 7 [2,2,0,1,2]] 233
 .ret))⟩
def f159:FFn:=⟨35,[.tmp 2],
 (fq [fz 1 (.box .dyn (.t 0)) [],
 fz 2 (.mov (.c fN)) []] 5
 (fq [fz 3 (.mov (.c fN)) []] 0
 (.seq (fq [ff 8 1 1 [],
 fl 9 8 [0],
 fv 10 9 [1],
 fn 11 0 []] 256
 (.block 0 (.loop (fq [fb 12 .lss 11 10 []] 0
 (.seq (fo 12 0)
 (.seq (.block 1 (fq [fi 13 2 9 11 [],
 fw 14 2 13 [0],
 fz 5 (.alloc .dyn (.agg [(.str []),fN])) [],
 fj 2 5 14 [2,1,0,1,2]] 28672
 (fr [fm 15 3 [],
 fw 16 2 5 [],
 fg 17 205 [16] [1],
 fz 18 (.bslice false .dyn 1 1 [.nilfn] [(0,1,(.t 17))]) [2],
 fz 19 (.append .dyn 1 8 (.t 15) (.t 18)) [0,3,2],
 ⟨false,⟨(some 3),.mov (.t 19),[4,4,0,1,2,3,4],none⟩⟩] 1015840)))
 (fr [fc 20 .add 11 1 [],
 ⟨false,⟨(some 11),.mov (.t 20),[0],none⟩⟩] 1048576)))))))
 (.seq (fq [ff 21 2 1 [],
 fl 22 21 [0],
 fv 23 22 [1],
 fn 24 0 []] 2100738
 (.block 2 (.loop (fq [fb 25 .lss 24 23 []] 0
 (.seq (fo 25 2)
 (.seq (.block 3 (fq [fi 26 3 22 24 [],
 fw 27 3 26 [0],
 fz 7 (.alloc .dyn (.agg [(.str []),fN,fO])) [],
 fj 3 7 27 [2,1,0,1,2]] 234881024
 (fr [fm 28 3 [],
 fw 29 3 7 [],
 fg 30 206 [29] [1],
 fz 31 (.bslice false .dyn 1 1 [.nilfn] [(0,1,(.t 30))]) [2],
 fz 32 (.append .dyn 1 8 (.t 28) (.t 31)) [0,3,2],
 ⟨false,⟨(some 3),.mov (.t 32),[4,4,0,1,2,3,4],none⟩⟩] 8321499264)))
 (fr [fc 33 .add 24 1 [],
 ⟨false,⟨(some 24),.mov (.t 33),[0],none⟩⟩] 8589934592)))))))
 (fq [fm 34 3 [],
 fm 2 34 [0,0]] 17209229320
 .ret)))))⟩
def f160:FFn:=⟨39,[],
 (fq [fl 11 1 [],
 fz 12 (.nilchk (.t 11)) [0],
 ff 13 5 12 [1],
 fw 14 4 13 [2],
 fl 15 2 [],
 fg 16 161 [14,15] [3,4],
 fm 10 16 [5],
 fe 17 0 10 [6],
 fe 18 1 10 [6],
 fm 5 17 (fa [7,5] 8),
 fm 6 18 (fa [8,9] 10)] 523332
 (fq [fm 19 5 [],
 fv 20 19 [0],
 fn 21 0 []] 32
 (.block 0 (.loop (fq [fb 22 .lss 21 20 []] 0
 (.seq (fo 22 0)
 (.seq (.block 1 (fq [fi 23 1 19 21 [],
 fl 24 23 [0],
 fm 8 24 [1,0,1]] 29360128
 (fq [fl 25 1 [],
 fl 26 3 [],
 fm 27 8 [],
 fg 28 162 [25,26,27] [0,1,2],
 fm 9 28 [3,3,0,1,2,3]] 503316480
 (fq [fm 29 9 [],
 fc 30 .geq 29 0 [0],
 fm 31 30 [1],
 ⟨false,⟨(some 32),.mov (.t 0),[2],(some (31,true))⟩⟩,
 ⟨false,⟨(some 33),.mov (.t 8),[2],(some (31,true))⟩⟩,
 ⟨false,⟨(some 34),.mov (.t 9),[2],(some (31,true))⟩⟩,
 ⟨false,⟨(some 35),.call .heap (.t 32) [(.t 33),(.t 34)],[3,4,5,2,2],(some (31,true))⟩⟩,
 ⟨false,⟨(some 36),.un .not (.t 35),[6,2],(some (31,true))⟩⟩,
 fz 37 (.pick (.t 31) (.t 36) (.c (.bool false))) [2,7]] 3758097152
 (.cond (.t 37)
 .ret
 .skip)))))
 (fr [fc 38 .add 21 1 [],
 ⟨false,⟨(some 21),.mov (.t 38),[0],none⟩⟩] 412316860416))))))))⟩
def f161:FFn:=⟨31,[.tmp 4,.tmp 5],
 (fq [fz 2 (.box .dyn (.t 0)) [],
 fz 4 (.mov (.c fN)) [],
 fn 5 0 [1]] 49
 (.seq (fq [fw 10 4 2 [],
 fm 11 1 [],
 fg 12 207 [10,11] [0,1],
 fm 6 12 [2,2,0,1,2]] 7168
 (fq [fm 13 6 [],
 fc 14 .neq 13 0 [0]] 8192
 (.cond (.t 14)
 (fq [fm 15 6 [],
 fz 4 (.mov (.c fN)) [],
 fm 5 15 [0,1,0,1]] 49222
 .ret)
 .skip)))
 (fq [fz 7 (.mov (.c fN)) []] 16496
 (.seq (fq [fw 16 4 2 [],
 fm 17 1 [],
 fg 18 199 [16,17] [0,1],
 fv 19 18 [2],
 fn 20 0 []] 196614
 (.block 0 (.loop (fq [fb 21 .lss 20 19 []] 0
 (.seq (fo 21 0)
 (.seq (.block 1 (fq [fi 22 3 18 20 [],
 fw 23 3 22 [0],
 fz 9 (.alloc .dyn (.agg [fO,fO,fO])) [],
 fj 3 9 23 [2,1,0,1,2]] 14680064
 (fr [fm 24 7 [],
 ff 25 1 9 [],
 fl 26 25 [1],
 fz 27 (.bslice false .dyn 1 1 [fO] [(0,1,(.t 26))]) [2],
 fz 28 (.append .dyn 1 8 (.t 24) (.t 27)) [0,3],
 ⟨false,⟨(some 7),.mov (.t 28),[4,4,0,1,2,3,4],none⟩⟩] 520094208)))
 (fr [fc 29 .add 20 1 [],
 ⟨false,⟨(some 20),.mov (.t 29),[0],none⟩⟩] 536870912)))))))
 (fq [fm 30 7 [],
 fm 4 30 [0,0],
 fn 5 0 [1,0,1]] 1075576960
 .ret)))))⟩
def f162:FFn:=⟨45,[.tmp 6],
 (fq [fn 6 0 []] 64
 (.seq (fq [fm 12 0 [],
 fz 13 (.nilchk (.t 12)) [0],
 ff 14 0 13 [1],
 ff 15 2 14 [2],
 fl 16 15 [3],
 fv 17 16 [4],
 fn 18 0 []] 61441
 (.block 0 (.loop (fq [fb 19 .lss 18 17 []] 0
 (.seq (fo 19 0)
 (.seq (.block 1 (fq [fm 20 18 [],
 fi 21 5 16 18 [],
 fw 22 5 21 [1],
 fz 8 (.alloc .dyn (.agg [(.str []),fN,fO,fN,fN])) [],
 fm 7 20 [0,0,1,2,3],
 fj 5 8 22 (fa [3,2,4] 5)] 7864320
 (.seq (fq [ff 23 1 8 [],
 ff 24 0 23 [0],
 fl 25 24 [1],
 fm 26 2 [],
 fg 27 189 [25,26] [2,3],
 fu 28 27 [4]] 260046848
 (.cond (.t 28)
 (.exit 1)
 .skip))
 (fq [ff 30 1 8 [],
 fw 31 4 30 [0],
 fm 32 1 [],
 fm 33 7 [],
 fi 34 1 32 33 [2,3],
 fl 35 34 [4],
 fm 36 2 [],
 fg 37 208 [31,35,36] [1,5,6],
 fm 29 37 [7],
 fe 38 0 29 [8],
 fe 39 1 29 [8],
 fe 40 2 29 [8],
 fm 9 38 (fa [9,7] 10),
 fm 10 39 [10,12,0,1,2,3,4,5,6,7,8,9,10,12],
 fm 11 40 (fa [11,13] 14)] 2198754822912
 (fq [fm 41 10 [],
 fu 42 41 [0]] 2199023256576
 (.cond (.t 42)
 (fq [fm 43 7 [],
 fm 6 43 [0,0]] 13194139992198
 .ret)
 .skip))))))
 (fr [fc 44 .add 18 1 [],
 ⟨false,⟨(some 18),.mov (.t 44),[0],none⟩⟩] 21990232555712)))))))
 (fq [fz 6 (.mov (.c (.int .i64 (.negSucc 0)))) []] 458758
 .ret)))⟩
def f163:FFn:=⟨148,[],
 (fq [fz 10 (.mov (.c (.bool true))) []] 0
 (fq [fz 11 (.mov (.c (.bool true))) []] 0
 (.block 0 (.loop (.block 1 (fq [fm 21 2 [],
 fm 22 1 [],
 fb 23 .sub 21 22 [0,1],
 fm 12 23 [2,0,1,2]] 14680064
 (.seq (fq [fm 24 12 [],
 fc 25 .leq 24 12 [0]] 16777216
 (.cond (.t 25)
 (fq [fm 26 0 [],
 fm 27 1 [],
 fm 28 2 [],
 fm 29 4 [],
 fg 30 209 [26,27,28,29] [0,1,2,3]] 158437011730205359057689123871
 .ret)
 .skip))
 (.seq (fq [fm 31 3 [],
 fc 32 .eql 31 0 [0]] 2181038080
 (.cond (.t 32)
 (fq [fm 33 0 [],
 fm 34 1 [],
 fm 35 2 [],
 fm 36 4 [],
 fg 37 210 [33,34,35,36] [0,1,2,3]] 158437011730205359326158134303
 .ret)
 .skip))
 (.seq (fq [fm 38 10 [],
 fu 39 38 [0]] 279172874240
 (.cond (.t 39)
 (fq [fm 40 0 [],
 fm 41 1 [],
 fm 42 2 [],
 fm 43 4 [],
 fg 44 211 [40,41,42,43] [0,1,2,3]] 34634616274944
 (fr [fm 45 3 [],
 fc 46 .sub 45 1 [0],
 ⟨false,⟨(some 3),.mov (.t 46),[1,0,1],none⟩⟩] 105553116266496))
 .skip))
 (fq [fm 48 0 [],
 fm 49 1 [],
 fm 50 2 [],
 fm 51 4 [],
 fg 52 212 [48,49,50,51] [0,1,2,3],
 fm 47 52 [4],
 fe 53 0 47 [5],
 fe 54 1 47 [5],
 fm 13 53 (fa [6,4] 7),
 fm 14 54 (fa [7,8] 9)] 35888609286422528
 (.seq (fq [fm 55 14 [],
 fc 56 .eql 55 2 [0]] 36028797018963968
 (.cond (.t 56)
 (fq [fm 57 0 [],
 fm 58 1 [],
 fm 59 2 [],
 fm 60 4 [],
 fg 61 213 [57,58,59,60] [0,1,2,3]] 4539628424389476352
 (fq [fm 62 2 [],
 fc 63 .sub 62 1 [0],
 fm 64 13 [],
 fm 65 1 [],
 fb 66 .sub 64 65 [2,3],
 fb 67 .sub 63 66 [1,4],
 ⟨false,⟨(some 13),.mov (.t 67),[5,0,1,2,3,4,5],none⟩⟩] 290536219160925437952
 (fr [fn 14 1 []] 0)))
 .skip))
 (.seq (fq [fm 68 10 [],
 fm 69 68 [0],
 ⟨false,⟨(some 70),.mov (.t 11),[1],(some (69,true))⟩⟩,
 fz 71 (.pick (.t 69) (.t 70) (.c (.bool false))) [1,2],
 fm 72 71 [3,1],
 ⟨false,⟨(some 73),.mov (.t 14),[4],(some (72,true))⟩⟩,
 ⟨false,⟨(some 74),.bin .eql (.t 73) (.c (.int .i64 (.ofNat 1))),[5,4],(some (72,true))⟩⟩,
 fz 75 (.pick (.t 72) (.t 74) (.c (.bool false))) [4,6]] 7969065497436564242432
 (.cond (.t 75)
 (fq [fm 76 0 [],
 fm 77 1 [],
 fm 78 2 [],
 fm 79 4 [],
 fg 80 214 [76,77,78,79] [0,1,2,3]] 1171146887751672012996608
 (.cond (.t 80)
 .ret
 .skip))
 .skip))
 (.seq (fq [fm 81 1 [],
 fc 82 .gtr 81 0 [0],
 fm 83 82 [1],
 ⟨false,⟨(some 84),.mov (.t 4),[2],(some (83,true))⟩⟩,
 ⟨false,⟨(some 85),.mov (.t 0),[2],(some (83,true))⟩⟩,
 ⟨false,⟨(some 86),.mov (.t 1),[2],(some (83,true))⟩⟩,
 ⟨false,⟨(some 87),.bin .sub (.t 86) (.c (.int .i64 (.ofNat 1))),[5,2],(some (83,true))⟩⟩,
 ⟨false,⟨(some 88),.iaddr none 3 (.t 85) (.t 87),[4,6,2],(some (83,true))⟩⟩,
 ⟨false,⟨(some 89),.load (some 3) (.t 88),[7,2],(some (83,true))⟩⟩,
 ⟨false,⟨(some 90),.mov (.t 0),[2],(some (83,true))⟩⟩,
 ⟨false,⟨(some 91),.mov (.t 13),[2],(some (83,true))⟩⟩,
 ⟨false,⟨(some 92),.iaddr none 3 (.t 90) (.t 91),[9,10,2],(some (83,true))⟩⟩,
 ⟨false,⟨(some 93),.load (some 3) (.t 92),[11,2],(some (83,true))⟩⟩,
 ⟨false,⟨(some 94),.call .heap (.t 84) [(.t 89),(.t 93)],[3,8,12,2,2],(some (83,true))⟩⟩,
 ⟨false,⟨(some 95),.bin .lss (.t 94) (.c fO),[13,2],(some (83,true))⟩⟩,
 ⟨false,⟨(some 96),.un .not (.t 95),[14,2],(some (83,true))⟩⟩,
 fz 97 (.pick (.t 83) (.t 96) (.c (.bool false))) [2,15]] 18171666226082394782302208
 (.cond (.t 97)
 (fq [fm 98 0 [],
 fm 99 1 [],
 fm 100 2 [],
 fm 101 13 [],
 fm 102 4 [],
 fg 103 215 [98,99,100,101,102] (fa [] 5),
 fm 15 103 (fa [5,5] 6)] 20123953278623141748760163397634
 (fq [fm 104 15 [],
 fm 1 104 [0,0]] 20282409603651670423947251318784
 (.exit 1)))
 .skip))
 (fq [fm 106 0 [],
 fm 107 1 [],
 fm 108 2 [],
 fm 109 13 [],
 fm 110 4 [],
 fg 111 216 [106,107,108,109,110] (fa [] 5),
 fm 105 111 [5],
 fe 112 0 105 [6],
 fe 113 1 105 [6],
 fm 16 112 (fa [7,5] 8),
 fm 17 113 (fa [8,9] 10)] 20728781071257035701949277902220288
 (fq [fm 114 17 [],
 fm 11 114 [0,0]] 20769187434139310514121985317011456
 (fq [fm 115 16 [],
 fm 116 1 [],
 fb 117 .sub 115 116 [0,1],
 fm 118 2 [],
 fm 119 16 [],
 fb 120 .sub 118 119 [3,4],
 fm 18 117 [2,0,1,2],
 fm 19 120 (fa [5,6] 7)] 2616917616701553124779370149926928384
 (fq [fm 121 12 [],
 fc 122 .quo 121 8 [0],
 fm 20 122 [1,0,1]] 7975367974709495237422842361682071552
 (fq [fm 123 18 [],
 fm 124 19 [],
 fb 125 .lss 123 124 [0,1]] 31901471898837980949691369446728269824
 (.cond (.t 125)
 (fq [fm 126 18 [],
 fm 127 20 [],
 fb 128 .geq 126 127 [0,1],
 fm 10 128 [2,0,1,2]] 638029437976759618993827388934567231488
 (fq [fm 129 0 [],
 fm 130 1 [],
 fm 131 16 [],
 fm 132 3 [],
 fm 133 4 [],
 fg 134 163 [129,130,131,132,133] (fa [] 5)] 42875578232038246396385200536402794643458
 (fr [fm 135 16 [],
 fc 136 .add 135 1 [0],
 fm 1 136 [1,0,1]] 130668428897640369969935849253798993264640)))
 (fq [fm 137 19 [],
 fm 138 20 [],
 fb 139 .geq 137 138 [0,1],
 fm 10 139 [2,0,1,2]] 1219614538340508570360667514861386242719744
 (fq [fm 140 0 [],
 fm 141 16 [],
 fc 142 .add 141 1 [1],
 fm 143 2 [],
 fm 144 3 [],
 fm 145 4 [],
 fg 146 163 [140,142,143,144,145] [0,2,3,4,5]] 177012165013336821185939763789146369453719556
 (fr [fm 147 16 [],
 fm 2 147 [0,0]] 178405961588244985132285746181186892047908864))))))))))))))))))))))⟩
def f164:FFn:=⟨8,[.tmp 2],
 (fq [fn 2 0 []] 4
 (.seq (.cond (.c (.bool false))
 (fq [fm 3 0 [],
 fz 4 (.conv .u32 (.t 3)) [0],
 fg 5 217 [4] [1],
 fm 2 5 [2,2,0,1,2]] 57
 .ret)
 .skip)
 (fq [fm 6 0 [],
 fg 7 218 [6] [0],
 ⟨false,⟨(some 2),.mov (.t 7),[1,1,0,1],none⟩⟩] 193
 .ret)))⟩
def f166:FFn:=⟨7,[.tmp 3],
 (fq [fz 3 (.mov (.c (.bool false))) []] 8
 (fq [fm 4 0 [],
 fl 5 1 [],
 fb 6 .geq 4 5 [0,1],
 fm 3 6 [2,0,1,2]] 115
 .ret))⟩
def f167:FFn:=⟨10,[.tmp 4],
 (fq [fz 4 (.mov (.c (.bool false))) []] 16
 (fq [fm 5 0 [],
 fm 6 1 [],
 fg 7 219 [5,6] [0,1],
 fv 8 7 [2],
 fc 9 .eql 8 0 [3],
 fm 4 9 (fa [4,2] 5)] 995
 .ret))⟩
def f168:FFn:=⟨74,[.tmp 6],
 (fq [fz 6 (.mov (.c fN)) []] 64
 (fq [fz 7 (.mov (.c fN)) []] 0
 (.seq (.block 0 (.loop (.seq (fq [fm 11 0 [],
 fv 12 11 [0],
 fc 13 .gtr 12 0 [1],
 fm 14 13 [2],
 ⟨false,⟨(some 15),.mov (.t 1),[3],(some (14,false))⟩⟩,
 ⟨false,⟨(some 16),.len 1 (.t 15),[4,3],(some (14,false))⟩⟩,
 ⟨false,⟨(some 17),.bin .gtr (.t 16) (.c fO),[5,3],(some (14,false))⟩⟩,
 fz 18 (.pick (.t 14) (.c (.bool true)) (.t 17)) [3,6]] 30720
 (fo 18 0))
 (.block 1 (fq [fm 19 0 [],
 fv 20 19 [0],
 fc 21 .gtr 20 0 [1],
 fm 22 21 [2],
 ⟨false,⟨(some 23),.mov (.t 1),[3],(some (22,true))⟩⟩,
 ⟨false,⟨(some 24),.len 1 (.t 23),[4,3],(some (22,true))⟩⟩,
 ⟨false,⟨(some 25),.bin .eql (.t 24) (.c fO),[5,3],(some (22,true))⟩⟩,
 ⟨false,⟨(some 26),.mov (.t 25),[6,3,3],(some (22,true))⟩⟩,
 ⟨false,⟨(some 27),.mov (.t 0),[7],(some (26,false))⟩⟩,
 ⟨false,⟨(some 28),.iaddr none 1 (.t 27) (.c fO),[8,7],(some (26,false))⟩⟩,
 ⟨false,⟨(some 29),.load none (.t 28),[9,7],(some (26,false))⟩⟩,
 ⟨false,⟨(some 30),.mov (.t 1),[7],(some (26,false))⟩⟩,
 ⟨false,⟨(some 31),.iaddr none 1 (.t 30) (.c fO),[11,7],(some (26,false))⟩⟩,
 ⟨false,⟨(some 32),.load none (.t 31),[12,7],(some (26,false))⟩⟩,
 ⟨false,⟨(some 33),.bin .leq (.t 29) (.t 32),[10,13,7],(some (26,false))⟩⟩,
 ⟨false,⟨(some 34),.pick (.t 26) (.c (.bool true)) (.t 33),[7,14,3],(some (22,true))⟩⟩,
 fz 35 (.pick (.t 22) (.t 34) (.c (.bool false))) [3,15],
 fm 8 35 (fa [16,7] 17)] 34367864832
 (fq [fm 36 1 [],
 fv 37 36 [0],
 fc 38 .gtr 37 0 [1],
 fm 39 38 [2],
 ⟨false,⟨(some 40),.mov (.t 0),[3],(some (39,true))⟩⟩,
 ⟨false,⟨(some 41),.len 1 (.t 40),[4,3],(some (39,true))⟩⟩,
 ⟨false,⟨(some 42),.bin .eql (.t 41) (.c fO),[5,3],(some (39,true))⟩⟩,
 ⟨false,⟨(some 43),.mov (.t 42),[6,3,3],(some (39,true))⟩⟩,
 ⟨false,⟨(some 44),.mov (.t 1),[7],(some (43,false))⟩⟩,
 ⟨false,⟨(some 45),.iaddr none 1 (.t 44) (.c fO),[8,7],(some (43,false))⟩⟩,
 ⟨false,⟨(some 46),.load none (.t 45),[9,7],(some (43,false))⟩⟩,
 ⟨false,⟨(some 47),.mov (.t 0),[7],(some (43,false))⟩⟩,
 ⟨false,⟨(some 48),.iaddr none 1 (.t 47) (.c fO),[11,7],(some (43,false))⟩⟩,
 ⟨false,⟨(some 49),.load none (.t 48),[12,7],(some (43,false))⟩⟩,
 ⟨false,⟨(some 50),.bin .leq (.t 46) (.t 49),[10,13,7],(some (43,false))⟩⟩,
 ⟨false,⟨(some 51),.pick (.t 43) (.c (.bool true)) (.t 50),[7,14,3],(some (39,true))⟩⟩,
 fz 52 (.pick (.t 39) (.t 51) (.c (.bool false))) [3,15],
 fm 9 52 (fa [16,7] 17)] 4504630419521536
 (fq [fn 10 0 []] 0
 (.seq (fq [fm 53 8 []] 0
 (.cond (.t 53)
 (fr [fm 54 0 [],
 fz 55 (.iaddr none 1 (.t 54) (fk 0)) [0],
 fl 56 55 [1],
 fm 57 0 [],
 fz 58 (.slice (some 1) (.t 57) (some (fk 1)) none none) [3],
 ⟨false,⟨(some 10),.mov (.t 56),[2,0,1,2],none⟩⟩,
 ⟨false,⟨(some 0),.mov (.t 58),[4,5,0,1,2,3,4,5],none⟩⟩] 567453553048682496)
 .skip))
 (.seq (fq [fm 59 9 []] 9007199254740992
 (.cond (.t 59)
 (fr [fm 60 1 [],
 fz 61 (.iaddr none 1 (.t 60) (fk 0)) [0],
 fl 62 61 [1],
 fm 63 1 [],
 fz 64 (.slice (some 1) (.t 63) (some (fk 1)) none none) [3],
 ⟨false,⟨(some 10),.mov (.t 62),[2,0,1,2],none⟩⟩,
 ⟨false,⟨(some 1),.mov (.t 64),[4,5,0,1,2,3,4,5],none⟩⟩] 36317027395115679744)
 .skip))
 (fq [fm 65 2 [],
 fm 66 8 [],
 fm 67 9 [],
 fz 68 (.call .heap (.t 65) [(.t 66),(.t 67)]) [0,1,2]] 258830877784237146880
 (.cond (.t 68)
 (fr [fm 69 7 [],
 fm 70 10 [],
 fz 71 (.bslice false .dyn 1 1 [fO] [(0,1,(.t 70))]) [1],
 fz 72 (.append .dyn 1 8 (.t 69) (.t 71)) [0,2],
 ⟨false,⟨(some 7),.mov (.t 72),[3,3,0,1,2,3],none⟩⟩] 9149585060559937602560)
 .skip)))))))))))
 (fq [fm 73 7 [],
 fm 6 73 [0,0]] 9444737468273757749383
 .ret))))⟩
def f169:FFn:=⟨9,[.tmp 4],
 (fq [fz 4 (.mov (.c (.bool false))) []] 16
 (fq [fm 5 0 [],
 fm 6 5 [0],
 fx 7 (.mov (.t 1)) [1] 6 false,
 fz 8 (.pick (.t 6) (.c (.bool true)) (.t 7)) [1,2],
 fm 4 8 [3,1,0,1,2,3]] 483
 .ret))⟩
def f183:FFn:=⟨11,[],
 (fq [fm 3 0 [],
 fv 4 3 [0],
 fm 2 4 [1,0,1]] 24
 (fr [fm 5 0 [],
 fm 6 2 [],
 fm 7 2 [],
 fz 8 (.conv .u64 (.t 7)) [2],
 fg 9 164 [8] [3],
 fz 10 (.call .heap (.f 223) [(.t 5),(fk 0),(.t 6),(.t 9)]) [0,1,4,4]] 2021))⟩
def f184:FFn:=⟨61,[.tmp 2],
 (fq [fz 2 (.mov (.c fN)) []] 4
 (.seq (fq [fm 6 0 [],
 fv 7 6 [0],
 fc 8 .lss 7 2 [1]] 192
 (.cond (.t 8)
 (fq [fm 9 0 [],
 fm 2 9 [0,0]] 769
 .ret)
 .skip))
 (.seq (fq [fn 3 1 []] 260
 (.block 0 (.loop (.seq (fq [fm 10 3 [],
 fm 11 0 [],
 fv 12 11 [1],
 fb 13 .lss 10 12 [0,2]] 7168
 (fo 13 0))
 (.seq (.block 1 (fq [fm 16 0 [],
 fm 17 3 [],
 fi 18 1 16 17 [0,1],
 fl 19 18 [2],
 fm 20 0 [],
 fm 21 3 [],
 fc 22 .sub 21 1 [5],
 fi 23 1 20 22 [4,6],
 fl 24 23 [7],
 fb 25 .eql 19 24 [3,8]] 33497088
 (.cond (.t 25)
 (fq [fm 26 0 [],
 fm 27 3 [],
 fz 28 (.slice (some 1) (.t 26) (some (.t 27)) none none) [0,1],
 fm 4 28 [2,0,1,2]] 503316480
 (.seq (fq [fn 5 1 []] 0
 (.block 2 (.loop (.seq (fq [fm 29 5 [],
 fm 30 4 [],
 fv 31 30 [1],
 fb 32 .lss 29 31 [0,2]] 3758096384
 (fo 32 2))
 (.seq (.block 3 (fq [fm 35 4 [],
 fm 36 5 [],
 fi 37 1 35 36 [0,1],
 fl 38 37 [2],
 fm 39 4 [],
 fm 40 5 [],
 fc 41 .sub 40 1 [5],
 fi 42 1 39 41 [4,6],
 fl 43 42 [7],
 fb 44 .neq 38 43 [3,8]] 17562121273344
 (.cond (.t 44)
 (fq [fm 45 0 [],
 fm 46 3 [],
 fm 47 4 [],
 fm 48 5 [],
 fi 49 1 47 48 [2,3],
 fl 50 49 [4],
 fi 51 1 45 46 (fa [0,1] 6),
 fj 1 51 50 (fa [6,5] 6)] 4486007441326080
 (fr [fm 52 3 [],
 fc 53 .add 52 1 [0],
 ⟨false,⟨(some 3),.mov (.t 53),[1,0,1],none⟩⟩] 13510798882111488))
 .skip)))
 (fr [fm 33 5 [],
 fc 34 .add 33 1 [0],
 ⟨false,⟨(some 5),.mov (.t 34),[1,0,1],none⟩⟩] 17617955848192))))))
 (fq [fm 54 0 [],
 fm 55 3 [],
 fz 56 (.slice (some 1) (.t 54) (some (.t 55)) none none) [0,1],
 ⟨false,⟨none,.clear 1 8 [fO] (.t 56),[2],none⟩⟩] 126100789566373936
 (fq [fm 57 0 [],
 fm 58 3 [],
 fz 59 (.slice (some 1) (.t 57) none (some (.t 58)) none) [0,1],
 fm 2 59 [2,0,1,2]] 1008806316530991113
 .ret))))
 .skip)))
 (fr [fm 14 3 [],
 fc 15 .add 14 1 [0],
 ⟨false,⟨(some 3),.mov (.t 15),[1,0,1],none⟩⟩] 33603588))))))
 (fq [fm 60 0 [],
 fm 2 60 [0,0]] 1152921504606846985
 .ret))))⟩
def f187:FFn:=⟨18,[.tmp 2],
 (fq [fz 2 (.mov (.c fN)) []] 4
 (fq [fz 3 (.mov (.c fN)) []] 0
 (.seq (fq [fm 6 0 [],
 fv 7 6 [0],
 fn 8 0 []] 1
 (.block 0 (.loop (fq [fb 9 .lss 8 7 []] 0
 (.seq (fo 9 0)
 (.seq (.block 1 (fq [fi 10 4 6 8 [],
 fw 11 4 10 [0],
 fz 5 (.alloc .dyn (.agg [fN,fO,fN,fN])) [],
 fj 4 5 11 [2,1,0,1,2]] 3584
 (fr [fm 12 3 [],
 ff 13 0 5 [],
 fl 14 13 [1],
 fg 15 84 [12,14] [0,2],
 ⟨false,⟨(some 3),.mov (.t 15),[3,3,0,1,2,3],none⟩⟩] 61472)))
 (fr [fc 16 .add 8 1 [],
 ⟨false,⟨(some 8),.mov (.t 16),[0],none⟩⟩] 65536)))))))
 (fq [fm 17 3 [],
 fm 2 17 [0,0]] 131528
 .ret))))⟩
def f188:FFn:=⟨17,[.tmp 4],
 (fq [fz 4 (.mov (.c .nilif)) []] 16
 (fq [fm 5 0 [],
 fg 6 200 [5] [0]] 96
 (fq [fm 7 0 [],
 fm 8 0 [],
 fz 9 (.nilchk (.t 8)) [1],
 ff 10 1 9 [2],
 fl 11 10 [3],
 fm 12 1 [],
 fz 13 (.bslice false .dyn 1 1 [(.int .u8 (.ofNat 0))] [(0,1,(.t 12))]) [5],
 fz 14 (.appendT 5 .dyn 1 1 (.t 11) (.t 13)) [4,6],
 fz 15 (.nilchk (.t 7)) (fa [0] 8),
 ff 16 1 15 (fa [8] 8),
 fj 1 16 14 (fa [9,7,7] 8)] 130947
 (fq [fz 4 (.mov (.c .nilif)) []] 0
 .ret))))⟩
def f189:FFn:=⟨14,[.tmp 4],
 (fq [fz 4 (.mov (.c (.bool false))) []] 16
 (fq [fm 8 0 [],
 fm 9 1 [],
 fg 10 144 [8,9] [0,1],
 fm 7 10 [2],
 fe 11 0 7 [3],
 fe 12 1 7 [3],
 fm 5 11 (fa [4,2] 5),
 fm 6 12 (fa [5,6] 7)] 8099
 (fq [fm 13 6 [],
 fm 4 13 [0,0]] 8256
 .ret)))⟩
def f190:FFn:=⟨9,[.tmp 2],
 (fq [fz 2 (.mov (.c (.bool false))) []] 4
 (fq [fm 3 0 [],
 fz 4 (.bin .lss (.t 3) (.c (.int .i64 (.negSucc 65535)))) [0],
 fm 5 4 [1],
 fx 6 (.mov (.t 0)) [2] 5 false,
 fx 7 (.bin .gtr (.t 6) (fk 65536)) [3,2] 5 false,
 fz 8 (.pick (.t 5) (.c (.bool true)) (.t 7)) [2,4],
 fm 2 8 (fa [5,2] 6)] 505
 .ret))⟩
def f192:FFn:=⟨35,[.tmp 4],
 (fq [fn 4 0 []] 16
 (.seq (fq [fm 7 0 [],
 fv 8 7 [0],
 fn 9 0 []] 0
 (.block 0 (.loop (fq [fb 10 .lss 9 8 []] 0
 (.seq (fo 10 0)
 (.seq (.block 1 (fq [fm 11 9 [],
 fi 12 1 7 9 [],
 fl 13 12 [1],
 fm 5 11 [0,0,1,2],
 fm 6 13 [2,3,0,1,2,3]] 15360
 (.block 2 (fq [fm 15 6 [],
 fc 16 .lss 15 0 [0],
 fm 17 16 [1],
 ⟨false,⟨(some 18),.mov (.t 6),[2],(some (17,false))⟩⟩,
 ⟨false,⟨(some 19),.mov (.t 1),[2],(some (17,false))⟩⟩,
 ⟨false,⟨(some 20),.bin .geq (.t 18) (.t 19),[3,4,2],(some (17,false))⟩⟩,
 fz 21 (.pick (.t 17) (.c (.bool true)) (.t 20)) [2,5],
 fm 14 21 [6,2]] 2326528
 (.cond (.t 14)
 (fq [fn 4 2 []] 8524678115
 .ret)
 (fq [fm 23 5 [],
 fc 24 .gtr 23 0 [0],
 fm 25 24 [1],
 ⟨false,⟨(some 26),.mov (.t 6),[2],(some (25,true))⟩⟩,
 ⟨false,⟨(some 27),.mov (.t 0),[2],(some (25,true))⟩⟩,
 ⟨false,⟨(some 28),.mov (.t 5),[2],(some (25,true))⟩⟩,
 ⟨false,⟨(some 29),.bin .sub (.t 28) (.c (.int .i64 (.ofNat 1))),[5,2],(some (25,true))⟩⟩,
 ⟨false,⟨(some 30),.iaddr none 1 (.t 27) (.t 29),[4,6,2],(some (25,true))⟩⟩,
 ⟨false,⟨(some 31),.load none (.t 30),[7,2],(some (25,true))⟩⟩,
 ⟨false,⟨(some 32),.bin .leq (.t 26) (.t 31),[3,8,2],(some (25,true))⟩⟩,
 fz 33 (.pick (.t 25) (.t 32) (.c (.bool false))) [2,9],
 fm 22 33 [10,2]] 8648671328
 (.cond (.t 22)
 (fq [fn 4 5 []] 8528855939
 .ret)
 .skip)))))))
 (fr [fc 34 .add 9 1 [],
 ⟨false,⟨(some 9),.mov (.t 34),[0],none⟩⟩] 17184063504)))))))
 (fq [fn 4 0 []] 8524661635
 .ret)))⟩
def f193:FFn:=⟨72,[.tmp 2],
 (fq [fz 1 (.box .dyn (.t 0)) [],
 fn 2 0 []] 5
 (.seq (fq [ff 6 3 1 [],
 fl 7 6 [0],
 fv 8 7 [1],
 fn 9 0 []] 64
 (.block 0 (.loop (fq [fb 10 .lss 9 8 []] 0
 (.seq (fo 10 0)
 (.seq (.block 1 (fq [fm 11 9 [],
 fi 12 3 7 9 [],
 fw 13 3 12 [1],
 fz 4 (.alloc .dyn (.agg [fO,fO,fO])) [],
 fm 3 11 [0,0,1,2,3],
 fj 3 4 13 (fa [3,2,4] 5)] 15360
 (.seq (.block 2 (fq [ff 15 0 4 [],
 fl 16 15 [0],
 fc 17 .lss 16 0 [1],
 fm 18 17 [2],
 ⟨false,⟨(some 19),.faddr 0 (.t 4),[3],(some (18,false))⟩⟩,
 ⟨false,⟨(some 20),.load none (.t 19),[4,3],(some (18,false))⟩⟩,
 ⟨false,⟨(some 21),.faddr 1 (.t 1),[3],(some (18,false))⟩⟩,
 ⟨false,⟨(some 22),.load none (.t 21),[6,3],(some (18,false))⟩⟩,
 ⟨false,⟨(some 23),.bin .geq (.t 20) (.t 22),[5,7,3],(some (18,false))⟩⟩,
 fz 24 (.pick (.t 18) (.c (.bool true)) (.t 23)) [3,8],
 fm 25 24 [9,3],
 ⟨false,⟨(some 26),.faddr 2 (.t 4),[10],(some (25,false))⟩⟩,
 ⟨false,⟨(some 27),.load none (.t 26),[11,10],(some (25,false))⟩⟩,
 ⟨false,⟨(some 28),.bin .lss (.t 27) (.c fO),[12,10],(some (25,false))⟩⟩,
 fz 29 (.pick (.t 25) (.c (.bool true)) (.t 28)) [10,13],
 fm 30 29 [14,10],
 ⟨false,⟨(some 31),.faddr 2 (.t 4),[15],(some (30,false))⟩⟩,
 ⟨false,⟨(some 32),.load none (.t 31),[16,15],(some (30,false))⟩⟩,
 ⟨false,⟨(some 33),.faddr 1 (.t 1),[15],(some (30,false))⟩⟩,
 ⟨false,⟨(some 34),.load none (.t 33),[18,15],(some (30,false))⟩⟩,
 ⟨false,⟨(some 35),.bin .geq (.t 32) (.t 34),[17,19,15],(some (30,false))⟩⟩,
 fz 36 (.pick (.t 30) (.c (.bool true)) (.t 35)) [15,20],
 fm 14 36 [21,15]] 70380912640
 (.cond (.t 14)
 (fq [fn 2 2 []] 1180303390408317617050
 .ret)
 (fq [ff 38 0 1 [],
 fl 39 38 [0],
 ff 40 1 4 [],
 fl 41 40 [2],
 fg 42 38 [39,41] [1,3],
 fu 43 42 [4],
 fm 37 43 [5,4]] 17317308153856
 (.cond (.t 37)
 (fq [fn 2 9 []] 1180303390545756554138
 .ret)
 .skip)))))
 (.seq (fq [fm 44 3 [],
 fc 45 .eql 44 0 [0]] 17729624997892
 (.cond (.t 45)
 (.exit 1)
 .skip))
 (fq [ff 46 3 1 [],
 fl 47 46 [0],
 fm 48 3 [],
 fc 49 .sub 48 1 [2],
 fi 50 3 47 49 [1,3],
 fw 51 3 50 [4],
 fz 5 (.alloc .dyn (.agg [fO,fO,fO])) [],
 fj 3 5 51 (fa [6,5] 7)] 4468415255281672
 (fq [ff 52 0 4 [],
 fl 53 52 [0],
 ff 54 0 5 [],
 fl 55 54 [2],
 fb 56 .lss 53 55 [1,3],
 fm 57 56 [4],
 ⟨false,⟨(some 58),.faddr 0 (.t 4),[5],(some (57,false))⟩⟩,
 ⟨false,⟨(some 59),.load none (.t 58),[6,5],(some (57,false))⟩⟩,
 ⟨false,⟨(some 60),.faddr 0 (.t 5),[5],(some (57,false))⟩⟩,
 ⟨false,⟨(some 61),.load none (.t 60),[8,5],(some (57,false))⟩⟩,
 ⟨false,⟨(some 62),.bin .eql (.t 59) (.t 61),[7,9,5],(some (57,false))⟩⟩,
 ⟨false,⟨(some 63),.mov (.t 62),[10,5,5],(some (57,false))⟩⟩,
 ⟨false,⟨(some 64),.faddr 1 (.t 4),[11],(some (63,true))⟩⟩,
 ⟨false,⟨(some 65),.load none (.t 64),[12,11],(some (63,true))⟩⟩,
 ⟨false,⟨(some 66),.faddr 1 (.t 5),[11],(some (63,true))⟩⟩,
 ⟨false,⟨(some 67),.load none (.t 66),[14,11],(some (63,true))⟩⟩,
 ⟨false,⟨(some 68),.bin .leq (.t 65) (.t 67),[13,15,11],(some (63,true))⟩⟩,
 ⟨false,⟨(some 69),.pick (.t 63) (.t 68) (.c (.bool false)),[11,16,5],(some (57,false))⟩⟩,
 fz 70 (.pick (.t 57) (.c (.bool true)) (.t 69)) [5,17]] 283726776524341296
 (.cond (.t 70)
 (fq [fn 2 5 []] 2360895011125728904066
 .ret)
 .skip)))))))
 (fr [fc 71 .add 9 1 [],
 ⟨false,⟨(some 9),.mov (.t 71),[0],none⟩⟩] 3541774862152233910276)))))))
 (fq [fn 2 0 []] 1180303390408317600642
 .ret)))⟩
def f195:FFn:=⟨19,[.tmp 4],
 (fq [fn 4 0 []] 16
 (.seq (fq [fm 6 0 [],
 fv 7 6 [0],
 fn 8 0 []] 64
 (.block 0 (.loop (fq [fb 9 .lss 8 7 []] 0
 (.seq (fo 9 0)
 (.seq (.block 1 (fq [fm 10 8 [],
 fm 5 10 [0,0]] 1536
 (fq [fm 11 1 [],
 fm 12 0 [],
 fm 13 5 [],
 fi 14 2 12 13 [1,2],
 fw 15 2 14 [3],
 fz 16 (.call .heap (.t 11) [(.t 15)]) [0,4]] 63488
 (.cond (.t 16)
 (fq [fm 17 5 [],
 fm 4 17 [0,0]] 197027
 .ret)
 .skip))))
 (fr [fc 18 .add 8 1 [],
 ⟨false,⟨(some 8),.mov (.t 18),[0],none⟩⟩] 327728)))))))
 (fq [fz 4 (.mov (.c (.int .i64 (.negSucc 0)))) []] 387
 .ret)))⟩
def f197:FFn:=⟨17,[.tmp 4],
 (fq [fz 4 (.mov (.c (.bool false))) []] 16
 (fq [fm 5 0 [],
 fg 6 227 [5] [0],
 fm 7 6 [1,1],
 fx 8 (.mov (.t 1)) [2] 7 true,
 fx 9 (.call .heap (.f 227) [(.t 8)]) [3,2,2] 7 true,
 fx 10 (.un .not (.t 9)) [4,2] 7 true,
 fz 11 (.pick (.t 7) (.t 10) (.c (.bool false))) [2,5],
 fm 12 11 [6,4],
 fx 13 (.mov (.t 0)) [7] 12 false,
 fx 14 (.mov (.t 1)) [7] 12 false,
 fx 15 (.bin .lss (.t 13) (.t 14)) [8,9,7] 12 false,
 fz 16 (.pick (.t 12) (.c (.bool true)) (.t 15)) [7,10],
 fm 4 16 (fa [11,7] 12)] 131043
 .ret))⟩
def f198:FFn:=⟨6,[.tmp 2],
 (fq [fz 2 (.mov (.c (.bool false))) []] 4
 (fq [fm 3 0 [],
 fm 4 0 [],
 fb 5 .neq 3 4 [0,1],
 fm 2 5 [2,0,1,2]] 57
 .ret))⟩
def f199:FFn:=⟨29,[.tmp 4],
 (fq [fz 2 (.box .dyn (.t 0)) [],
 fz 4 (.mov (.c fN)) []] 17
 (fq [ff 10 3 2 [],
 fl 11 10 [0],
 fm 12 1 [],
 fz 13 (.call .heap (.f 228) [(.t 11),(.t 12),(.f 229)]) [1,2],
 fm 9 13 [3],
 fe 14 0 9 [4],
 fe 15 1 9 [4],
 fm 5 14 (fa [5,3] 6),
 fm 6 15 (fa [6,7] 8)] 65088
 (fq [ff 17 3 2 [],
 fl 18 17 [0],
 fm 19 1 [],
 fc 20 .add 19 1 [2],
 fz 21 (.call .heap (.f 228) [(.t 18),(.t 20),(.f 230)]) [1,3],
 fm 16 21 [4],
 fe 22 0 16 [5],
 fe 23 1 16 [5],
 fm 7 22 (fa [6,4] 7),
 fm 8 23 (fa [7,8] 9)] 16711938
 (fq [ff 24 3 2 [],
 fl 25 24 [0],
 fm 26 5 [],
 fm 27 7 [],
 fz 28 (.slice (some 3) (.t 25) (some (.t 26)) (some (.t 27)) none) [1,2,3],
 fm 4 28 (fa [4] 5)] 520093860
 .ret))))⟩
def f200:FFn:=⟨20,[],
 (fq [fm 2 0 [],
 fz 3 (.nilchk (.t 2)) [0],
 ff 4 0 3 [1],
 fl 5 4 [2],
 fz 6 (.eq (.nil 1) false (.t 5) (.c .nilptr)) [3]] 60
 (.cond (.t 6)
 (fr [fm 7 0 [],
 fm 8 0 [],
 fz 9 (.convP 238 2 (.t 8)) [1],
 fz 10 (.ext 2 231 [(.t 9)]) [2],
 fz 11 (.convP 238 2 (.t 10)) [3],
 fz 12 (.nilchk (.t 7)) (fa [0] 5),
 ff 13 0 12 (fa [5] 5),
 fj 1 13 11 (fa [6,4,3] 5)] 16321)
 (fq [fm 14 0 [],
 fz 15 (.nilchk (.t 14)) [0],
 ff 16 0 15 [1],
 fl 17 16 [2],
 fm 18 0 [],
 fz 19 (.eqp true (.t 17) (.t 18)) [3,4]] 507969
 (.cond (.t 19)
 .bad
 .skip))))⟩
def f201:FFn:=⟨5,[.tmp 2],
 (fq [fz 2 (.mov (.c (.str []))) []] 4
 (fq [fm 3 0 [],
 fz 4 (.call .heap (.f 232) [(.t 3),(fk 10)]) [0],
 fm 2 4 [1,1,0,1]] 25
 .ret))⟩
def f202:FFn:=⟨32,[.tmp 4],
 (fq [fz 2 (.box .dyn (.t 0)) [],
 fn 4 0 []] 17
 (.seq (fq [fm 7 1 [],
 fv 8 7 [0],
 ff 9 0 2 [],
 fl 10 9 [2],
 fv 11 10 [3],
 fb 12 .neq 8 11 [1,4]] 3968
 (.cond (.t 12)
 (fq [fn 4 4 []] 4102
 .ret)
 .skip))
 (.seq (fq [fm 13 1 [],
 fv 14 13 [0],
 fn 15 0 []] 4114
 (.block 0 (.loop (fq [fb 16 .lss 15 14 []] 0
 (.seq (fo 16 0)
 (.seq (.block 1 (fq [fm 17 15 [],
 fi 18 1 13 15 [],
 fl 19 18 [1],
 fm 5 17 [0,0,1,2],
 fm 6 19 [2,3,0,1,2,3]] 983040
 (fq [fm 20 6 [],
 fc 21 .lss 20 0 [0],
 fm 22 21 [1],
 ⟨false,⟨(some 23),.mov (.t 6),[2],(some (22,false))⟩⟩,
 ⟨false,⟨(some 24),.faddr 0 (.t 2),[2],(some (22,false))⟩⟩,
 ⟨false,⟨(some 25),.load none (.t 24),[4,2],(some (22,false))⟩⟩,
 ⟨false,⟨(some 26),.mov (.t 5),[2],(some (22,false))⟩⟩,
 ⟨false,⟨(some 27),.iaddr none 1 (.t 25) (.t 26),[5,6,2],(some (22,false))⟩⟩,
 ⟨false,⟨(some 28),.load none (.t 27),[7,2],(some (22,false))⟩⟩,
 ⟨false,⟨(some 29),.bin .geq (.t 23) (.t 28),[3,8,2],(some (22,false))⟩⟩,
 fz 30 (.pick (.t 22) (.c (.bool true)) (.t 29)) [2,9]] 7340128
 (.cond (.t 30)
 (fq [fn 4 2 []] 2139152388
 .ret)
 .skip))))
 (fr [fc 31 .add 15 1 [],
 ⟨false,⟨(some 15),.mov (.t 31),[0],none⟩⟩] 3221225488)))))))
 (fq [fn 4 0 []] 1065410564
 .ret))))⟩
def f203:FFn:=⟨19,[.tmp 4],
 (fq [fn 4 0 []] 16
 (.seq (fq [fm 6 0 [],
 fv 7 6 [0],
 fn 8 0 []] 64
 (.block 0 (.loop (fq [fb 9 .lss 8 7 []] 0
 (.seq (fo 9 0)
 (.seq (.block 1 (fq [fm 10 8 [],
 fm 5 10 [0,0]] 1536
 (fq [fm 11 1 [],
 fm 12 0 [],
 fm 13 5 [],
 fi 14 1 12 13 [1,2],
 fl 15 14 [3],
 fz 16 (.call .heap (.t 11) [(.t 15)]) [0,4]] 63488
 (.cond (.t 16)
 (fq [fm 17 5 [],
 fm 4 17 [0,0]] 197027
 .ret)
 .skip))))
 (fr [fc 18 .add 8 1 [],
 ⟨false,⟨(some 8),.mov (.t 18),[0],none⟩⟩] 327728)))))))
 (fq [fz 4 (.mov (.c (.int .i64 (.negSucc 0)))) []] 387
 .ret)))⟩
def f204:FFn:=⟨7,[.tmp 3],
 (fq [fz 3 (.mov (.c (.bool false))) []] 8
 (fq [fm 4 0 [],
 fl 5 1 [],
 fz 6 (.call .heap (.t 4) [(.t 5)]) [0,1],
 fm 3 6 [2,2,0,1,2]] 115
 .ret))⟩
def f205:FFn:=⟨4,[.tmp 2],
 (fq [fz 1 (.box .dyn (.t 0)) [],
 fz 2 (.mov (.c .nilfn)) []] 5
 (fq [fz 3 (.mkfn 233 [] [(.t 1)]) [],
 fm 2 3 [0,0]] 10
 .ret))⟩
def f206:FFn:=⟨4,[.tmp 2],
 (fq [fz 1 (.box .dyn (.t 0)) [],
 fz 2 (.mov (.c .nilfn)) []] 5
 (fq [fz 3 (.mkfn 235 [] [(.t 1)]) [],
 fm 2 3 [0,0]] 10
 .ret))⟩
def f207:FFn:=⟨19,[.tmp 4],
 (fq [fz 2 (.box .dyn (.t 0)) [],
 fn 4 0 []] 17
 (.seq (fq [fw 6 4 2 [],
 fg 7 112 [6] [0],
 fm 5 7 [1,1,0,1]] 192
 (fq [fm 8 5 [],
 fc 9 .neq 8 0 [0]] 256
 (.cond (.t 9)
 (fq [fm 10 5 [],
 fm 4 10 [0,0]] 1574
 .ret)
 .skip)))
 (.seq (fq [fm 11 1 [],
 fc 12 .lss 11 0 [0],
 fm 13 12 [1],
 fx 14 (.mov (.t 1)) [2] 13 false,
 fx 15 (.faddr 1 (.t 2)) [2] 13 false,
 fx 16 (.load none (.t 15)) [4,2] 13 false,
 fx 17 (.bin .geq (.t 14) (.t 16)) [3,5,2] 13 false,
 fz 18 (.pick (.t 13) (.c (.bool true)) (.t 17)) [2,6]] 260662
 (.cond (.t 18)
 (fq [fn 4 2 []] 262144
 .ret)
 .skip))
 (fq [⟨false,⟨(some 4),.mov (.c fO),[],none⟩⟩] 262144
 .ret))))⟩
def f208:FFn:=⟨28,[.tmp 6,.tmp 7,.tmp 8],
 (fq [fz 3 (.box .dyn (.t 0)) [],
 fn 6 0 [],
 fz 7 (.mov (.c (.bool false))) [1],
 fn 8 0 [2]] 449
 (.seq (fq [fw 10 4 3 [],
 fm 11 1 [],
 fg 12 207 [10,11] [0,1],
 fm 8 12 [2,2,0,1,2]] 7168
 (fq [fm 13 8 [],
 fc 14 .neq 13 0 [0]] 8192
 (.cond (.t 14)
 (fq [fm 15 8 [],
 fn 6 0 [],
 fz 7 (.mov (.c (.bool false))) [1,1],
 ⟨false,⟨(some 8),.mov (.t 15),[0,2,0,1,2],none⟩⟩] 49166
 .ret)
 .skip)))
 (.seq (fq [ff 16 0 3 [],
 fl 17 16 [0],
 fm 18 2 [],
 fg 19 38 [17,18] [1,2],
 fu 20 19 [3]] 999872
 (.cond (.t 20)
 (fq [fn 6 0 [],
 fz 7 (.mov (.c (.bool false))) [0,0],
 fn 8 9 [1,0,1]] 1048590
 .ret)
 .skip))
 (.seq (fq [fw 21 4 3 [],
 fm 22 1 [],
 fm 23 2 [],
 fg 24 226 [21,22,23] [0,1,2],
 fm 9 24 [3,3,0,1,2,3]] 32506318
 (fq [fm 25 9 [],
 fc 26 .geq 25 0 [0]] 33554432
 (.cond (.t 26)
 (fq [fm 27 9 [],
 fm 6 27 [0,0],
 fz 7 (.mov (.c (.bool true))) [1,0,1],
 fn 8 0 [2,0,1,2]] 201327104
 .ret)
 .skip)))
 (fq [⟨false,⟨(some 6),.mov (.c fO),[],none⟩⟩,
 ⟨false,⟨(some 7),.mov (.c (.bool false)),[0,0],none⟩⟩,
 ⟨false,⟨(some 8),.mov (.c fO),[1,0,1],none⟩⟩] 67109376
 .ret)))))⟩
def f209:FFn:=⟨53,[],
 (fq [fm 10 1 [],
 fc 11 .add 10 1 [0],
 fm 8 11 [1,0,1]] 3072
 (.block 0 (.loop (.seq (fq [fm 12 8 [],
 fm 13 2 [],
 fb 14 .lss 12 13 [0,1]] 12288
 (fo 14 0))
 (.seq (.block 1 (fq [fm 17 8 [],
 fm 9 17 [0,0]] 147456
 (.block 2 (.loop (.seq (fq [fm 18 9 [],
 fm 19 1 [],
 fb 20 .gtr 18 19 [0,1],
 fm 21 20 [2],
 ⟨false,⟨(some 22),.mov (.t 3),[3],(some (21,true))⟩⟩,
 ⟨false,⟨(some 23),.mov (.t 0),[3],(some (21,true))⟩⟩,
 ⟨false,⟨(some 24),.mov (.t 9),[3],(some (21,true))⟩⟩,
 ⟨false,⟨(some 25),.iaddr none 3 (.t 23) (.t 24),[5,6,3],(some (21,true))⟩⟩,
 ⟨false,⟨(some 26),.load (some 3) (.t 25),[7,3],(some (21,true))⟩⟩,
 ⟨false,⟨(some 27),.mov (.t 0),[3],(some (21,true))⟩⟩,
 ⟨false,⟨(some 28),.mov (.t 9),[3],(some (21,true))⟩⟩,
 ⟨false,⟨(some 29),.bin .sub (.t 28) (.c (.int .i64 (.ofNat 1))),[10,3],(some (21,true))⟩⟩,
 ⟨false,⟨(some 30),.iaddr none 3 (.t 27) (.t 29),[9,11,3],(some (21,true))⟩⟩,
 ⟨false,⟨(some 31),.load (some 3) (.t 30),[12,3],(some (21,true))⟩⟩,
 ⟨false,⟨(some 32),.call .heap (.t 22) [(.t 26),(.t 31)],[4,8,13,3,3],(some (21,true))⟩⟩,
 ⟨false,⟨(some 33),.bin .lss (.t 32) (.c fO),[14,3],(some (21,true))⟩⟩,
 fz 34 (.pick (.t 21) (.t 33) (.c (.bool false))) [3,15]] 3932160
 (fo 34 2))
 (.seq (.block 3 (fr [fm 37 0 [],
 fm 38 9 [],
 fm 39 0 [],
 fm 40 9 [],
 fc 41 .sub 40 1 [3],
 fm 42 0 [],
 fm 43 9 [],
 fc 44 .sub 43 1 [6],
 fi 45 3 42 44 [5,7],
 fw 46 3 45 [8],
 fm 47 0 [],
 fm 48 9 [],
 fi 49 3 47 48 [10,11],
 fw 50 3 49 [12],
 fi 51 3 37 38 [0,1,0,1,5,6,7,8,9,13],
 fj 3 51 46 [14,9,0,1,5,6,7,8,9,13],
 fi 52 3 39 41 (fa [2,4] 16),
 fj 3 52 50 (fa [16,13,15] 16)] 9007078995656704))
 (fr [fm 35 9 [],
 fc 36 .sub 35 1 [0],
 ⟨false,⟨(some 9),.mov (.t 36),[1,0,1],none⟩⟩] 103079215104)))))))
 (fr [fm 15 8 [],
 fc 16 .add 15 1 [0],
 ⟨false,⟨(some 8),.mov (.t 16),[1,0,1],none⟩⟩] 98816))))))⟩
def f218:FFn:=⟨25,[.tmp 2],
 (fq [fn 2 0 []] 0
 (.seq (fq [fm 3 0 [],
 fz 4 (.bin .geq (.t 3) (.c (.int .u64 (.ofNat 4294967296)))) [0]] 8
 (.cond (.t 4)
 (fq [fm 5 0 [],
 fz 6 (.bin .shr (.t 5) (.c (.int .u64 (.ofNat 32)))) [0],
 ⟨false,⟨(some 0),.mov (.t 6),[1,0,1],none⟩⟩] 116
 (fr [fn 2 32 []] 0))
 .skip))
 (.seq (fq [fm 7 0 [],
 fz 8 (.bin .geq (.t 7) (.c (.int .u64 (.ofNat 65536)))) [0]] 144
 (.cond (.t 8)
 (fq [fm 9 0 [],
 fz 10 (.bin .shr (.t 9) (.c (.int .u64 (.ofNat 16)))) [0],
 ⟨false,⟨(some 0),.mov (.t 10),[1,0,1],none⟩⟩] 1792
 (fr [fm 11 2 [],
 fc 12 .add 11 16 [0],
 ⟨false,⟨(some 2),.mov (.t 12),[1,0,1],none⟩⟩] 6144))
 .skip))
 (.seq (fq [fm 13 0 [],
 fz 14 (.bin .geq (.t 13) (.c (.int .u64 (.ofNat 256)))) [0]] 8448
 (.cond (.t 14)
 (fq [fm 15 0 [],
 fz 16 (.bin .shr (.t 15) (.c (.int .u64 (.ofNat 8)))) [0],
 ⟨false,⟨(some 0),.mov (.t 16),[1,0,1],none⟩⟩] 114688
 (fr [fm 17 2 [],
 fc 18 .add 17 8 [0],
 ⟨false,⟨(some 2),.mov (.t 18),[1,0,1],none⟩⟩] 393216))
 .skip))
 (fq [fm 19 2 [],
 fm 20 0 [],
 fz 21 (.conv .u8 (.t 20)) [1],
 fz 22 (.index none (.c (.str [0,1,2,2,3,3,3,3,4,4,4,4,4,4,4,4,5,5,5,5,5,5,5,5,5,5,5,5,5,5,5,5,6,6,6,6,6,6,6,6,6,6,6,6,6,6,6,6,6,6,6,6,6,6,6,6,6,6,6,6,6,6,6,6,7,7,7,7,7,7,7,7,7,7,7,7,7,7,7,7,7,7,7,7,7,7,7,7,7,7,7,7,7,7,7,7,7,7,7,7,7,7,7,7,7,7,7,7,7,7,7,7,7,7,7,7,7,7,7,7,7,7,7,7,7,7,7,7,8,8,8,8,8,8,8,8,8,8,8,8,8,8,8,8,8,8,8,8,8,8,8,8,8,8,8,8,8,8,8,8,8,8,8,8,8,8,8,8,8,8,8,8,8,8,8,8,8,8,8,8,8,8,8,8,8,8,8,8,8,8,8,8,8,8,8,8,8,8,8,8,8,8,8,8,8,8,8,8,8,8,8,8,8,8,8,8,8,8,8,8,8,8,8,8,8,8,8,8,8,8,8,8,8,8,8,8,8,8,8,8,8,8,8,8,8,8,8,8,8,8,8,8,8,8,8,8])) (.t 21)) [2],
 fz 23 (.conv .i64 (.t 22)) [3],
 fb 24 .add 19 23 [0,4],
 ⟨false,⟨(some 2),.mov (.t 24),[5,0,1,2,3,4,5],none⟩⟩] 33046529
 .ret)))))⟩
def f219:FFn:=⟨8,[.tmp 4],
 (fq [fz 4 (.mov (.c fN)) []] 16
 (fq [fm 5 0 [],
 fm 6 1 [],
 fz 7 (.call .heap (.f 168) [(.t 5),(.t 6),(.f 242)]) [0,1],
 fm 4 7 [2,2,0,1,2]] 227
 .ret))⟩
def f223:FFn:=⟨134,[],
 (fq [fz 8 (.mov (.c (.bool true))) []] 0
 (fq [fz 9 (.mov (.c (.bool true))) []] 0
 (.block 0 (.loop (.block 1 (fq [fm 19 2 [],
 fm 20 1 [],
 fb 21 .sub 19 20 [0,1],
 fm 10 21 [2,0,1,2]] 3670016
 (.seq (fq [fm 22 10 [],
 fc 23 .leq 22 12 [0]] 4194304
 (.cond (.t 23)
 (fq [fm 24 0 [],
 fm 25 1 [],
 fm 26 2 [],
 fg 27 251 [24,25,26] [0,1,2]] 154667177631247541668415247
 .ret)
 .skip))
 (.seq (fq [fm 28 3 [],
 fc 29 .eql 28 0 [0]] 276824064
 (.cond (.t 29)
 (fq [fm 30 0 [],
 fm 31 1 [],
 fm 32 2 [],
 fg 33 252 [30,31,32] [0,1,2]] 154667177631247558051366671
 .ret)
 .skip))
 (.seq (fq [fm 34 8 [],
 fu 35 34 [0]] 17716740096
 (.cond (.t 35)
 (fq [fm 36 0 [],
 fm 37 1 [],
 fm 38 2 [],
 fg 39 253 [36,37,38] [0,1,2]] 1065151889408
 (fr [fm 40 3 [],
 fc 41 .sub 40 1 [0],
 ⟨false,⟨(some 3),.mov (.t 41),[1,0,1],none⟩⟩] 3298534883328))
 .skip))
 (fq [fm 43 0 [],
 fm 44 1 [],
 fm 45 2 [],
 fg 46 254 [43,44,45] [0,1,2],
 fm 42 46 [3],
 fe 47 0 42 [4],
 fe 48 1 42 [4],
 fm 11 47 (fa [5,3] 6),
 fm 12 48 (fa [6,7] 8)] 558586266648576
 (.seq (fq [fm 49 12 [],
 fc 50 .eql 49 2 [0]] 562949953421312
 (.cond (.t 50)
 (fq [fm 51 0 [],
 fm 52 1 [],
 fm 53 2 [],
 fg 54 255 [51,52,53] [0,1,2]] 34902897112125440
 (fq [fm 55 2 [],
 fc 56 .sub 55 1 [0],
 fm 57 11 [],
 fm 58 1 [],
 fb 59 .sub 57 58 [2,3],
 fb 60 .sub 56 59 [1,4],
 ⟨false,⟨(some 11),.mov (.t 60),[5,0,1,2,3,4,5],none⟩⟩] 2269814212194729984
 (fr [fn 12 1 []] 0)))
 .skip))
 (.seq (fq [fm 61 8 [],
 fm 62 61 [0],
 ⟨false,⟨(some 63),.mov (.t 9),[1],(some (62,true))⟩⟩,
 fz 64 (.pick (.t 62) (.t 63) (.c (.bool false))) [1,2],
 fm 65 64 [3,1],
 ⟨false,⟨(some 66),.mov (.t 12),[4],(some (65,true))⟩⟩,
 ⟨false,⟨(some 67),.bin .eql (.t 66) (.c (.int .i64 (.ofNat 1))),[5,4],(some (65,true))⟩⟩,
 fz 68 (.pick (.t 65) (.t 67) (.c (.bool false))) [4,6]] 62258887148676583424
 (.cond (.t 68)
 (fq [fm 69 0 [],
 fm 70 1 [],
 fm 71 2 [],
 fg 72 256 [69,70,71] [0,1,2]] 4427218577690292387840
 (.cond (.t 72)
 .ret
 .skip))
 .skip))
 (.seq (fq [fm 73 1 [],
 fc 74 .gtr 73 0 [0],
 fm 75 74 [1],
 ⟨false,⟨(some 76),.mov (.t 0),[2],(some (75,true))⟩⟩,
 ⟨false,⟨(some 77),.mov (.t 1),[2],(some (75,true))⟩⟩,
 ⟨false,⟨(some 78),.bin .sub (.t 77) (.c (.int .i64 (.ofNat 1))),[4,2],(some (75,true))⟩⟩,
 ⟨false,⟨(some 79),.iaddr none 1 (.t 76) (.t 78),[3,5,2],(some (75,true))⟩⟩,
 ⟨false,⟨(some 80),.load none (.t 79),[6,2],(some (75,true))⟩⟩,
 ⟨false,⟨(some 81),.mov (.t 0),[2],(some (75,true))⟩⟩,
 ⟨false,⟨(some 82),.mov (.t 11),[2],(some (75,true))⟩⟩,
 ⟨false,⟨(some 83),.iaddr none 1 (.t 81) (.t 82),[8,9,2],(some (75,true))⟩⟩,
 ⟨false,⟨(some 84),.load none (.t 83),[10,2],(some (75,true))⟩⟩,
 ⟨false,⟨(some 85),.call .heap (.f 197) [(.t 80),(.t 84)],[7,11,2,2],(some (75,true))⟩⟩,
 ⟨false,⟨(some 86),.un .not (.t 85),[12,2],(some (75,true))⟩⟩,
 fz 87 (.pick (.t 75) (.t 86) (.c (.bool false))) [2,13]] 71130645148224031031296
 (.cond (.t 87)
 (fq [fm 88 0 [],
 fm 89 1 [],
 fm 90 2 [],
 fm 91 11 [],
 fg 92 257 [88,89,90,91] [0,1,2,3],
 fm 13 92 (fa [4,4] 5)] 9748777809372369664830606338
 (fq [fm 93 13 [],
 fm 1 93 [0,0]] 9903520314283042199193001984
 (.exit 1)))
 .skip))
 (fq [fm 95 0 [],
 fm 96 1 [],
 fm 97 2 [],
 fm 98 11 [],
 fg 99 258 [95,96,97,98] [0,1,2,3],
 fm 94 99 [4],
 fe 100 0 94 [5],
 fe 101 1 94 [5],
 fm 14 100 (fa [6,4] 7),
 fm 15 101 (fa [7,8] 9)] 5050950102789262194122789227264
 (fq [fm 102 15 [],
 fm 9 102 [0,0]] 5070602400912917605986812854272
 (fq [fm 103 14 [],
 fm 104 1 [],
 fb 105 .sub 103 104 [0,1],
 fm 106 2 [],
 fm 107 14 [],
 fb 108 .sub 106 107 [3,4],
 fm 16 105 [2,0,1,2],
 fm 17 108 (fa [5,6] 7)] 638895902515027618354338415509504
 (fq [fm 109 10 [],
 fc 110 .quo 109 8 [0],
 fm 18 110 [1,0,1]] 1947111321950560360698936123458560
 (fq [fm 111 16 [],
 fm 112 17 [],
 fb 113 .lss 111 112 [0,1]] 7788445287802241442795744493830144
 (.cond (.t 113)
 (fq [fm 114 16 [],
 fm 115 18 [],
 fb 116 .geq 114 115 [0,1],
 fm 8 116 [2,0,1,2]] 155768905756044828855914889877061632
 (fq [fm 117 0 [],
 fm 118 1 [],
 fm 119 14 [],
 fm 120 3 [],
 fg 121 223 [117,118,119,120] [0,1,2,3]] 5150758483666549007502252358586335234
 (fr [fm 122 14 [],
 fc 123 .add 122 1 [0],
 fm 1 123 [1,0,1]] 15950735949418990474845684723364151296)))
 (fq [fm 124 17 [],
 fm 125 18 [],
 fb 126 .geq 124 125 [0,1],
 fm 8 126 [2,0,1,2]] 148883920121627647420483451744057491456
 (fq [fm 127 0 [],
 fm 128 14 [],
 fc 129 .add 128 1 [1],
 fm 130 2 [],
 fm 131 3 [],
 fg 132 223 [127,129,130,131] [0,2,3,4]] 10718894558009561599096300134100698660868
 (fr [fm 133 14 [],
 fm 2 133 [0,0]] 10889035741470030830827987437816582782976))))))))))))))))))))))⟩
def f226:FFn:=⟨22,[.tmp 6],
 (fq [fz 3 (.box .dyn (.t 0)) [],
 fz 5 (.box .dyn (.t 2)) [],
 fn 6 0 []] 69
 (fq [fw 9 4 3 [],
 fm 10 1 [],
 fg 11 199 [9,10] [0,1],
 fm 7 11 [2,2,0,1,2]] 3594
 (fq [fm 12 7 [],
 fz 13 (.mkfn 262 [] [(.t 5)]) [],
 fg 14 48 [12,13] [0,1],
 fm 8 14 [2,2,0,1,2]] 28704
 (.seq (fq [fm 15 8 [],
 fc 16 .lss 15 0 [0]] 32768
 (.cond (.t 16)
 (fq [fz 6 (.mov (.c (.int .i64 (.negSucc 0)))) []] 65920
 .ret)
 .skip))
 (fq [fm 17 7 [],
 fm 18 8 [],
 fi 19 3 17 18 [0,1],
 ff 20 2 19 [2],
 fl 21 20 [3],
 ⟨false,⟨(some 6),.mov (.t 21),[4,0,1,2,3,4],none⟩⟩] 4129152
 .ret)))))⟩
def f227:FFn:=⟨6,[.tmp 2],
 (fq [fz 2 (.mov (.c (.bool false))) []] 4
 (fq [fm 3 0 [],
 fm 4 0 [],
 fb 5 .neq 3 4 [0,1],
 fm 2 5 [2,0,1,2]] 57
 .ret))⟩
def f228:FFn:=⟨49,[.tmp 6,.tmp 7],
 (fq [fn 6 0 [],
 fz 7 (.mov (.c (.bool false))) [0]] 192
 (fq [fm 12 0 [],
 fv 13 12 [0],
 fm 8 13 [1,0,1]] 12288
 (fq [fm 14 8 [],
 fn 9 0 [],
 fm 10 14 [0,1,0,1]] 16384
 (.seq (.block 0 (.loop (.seq (fq [fm 15 9 [],
 fm 16 10 [],
 fb 17 .lss 15 16 [0,1]] 98304
 (fo 17 0))
 (.block 1 (fq [fm 18 9 [],
 fm 19 10 [],
 fb 20 .add 18 19 [0,1],
 fz 21 (.conv .u64 (.t 20)) [2],
 fz 22 (.bin .shr (.t 21) (.c (.int .u64 (.ofNat 1)))) [3],
 fz 23 (.conv .i64 (.t 22)) [4],
 fm 11 23 (fa [5] 6)] 16646144
 (fq [fm 24 2 [],
 fm 25 0 [],
 fm 26 11 [],
 fi 27 3 25 26 [1,2],
 fw 28 3 27 [3],
 fm 29 1 [],
 fz 30 (.call .heap (.t 24) [(.t 28),(.t 29)]) [0,4,5],
 fc 31 .lss 30 0 [6]] 2130706432
 (.cond (.t 31)
 (fr [fm 32 11 [],
 fc 33 .add 32 1 [0],
 ⟨false,⟨(some 9),.mov (.t 33),[1,0,1],none⟩⟩] 15032387584)
 (fr [fm 34 11 [],
 ⟨false,⟨(some 10),.mov (.t 34),[0,0],none⟩⟩] 19327354880))))))))
 (fq [fm 35 9 [],
 fm 36 9 [],
 fm 37 8 [],
 fb 38 .lss 36 37 [1,2],
 fm 39 38 [3],
 ⟨false,⟨(some 40),.mov (.t 2),[4],(some (39,true))⟩⟩,
 ⟨false,⟨(some 41),.mov (.t 0),[4],(some (39,true))⟩⟩,
 ⟨false,⟨(some 42),.mov (.t 9),[4],(some (39,true))⟩⟩,
 ⟨false,⟨(some 43),.iaddr none 3 (.t 41) (.t 42),[6,7,4],(some (39,true))⟩⟩,
 ⟨false,⟨(some 44),.load (some 3) (.t 43),[8,4],(some (39,true))⟩⟩,
 ⟨false,⟨(some 45),.mov (.t 1),[4],(some (39,true))⟩⟩,
 ⟨false,⟨(some 46),.call .heap (.t 40) [(.t 44),(.t 45)],[5,9,10,4,4],(some (39,true))⟩⟩,
 ⟨false,⟨(some 47),.bin .eql (.t 46) (.c fO),[11,4],(some (39,true))⟩⟩,
 fz 48 (.pick (.t 39) (.t 47) (.c (.bool false))) [4,12],
 fm 6 35 [0,11,0],
 fm 7 48 (fa [13,14] 15)] 562915593684743
 .ret)))))⟩
def f229:FFn:=⟨9,[.tmp 4],
 (fq [fz 2 (.box .dyn (.t 0)) [],
 fn 4 0 []] 17
 (fq [ff 5 0 2 [],
 fl 6 5 [0],
 fm 7 1 [],
 fb 8 .sub 6 7 [1,2],
 fm 4 8 [3,0,1,2,3]] 486
 .ret))⟩
def f230:FFn:=⟨9,[.tmp 4],
 (fq [fz 2 (.box .dyn (.t 0)) [],
 fn 4 0 []] 17
 (fq [ff 5 0 2 [],
 fl 6 5 [0],
 fm 7 1 [],
 fb 8 .sub 6 7 [1,2],
 fm 4 8 [3,0,1,2,3]] 486
 .ret))⟩
def f232:FFn:=⟨54,[.tmp 4],
 (fq [fz 4 (.mov (.c (.str []))) []] 16
 (.seq (fq [fm 10 1 [],
 fc 11 .eql 10 10 [0]] 1024
 (.cond (.t 11)
 (.seq (fq [fm 12 0 [],
 fz 13 (.bin .leq (fk 0) (.t 12)) [0],
 fm 14 13 [1],
 fx 15 (.mov (.t 0)) [2] 14 true,
 fx 16 (.bin .lss (.t 15) (fk 100)) [3,2] 14 true,
 fz 17 (.pick (.t 14) (.t 16) (.c (.bool false))) [2,4]] 129026
 (.cond (.t 17)
 (fq [fm 18 0 [],
 fg 19 263 [18] [0],
 fm 4 19 [1,1,0,1]] 917505
 .ret)
 .skip))
 (fq [fz 5 (.alloc .dyn (.agg [(.int .u8 (.ofNat 0)),(.int .u8 (.ofNat 0)),(.int .u8 (.ofNat 0)),(.int .u8 (.ofNat 0)),(.int .u8 (.ofNat 0)),(.int .u8 (.ofNat 0)),(.int .u8 (.ofNat 0)),(.int .u8 (.ofNat 0)),(.int .u8 (.ofNat 0)),(.int .u8 (.ofNat 0)),(.int .u8 (.ofNat 0)),(.int .u8 (.ofNat 0)),(.int .u8 (.ofNat 0)),(.int .u8 (.ofNat 0)),(.int .u8 (.ofNat 0)),(.int .u8 (.ofNat 0)),(.int .u8 (.ofNat 0)),(.int .u8 (.ofNat 0)),(.int .u8 (.ofNat 0)),(.int .u8 (.ofNat 0)),(.int .u8 (.ofNat 0)),(.int .u8 (.ofNat 0)),(.int .u8 (.ofNat 0)),(.int .u8 (.ofNat 0))])) []] 131088
 (fq [fm 20 0 [],
 fz 21 (.conv .u64 (.t 20)) [0],
 fm 6 21 [1,0,1]] 3145728
 (.seq (fq [fm 22 0 [],
 fc 23 .lss 22 0 [0]] 4194304
 (.cond (.t 23)
 (fr [fm 24 6 [],
 fz 25 (.un .neg (.t 24)) [0],
 ⟨false,⟨(some 6),.mov (.t 25),[1,0,1],none⟩⟩] 58720256)
 .skip))
 (fq [fm 26 6 [],
 fg 27 264 [26] [0],
 fm 7 27 [1,1,0,1]] 209715200
 (fq [fm 28 7 [],
 fz 29 (.bin .add (fk 1) (.t 28)) [0],
 fz 30 .bad [1],
 fm 31 6 [],
 fg 32 265 [30,31] [2,3]] 8321499200
 (.seq (fq [fm 33 0 [],
 fc 34 .lss 33 0 [0]] 8589934593
 (.cond (.t 34)
 (fq [fz 35 (.iaddr (some 24) 1 (.t 5) (fk 0)) [],
 ⟨false,⟨none,.store 1 (.t 35) (.c (.int .u8 (.ofNat 45))),[0],none⟩⟩] 51539607584
 (fq [fm 36 7 [],
 fz 37 (.bin .add (fk 1) (.t 36)) [0],
 fz 38 .bad [1],
 fz 39 (.convB (.t 38)) [2],
 fm 4 39 [3,0,1,2,3]] 1030792151168
 .ret))
 .skip))
 (fq [fm 40 7 [],
 fz 41 (.bin .add (fk 1) (.t 40)) [0],
 fz 42 .bad [1],
 fz 43 (.convB (.t 42)) [2],
 ⟨false,⟨(some 4),.mov (.t 43),[3,0,1,2,3],none⟩⟩] 16509854285984
 .ret))))))))
 .skip))
 (fq [fm 45 0 [],
 fz 46 (.conv .u64 (.t 45)) [0],
 fm 47 1 [],
 fm 48 0 [],
 fc 49 .lss 48 0 [3],
 fz 50 (.call .heap (.f 266) [(.c fN),(.t 46),(.t 47),(.t 49),(.c (.bool false))]) [1,2,4],
 fm 44 50 [5],
 fe 51 0 44 [6],
 fe 52 1 44 [6],
 fm 8 51 (fa [7,5] 8),
 fm 9 52 (fa [8,9] 10)] 8989607068698899
 (fq [fm 53 9 [],
 fm 4 53 [0,0]] 9007199254741504
 .ret))))⟩
def f233:FFn:=⟨9,[.tmp 3],
 (fq [fz 2 (.box .dyn (.t 0)) [],
 fz 3 (.mov (.c (.bool false))) []] 9
 (fq [ff 4 1 1 [],
 fl 5 4 [0],
 fz 6 (.mkfn 234 [] [(.t 2)]) [],
 fg 7 115 [5,6] [1,2],
 fu 8 7 [3],
 fm 3 8 (fa [4,3] 5)] 502
 .ret))⟩
def f234:FFn:=⟨12,[.tmp 3],
 (fq [fz 2 (.box .dyn (.t 0)) [],
 fz 3 (.mov (.c (.bool false))) []] 9
 (fq [fl 4 1 [],
 ff 5 0 2 [],
 fl 6 5 [1],
 fi 7 1 4 6 [0,2],
 fl 8 7 [3],
 ff 9 1 2 [],
 fl 10 9 [5],
 fb 11 .neq 8 10 [4,6],
 fm 3 11 (fa [7] 8)] 4086
 .ret))⟩
def f235:FFn:=⟨10,[.tmp 3],
 (fq [fz 3 (.mov (.c (.bool false))) []] 8
 (.seq (.region [fw 4 3 1 [],
 fm 5 0 [],
 fg 6 236 [4,5] [0,1],
 ff 7 2 1 [],
 fl 8 7 [3],
 fb 9 .gtr 6 8 [2,4],
 fm 3 9 (fa [5,2] 6)] [(2,4)] 1011)
 .ret))⟩
def f236:FFn:=⟨27,[.tmp 4],
 (fq [fz 2 (.box .dyn (.t 0)) [],
 fn 4 0 []] 17
 (fq [fn 5 0 []] 0
 (.seq (fq [ff 8 1 2 [],
 fl 9 8 [0],
 fv 10 9 [1],
 fn 11 0 []] 260
 (.block 0 (.loop (fq [fb 12 .lss 11 10 []] 0
 (.seq (fo 12 0)
 (.seq (.block 1 (fq [fi 13 2 9 11 [],
 fw 14 2 13 [0],
 fz 7 (.alloc .dyn (.agg [fO,fO])) [],
 fj 2 7 14 [2,1,0,1,2]] 28672
 (fr [fm 15 5 [],
 ff 16 1 7 [],
 fl 17 16 [1],
 fm 18 1 [],
 ff 19 0 7 [],
 fl 20 19 [4],
 fi 21 1 18 20 [3,5],
 fl 22 21 [6],
 fb 23 .mul 17 22 [2,7],
 fb 24 .add 15 23 [0,8],
 ⟨false,⟨(some 5),.mov (.t 24),[9,0,1,2,3,4,5,6,7,8,9],none⟩⟩] 33521792)))
 (fr [fc 25 .add 11 1 [],
 ⟨false,⟨(some 11),.mov (.t 25),[0],none⟩⟩] 33554432)))))))
 (fq [fm 26 5 [],
 fm 4 26 [0,0]] 67112482
 .ret))))⟩
def f242:FFn:=⟨10,[.tmp 4],
 (fq [fz 4 (.mov (.c (.bool false))) []] 16
 (fq [fm 5 0 [],
 fm 6 5 [0],
 fx 7 (.mov (.t 1)) [1] 6 true,
 fx 8 (.un .not (.t 7)) [2,1] 6 true,
 fz 9 (.pick (.t 6) (.t 8) (.c (.bool false))) [1,3],
 fm 4 9 (fa [4,1] 5)] 995
 .ret))⟩
def f251:FFn:=⟨49,[],
 (fq [fm 8 1 [],
 fc 9 .add 8 1 [0],
 fm 6 9 [1,0,1]] 768
 (.block 0 (.loop (.seq (fq [fm 10 6 [],
 fm 11 2 [],
 fb 12 .lss 10 11 [0,1]] 3072
 (fo 12 0))
 (.seq (.block 1 (fq [fm 15 6 [],
 fm 7 15 [0,0]] 36864
 (.block 2 (.loop (.seq (fq [fm 16 7 [],
 fm 17 1 [],
 fb 18 .gtr 16 17 [0,1],
 fm 19 18 [2],
 ⟨false,⟨(some 20),.mov (.t 0),[3],(some (19,true))⟩⟩,
 ⟨false,⟨(some 21),.mov (.t 7),[3],(some (19,true))⟩⟩,
 ⟨false,⟨(some 22),.iaddr none 1 (.t 20) (.t 21),[4,5,3],(some (19,true))⟩⟩,
 ⟨false,⟨(some 23),.load none (.t 22),[6,3],(some (19,true))⟩⟩,
 ⟨false,⟨(some 24),.mov (.t 0),[3],(some (19,true))⟩⟩,
 ⟨false,⟨(some 25),.mov (.t 7),[3],(some (19,true))⟩⟩,
 ⟨false,⟨(some 26),.bin .sub (.t 25) (.c (.int .i64 (.ofNat 1))),[9,3],(some (19,true))⟩⟩,
 ⟨false,⟨(some 27),.iaddr none 1 (.t 24) (.t 26),[8,10,3],(some (19,true))⟩⟩,
 ⟨false,⟨(some 28),.load none (.t 27),[11,3],(some (19,true))⟩⟩,
 ⟨false,⟨(some 29),.call .heap (.f 197) [(.t 23),(.t 28)],[7,12,3,3],(some (19,true))⟩⟩,
 fz 30 (.pick (.t 19) (.t 29) (.c (.bool false))) [3,13]] 983040
 (fo 30 2))
 (.seq (.block 3 (fr [fm 33 0 [],
 fm 34 7 [],
 fm 35 0 [],
 fm 36 7 [],
 fc 37 .sub 36 1 [3],
 fm 38 0 [],
 fm 39 7 [],
 fc 40 .sub 39 1 [6],
 fi 41 1 38 40 [5,7],
 fl 42 41 [8],
 fm 43 0 [],
 fm 44 7 [],
 fi 45 1 43 44 [10,11],
 fl 46 45 [12],
 fi 47 1 33 34 [0,1,0,1,5,6,7,8,9,13],
 fj 1 47 42 [14,9,0,1,5,6,7,8,9,13],
 fi 48 1 35 37 (fa [2,4] 16),
 fj 1 48 46 (fa [16,13,15] 16)] 562942437228544))
 (fr [fm 31 7 [],
 fc 32 .sub 31 1 [0],
 ⟨false,⟨(some 7),.mov (.t 32),[1,0,1],none⟩⟩] 6442450944)))))))
 (fr [fm 13 6 [],
 fc 14 .add 13 1 [0],
 ⟨false,⟨(some 6),.mov (.t 14),[1,0,1],none⟩⟩] 24704))))))⟩
def f263:FFn:=⟨15,[.tmp 2],
 (fq [fz 2 (.mov (.c (.str []))) []] 4
 (.seq (fq [fm 3 0 [],
 fc 4 .lss 3 10 [0]] 8
 (.cond (.t 4)
 (fq [fm 5 0 [],
 fm 6 0 [],
 fc 7 .add 6 1 [1],
 fz 8 (.slice none (.c (.str [48,49,50,51,52,53,54,55,56,57,97,98,99,100,101,102,103,104,105,106,107,108,109,110,111,112,113,114,115,116,117,118,119,120,121,122])) (some (.t 5)) (some (.t 7)) none) [0,2],
 fm 2 8 [3,0,1,2,3]] 497
 .ret)
 .skip))
 (fq [fm 9 0 [],
 fc 10 .mul 9 2 [0],
 fm 11 0 [],
 fc 12 .mul 11 2 [2],
 fc 13 .add 12 2 [3],
 fz 14 (.slice none (.c (.str [48,48,48,49,48,50,48,51,48,52,48,53,48,54,48,55,48,56,48,57,49,48,49,49,49,50,49,51,49,52,49,53,49,54,49,55,49,56,49,57,50,48,50,49,50,50,50,51,50,52,50,53,50,54,50,55,50,56,50,57,51,48,51,49,51,50,51,51,51,52,51,53,51,54,51,55,51,56,51,57,52,48,52,49,52,50,52,51,52,52,52,53,52,54,52,55,52,56,52,57,53,48,53,49,53,50,53,51,53,52,53,53,53,54,53,55,53,56,53,57,54,48,54,49,54,50,54,51,54,52,54,53,54,54,54,55,54,56,54,57,55,48,55,49,55,50,55,51,55,52,55,53,55,54,55,55,55,56,55,57,56,48,56,49,56,50,56,51,56,52,56,53,56,54,56,55,56,56,56,57,57,48,57,49,57,50,57,51,57,52,57,53,57,54,57,55,57,56,57,57])) (some (.t 10)) (some (.t 13)) none) [1,4],
 ⟨false,⟨(some 2),.mov (.t 14),[5,0,1,2,3,4,5],none⟩⟩] 32273
 .ret)))⟩
end Go.AM.SK
namespace Go.AM.SK
open Go.Proofs
def ft:FT2:=(.n 154 (.n 82 (.n 45 (.n 28 (.n 18 (.n 16 (.l 15 f15) (.n 17 (.l 16 f16) (.l 17 f17))) (.n 19 (.l 18 f18) (.n 21 (.l 19 f19) (.l 21 f21)))) (.n 33 (.n 31 (.l 28 f28) (.n 32 (.l 31 f31) (.l 32 f32))) (.n 38 (.n 36 (.l 33 f33) (.l 36 f36)) (.n 41 (.l 38 f38) (.l 41 f41))))) (.n 71 (.n 68 (.n 48 (.l 45 f45) (.n 60 (.l 48 f48) (.l 60 f60))) (.n 69 (.l 68 f68) (.n 70 (.l 69 f69) (.l 70 f70)))) (.n 74 (.n 72 (.l 71 f71) (.n 73 (.l 72 f72) (.l 73 f73))) (.n 76 (.n 75 (.l 74 f74) (.l 75 f75)) (.n 77 (.l 76 f76) (.l 77 f77)))))) (.n 103 (.n 96 (.n 85 (.n 83 (.l 82 f82) (.n 84 (.l 83 f83) (.l 84 f84))) (.n 90 (.l 85 f85) (.n 95 (.l 90 f90) (.l 95 f95)))) (.n 99 (.n 97 (.l 96 f96) (.n 98 (.l 97 f97) (.l 98 f98))) (.n 101 (.n 100 (.l 99 f99) (.l 100 f100)) (.n 102 (.l 101 f101) (.l 102 f102))))) (.n 112 (.n 106 (.n 104 (.l 103 f103) (.n 105 (.l 104 f104) (.l 105 f105))) (.n 110 (.l 106 f106) (.n 111 (.l 110 f110) (.l 111 f111)))) (.n 144 (.n 115 (.l 112 f112) (.n 135 (.l 115 f115) (.l 135 f135))) (.n 149 (.n 148 (.l 144 f144) (.l 148 f148)) (.n 150 (.l 149 f149) (.l 150 f150))))))) (.n 199 (.n 168 (.n 160 (.n 157 (.n 155 (.l 154 f154) (.n 156 (.l 155 f155) (.l 156 f156))) (.n 158 (.l 157 f157) (.n 159 (.l 158 f158) (.l 159 f159)))) (.n 163 (.n 161 (.l 160 f160) (.n 162 (.l 161 f161) (.l 162 f162))) (.n 166 (.n 164 (.l 163 f163) (.l 164 f164)) (.n 167 (.l 166 f166) (.l 167 f167))))) (.n 189 (.n 184 (.n 169 (.l 168 f168) (.n 183 (.l 169 f169) (.l 183 f183))) (.n 187 (.l 184 f184) (.n 188 (.l 187 f187) (.l 188 f188)))) (.n 193 (.n 190 (.l 189 f189) (.n 192 (.l 190 f190) (.l 192 f192))) (.n 197 (.n 195 (.l 193 f193) (.l 195 f195)) (.n 198 (.l 197 f197) (.l 198 f198)))))) (.n 223 (.n 205 (.n 202 (.n 200 (.l 199 f199) (.n 201 (.l 200 f200) (.l 201 f201))) (.n 203 (.l 202 f202) (.n 204 (.l 203 f203) (.l 204 f204)))) (.n 208 (.n 206 (.l 205 f205) (.n 207 (.l 206 f206) (.l 207 f207))) (.n 218 (.n 209 (.l 208 f208) (.l 209 f209)) (.n 219 (.l 218 f218) (.l 219 f219))))) (.n 233 (.n 228 (.n 226 (.l 223 f223) (.n 227 (.l 226 f226) (.l 227 f227))) (.n 230 (.n 229 (.l 228 f228) (.l 229 f229)) (.n 232 (.l 230 f230) (.l 232 f232)))) (.n 236 (.n 234 (.l 233 f233) (.n 235 (.l 234 f234) (.l 235 f235))) (.n 251 (.n 242 (.l 236 f236) (.l 242 f242)) (.n 263 (.l 251 f251) (.l 263 f263))))))))
theorem ft_ok:ft.OK Tryz.prog:=⟨⟨⟨⟨⟨⟨kk,⟨kk,kk⟩⟩,⟨kk,⟨kk,kk⟩⟩⟩,⟨⟨kk,⟨kk,kk⟩⟩,⟨⟨kk,kk⟩,⟨kk,kk⟩⟩⟩⟩,⟨⟨⟨kk,⟨kk,kk⟩⟩,⟨kk,⟨kk,kk⟩⟩⟩,⟨⟨kk,⟨kk,kk⟩⟩,⟨⟨kk,kk⟩,⟨kk,kk⟩⟩⟩⟩⟩,⟨⟨⟨⟨kk,⟨kk,kk⟩⟩,⟨kk,⟨kk,kk⟩⟩⟩,⟨⟨kk,⟨kk,kk⟩⟩,⟨⟨kk,kk⟩,⟨kk,kk⟩⟩⟩⟩,⟨⟨⟨kk,⟨kk,kk⟩⟩,⟨kk,⟨kk,kk⟩⟩⟩,⟨⟨kk,⟨kk,kk⟩⟩,⟨⟨kk,kk⟩,⟨kk,kk⟩⟩⟩⟩⟩⟩,⟨⟨⟨⟨⟨kk,⟨kk,kk⟩⟩,⟨kk,⟨kk,kk⟩⟩⟩,⟨⟨kk,⟨kk,kk⟩⟩,⟨⟨kk,kk⟩,⟨kk,kk⟩⟩⟩⟩,⟨⟨⟨kk,⟨kk,kk⟩⟩,⟨kk,⟨kk,kk⟩⟩⟩,⟨⟨kk,⟨kk,kk⟩⟩,⟨⟨kk,kk⟩,⟨kk,kk⟩⟩⟩⟩⟩,⟨⟨⟨⟨kk,⟨kk,kk⟩⟩,⟨kk,⟨kk,kk⟩⟩⟩,⟨⟨kk,⟨kk,kk⟩⟩,⟨⟨kk,kk⟩,⟨kk,kk⟩⟩⟩⟩,⟨⟨⟨kk,⟨kk,kk⟩⟩,⟨⟨kk,kk⟩,⟨kk,kk⟩⟩⟩,⟨⟨kk,⟨kk,kk⟩⟩,⟨⟨kk,kk⟩,⟨kk,kk⟩⟩⟩⟩⟩⟩⟩
end Go.AM.SK
namespace Go.AM
abbrev Za (a:List Nat) (n:Nat):List Nat:=a++List.range n
abbrev Zz (d:Nat) (o:SOp) (a:List Nat):SOper:=⟨some d,o,a,none⟩
abbrev Zy (o:SOp) (a:List Nat):SOper:=⟨none,o,a,none⟩
abbrev Zx (d:Nat) (o:SOp) (a:List Nat) (g:Nat) (b:Bool):SOper:=⟨some d,o,a,some (g,b)⟩
abbrev Zm (d x:Nat) (a:List Nat):SOper:=⟨some d,.mov (.t x),a,none⟩
abbrev Zl (d x:Nat) (a:List Nat):SOper:=⟨some d,.load none (.t x),a,none⟩
abbrev Zw (d n x:Nat) (a:List Nat):SOper:=⟨some d,.load (some n) (.t x),a,none⟩
abbrev Zf (d k x:Nat) (a:List Nat):SOper:=⟨some d,.faddr k (.t x),a,none⟩
abbrev Zv (d x:Nat) (a:List Nat):SOper:=⟨some d,.len 1 (.t x),a,none⟩
abbrev Zs (n x y:Nat) (a:List Nat):SOper:=⟨none,.store n (.t x) (.t y),a,none⟩
abbrev Zi (d n x y:Nat) (a:List Nat):SOper:=⟨some d,.iaddr none n (.t x) (.t y),a,none⟩
abbrev Zb (d:Nat) (o:BinOp) (x y:Nat) (a:List Nat):SOper:=⟨some d,.bin o (.t x) (.t y),a,none⟩
end Go.AM
namespace Go.AM.SU
open Go.Proofs
def s26:SFn:=⟨192,[.cell 2 (some 5)],
 (.seq (.region [Zz 1 (.box .dyn (.t 0)) [],
 Zz 2 (.alloc .dyn (.agg [.nilsl,.nilsl,.nilsl,.nilsl,.nilsl])) []] [] [0])
 (.seq (.region [Zf 17 0 1 [],
 Zw 18 5 17 [0],
 Zz 19 (.call .pure (.f 88) [(.t 18)]) [1],
 Zz 20 (.build [.nilsl,.nilsl,.nilsl,.nilsl,.nilsl] [(0,1,(.t 19))]) [2],
 Zz 3 (.alloc .dyn (.agg [.nilsl,.nilsl,.nilsl,.nilsl,.nilsl])) [],
 Zs 5 3 20 (Za [4,3,2] 5)] [] [17,18,19,20])
 (.seq (.region [Zz 4 (.alloc .dyn .nilsl) []] [] [])
 (.seq (.region [Zf 21 5 1 [],
 Zl 22 21 [0],
 Zz 23 (.bin .rem (.t 22) (.c (.int .u8 3))) [1],
 Zz 24 (.conv .i64 (.t 23)) [2],
 Zz 25 (.bin .add (.c (.int .i64 1)) (.t 24)) [3],
 Zm 5 25 (Za [4] 5)] [] [21,22,23,24,25])
 (.seq (.seq (.region [Zm 26 5 [],
 Zz 27 (.mov (.c (.int .i64 0))) []] [] [])
 (.block 0 (.loop (.seq (.region [Zb 28 .lss 27 26 []] [] [])
 (.seq (.cond (.t 28)
 .skip
 (.exit 0))
 (.seq (.block 1 (.seq (.region [Zm 29 27 [],
 Zm 6 29 [0,0]] [] [28,29])
 (.seq (.region [Zm 30 6 [],
 Zf 31 6 1 [],
 Zz 32 (.iaddr (some 3) 1 (.t 31) (.t 30)) [1,0],
 Zl 33 32 [2],
 Zz 34 (.call .pure (.f 89) [(.t 33)]) [3],
 Zm 7 34 (Za [4,4] 5)] [] [30,31,32,33,34])
 (.seq (.region [Zl 35 4 [],
 Zm 36 7 [],
 Zz 37 (.call .pure (.f 90) [(.t 35),(.t 36)]) [0,1],
 Zs 1 4 37 [2,2,0,1,2]] [] [35,36,37])
 (.region [Zf 38 1 3 [],
 Zl 39 38 [0],
 Zm 40 6 [],
 Zz 41 (.bin .add (.c (.int .i64 48)) (.t 40)) [2],
 Zz 42 (.conv .i32 (.t 41)) [3],
 Zz 43 (.convS (.t 42)) [4],
 Zz 44 (.bin .add (.c (.str [99])) (.t 43)) [5],
 Zm 45 7 [],
 Zm 46 6 [],
 Zf 47 9 1 [],
 Zz 48 (.iaddr (some 3) 27 (.t 47) (.t 46)) [9,8],
 Zw 49 27 48 [10],
 Zz 50 (.call .pure (.f 91) [(.t 45),(.t 49),(.c (.int .i64 3))]) [7,11],
 Zz 51 (.build [(.str []),.nilsl,(.int .i64 0),.nilsl,.nilsl] [(0,1,(.t 44)),(1,4,(.t 50))]) [6,12],
 Zz 52 (.bslice false .dyn 5 1 [(.str []),.nilsl,(.int .i64 0),.nilsl,.nilsl] [(0,5,(.t 51))]) [13],
 Zz 53 (.append .dyn 5 96 (.t 39) (.t 52)) [1,14,12],
 Zf 54 1 3 (Za [] 16),
 Zs 1 54 53 (Za [16,15,15] 16)] [] [6,7,38,39,40,41,42,43,44,45,46,47,48,49,50,51,52,53,54])))))
 (.region [Zz 55 (.bin .add (.t 27) (.c (.int .i64 1))) [],
 Zm 27 55 [0]] [] [55])))))))
 (.seq (.seq (.region [Zf 56 90 1 [],
 Zl 57 56 [0],
 Zz 58 (.bin .rem (.t 57) (.c (.int .u8 3))) [1],
 Zz 59 (.conv .i64 (.t 58)) [2],
 Zz 60 (.mov (.c (.int .i64 0))) []] [] [26,27,56,57,58])
 (.block 2 (.loop (.seq (.region [Zb 61 .lss 60 59 []] [] [])
 (.seq (.cond (.t 61)
 .skip
 (.exit 2))
 (.seq (.block 3 (.seq (.region [Zm 62 60 [],
 Zm 8 62 [0,0]] [] [61,62])
 (.seq (.region [Zm 63 8 [],
 Zf 64 91 1 [],
 Zz 65 (.iaddr (some 2) 1 (.t 64) (.t 63)) [1,0],
 Zl 66 65 [2],
 Zz 67 (.call .heap (.f 89) [(.t 66)]) [3],
 Zz 68 (.mkfn 92 [] [(.t 4)]) [],
 Zz 69 (.call .heap (.f 40) [(.t 67),(.t 68)]) [4,5,4],
 Zm 9 69 (Za [6,6] 7)] [] [63,64,65,66,67,68,69])
 (.region [Zf 70 2 3 [],
 Zl 71 70 [0],
 Zm 72 8 [],
 Zz 73 (.bin .add (.c (.int .i64 48)) (.t 72)) [2],
 Zz 74 (.conv .i32 (.t 73)) [3],
 Zz 75 (.convS (.t 74)) [4],
 Zz 76 (.bin .add (.c (.str [114])) (.t 75)) [5],
 Zm 77 9 [],
 Zm 78 8 [],
 Zf 79 93 1 [],
 Zz 80 (.iaddr (some 2) 27 (.t 79) (.t 78)) [9,8],
 Zw 81 27 80 [10],
 Zz 82 (.call .pure (.f 91) [(.t 77),(.t 81),(.c (.int .i64 3))]) [7,11],
 Zz 83 (.build [(.str []),.nilsl,(.int .i64 0),.nilsl,.nilsl] [(0,1,(.t 76)),(1,4,(.t 82))]) [6,12],
 Zz 84 (.bslice false .dyn 5 1 [(.str []),.nilsl,(.int .i64 0),.nilsl,.nilsl] [(0,5,(.t 83))]) [13],
 Zz 85 (.append .dyn 5 96 (.t 71) (.t 84)) [1,14,12],
 Zf 86 2 3 (Za [] 16),
 Zs 1 86 85 (Za [16,15,15] 16)] [] [8,9,70,71,72,73,74,75,76,77,78,79,80,81,82,83,84,85,86]))))
 (.region [Zz 87 (.bin .add (.t 60) (.c (.int .i64 1))) [],
 Zm 60 87 [0]] [] [87])))))))
 (.seq (.seq (.region [Zf 88 147 1 [],
 Zl 89 88 [0],
 Zv 90 89 [1],
 Zz 91 (.mov (.c (.int .i64 0))) []] [] [4,59,60,88])
 (.block 4 (.loop (.seq (.region [Zb 92 .lss 91 90 []] [] [])
 (.seq (.cond (.t 92)
 .skip
 (.exit 4))
 (.seq (.block 5 (.seq (.region [Zm 93 91 [],
 Zi 94 4 89 91 [],
 Zw 95 4 94 [1],
 Zz 11 (.alloc .dyn (.agg [(.int .u8 0),(.int .u8 0),(.int .u8 0),(.int .u8 0)])) [],
 Zm 10 93 [0,0,1,2,3],
 Zs 4 11 95 (Za [3,2,4] 5)] [] [92,93,94,95])
 (.seq (.seq (.region [Zm 96 10 [],
 Zz 97 (.bin .eql (.t 96) (.c (.int .i64 2))) [0]] [] [96])
 (.cond (.t 97)
 (.exit 4)
 .skip))
 (.seq (.region [Zm 98 10 [],
 Zz 99 (.bin .add (.c (.int .i64 48)) (.t 98)) [0],
 Zz 100 (.conv .i32 (.t 99)) [1],
 Zz 101 (.convS (.t 100)) [2],
 Zz 102 (.bin .add (.c (.str [101])) (.t 101)) [3],
 Zz 103 (.build [(.str []),.nilsl] [(0,1,(.t 102))]) [4],
 Zz 12 (.alloc .dyn (.agg [(.str []),.nilsl])) [],
 Zs 2 12 103 (Za [6,5] 7)] [] [10,97,98,99,100,101,102,103])
 (.seq (.seq (.region [Zf 104 1 3 [],
 Zl 105 104 [0],
 Zv 106 105 [1],
 Zz 107 (.mov (.c (.int .i64 0))) []] [] [104,105])
 (.block 6 (.loop (.seq (.region [Zb 108 .lss 107 106 []] [] [])
 (.seq (.cond (.t 108)
 .skip
 (.exit 6))
 (.seq (.block 7 (.seq (.region [Zm 109 107 [],
 Zm 13 109 [0,0]] [] [108,109])
 (.seq (.region [Zf 110 1 3 [],
 Zl 111 110 [0],
 Zm 112 13 [],
 Zi 113 5 111 112 [1,2],
 Zf 114 1 113 [3],
 Zf 115 1 114 [4],
 Zl 116 115 [5],
 Zm 14 116 (Za [6] 7)] [] [110,111,112,113,114,115,116])
 (.seq (.region [Zm 117 13 [],
 Zz 118 (.iaddr (some 4) 1 (.t 11) (.t 117)) [0],
 Zl 119 118 [1],
 Zz 120 (.conv .i64 (.t 119)) [2],
 Zm 121 14 [],
 Zz 122 (.bin .add (.t 121) (.c (.int .i64 2))) [4],
 Zb 123 .rem 120 122 [3,5],
 Zm 124 14 [],
 Zb 125 .lss 123 124 [6,7]] [] [117,118,119,120,121,122,123,124])
 (.cond (.t 125)
 (.region [Zf 126 1 12 [],
 Zl 127 126 [0],
 Zm 128 13 [],
 Zm 129 13 [],
 Zz 130 (.iaddr (some 4) 1 (.t 11) (.t 129)) [3],
 Zl 131 130 [4],
 Zz 132 (.conv .i64 (.t 131)) [5],
 Zm 133 14 [],
 Zz 134 (.bin .add (.t 133) (.c (.int .i64 2))) [7],
 Zb 135 .rem 132 134 [6,8],
 Zz 136 (.build [(.int .i64 0),(.int .i64 0)] [(0,1,(.t 128)),(1,1,(.t 135))]) [2,9],
 Zz 137 (.bslice false .dyn 2 1 [(.int .i64 0),(.int .i64 0)] [(0,2,(.t 136))]) [10],
 Zz 138 (.append .dyn 2 16 (.t 127) (.t 137)) [1,11],
 Zf 139 1 12 (Za [] 13),
 Zs 1 139 138 (Za [13,12,12] 13)] [] [13,14,125,126,127,128,129,130,131,132,133,134,135,136,137,138,139])
 .skip)))))
 (.region [Zz 140 (.bin .add (.t 107) (.c (.int .i64 1))) [],
 Zm 107 140 [0]] [] [13,14,125,140])))))))
 (.seq (.region [Zf 141 1 12 [],
 Zl 142 141 [0],
 Zv 143 142 [1],
 Zz 144 (.bin .gtr (.t 143) (.c (.int .i64 0))) [2]] [] [11,106,107,141,142,143])
 (.cond (.t 144)
 (.region [Zf 145 3 3 [],
 Zl 146 145 [0],
 Zw 147 2 12 [],
 Zz 148 (.bslice false .dyn 2 1 [(.str []),.nilsl] [(0,2,(.t 147))]) [2],
 Zz 149 (.append .dyn 2 40 (.t 146) (.t 148)) [1,3],
 Zf 150 3 3 (Za [] 5),
 Zs 1 150 149 (Za [5,4,4] 5)] [] [12,144,145,146,147,148,149,150])
 .skip)))))))
 (.region [Zz 151 (.bin .add (.t 91) (.c (.int .i64 1))) [],
 Zm 91 151 [0]] [] [12,144,151])))))))
 (.seq (.region [Zf 152 151 1 [],
 Zl 153 152 [0],
 Zz 154 (.conv .i64 (.t 153)) [1],
 Zz 155 (.bin .rem (.t 154) (.c (.int .i64 8))) [2],
 Zz 156 (.build [(.str []),.nilsl,(.int .i64 0)] [(0,1,(.c (.str [107]))),(2,1,(.t 155))]) [3],
 Zz 15 (.alloc .dyn (.agg [(.str []),.nilsl,(.int .i64 0)])) [],
 Zs 3 15 156 (Za [5,4] 6)] [] [89,90,91,152,153,154,155,156])
 (.seq (.seq (.region [Zm 157 5 [],
 Zz 158 (.mov (.c (.int .i64 0))) []] [] [5])
 (.block 8 (.loop (.seq (.region [Zb 159 .lss 158 157 []] [] [])
 (.seq (.cond (.t 159)
 .skip
 (.exit 8))
 (.seq (.block 9 (.seq (.region [Zm 160 158 [],
 Zm 16 160 [0,0]] [] [159,160])
 (.seq (.region [Zm 161 16 [],
 Zf 162 148 1 [],
 Zz 163 (.iaddr (some 3) 1 (.t 162) (.t 161)) [1,0],
 Zl 164 163 [2],
 Zz 165 (.bin .neq (.t 164) (.c (.int .i8 0))) [3]] [] [161,162,163,164])
 (.cond (.t 165)
 (.region [Zf 166 1 15 [],
 Zl 167 166 [0],
 Zm 168 16 [],
 Zm 169 16 [],
 Zf 170 148 1 [],
 Zz 171 (.iaddr (some 3) 1 (.t 170) (.t 169)) [4,3],
 Zl 172 171 [5],
 Zz 173 (.conv .i64 (.t 172)) [6],
 Zz 174 (.bin .rem (.t 173) (.c (.int .i64 4))) [7],
 Zz 175 (.build [(.int .i64 0),(.int .i64 0)] [(0,1,(.t 168)),(1,1,(.t 174))]) [2,8],
 Zz 176 (.bslice false .dyn 2 1 [(.int .i64 0),(.int .i64 0)] [(0,2,(.t 175))]) [9],
 Zz 177 (.append .dyn 2 16 (.t 167) (.t 176)) [1,10],
 Zf 178 1 15 (Za [] 12),
 Zs 1 178 177 (Za [12,11,11] 12)] [] [16,165,166,167,168,169,170,171,172,173,174,175,176,177,178])
 .skip))))
 (.region [Zz 179 (.bin .add (.t 158) (.c (.int .i64 1))) [],
 Zm 158 179 [0]] [] [16,165,179])))))))
 (.seq (.region [Zf 180 1 15 [],
 Zl 181 180 [0],
 Zz 182 (.call .heap (.f 93) [(.t 181),(.f 94)]) [1],
 Zf 183 1 15 [0,1,2],
 Zs 1 183 182 [3,2,2,0,1,2]] [] [1,157,158,180,181,182,183])
 (.seq (.seq (.region [Zf 184 1 15 [],
 Zl 185 184 [0],
 Zv 186 185 [1],
 Zz 187 (.bin .gtr (.t 186) (.c (.int .i64 0))) [2]] [] [184,185,186])
 (.cond (.t 187)
 (.region [Zw 188 3 15 [],
 Zz 189 (.bslice false .dyn 3 1 [(.str []),.nilsl,(.int .i64 0)] [(0,3,(.t 188))]) [0],
 Zf 190 4 3 [0,1],
 Zs 1 190 189 [2,1,0,1]] [] [15,187,188,189,190])
 .skip))
 (.seq (.region [Zw 191 5 3 [],
 Zs 5 2 191 [0,0]] [] [3,15,187,191])
 .ret))))))))))))⟩
def s40:SFn:=⟨42,[.tmp 4],
 (.seq (.region [Zz 4 (.mov (.c .nilsl)) []] [] [4])
 (.seq (.region [Zm 8 0 [],
 Zm 9 1 [],
 Zz 10 (.call .heap (.f 110) [(.t 8),(.t 9)]) [0,1],
 Zm 5 10 [2,2,0,1,2]] [] [8,9,10])
 (.seq (.seq (.region [Zm 11 5 [],
 Zz 12 (.bin .eql (.t 11) (.c (.int .i64 (-1)))) [0]] [] [11])
 (.cond (.t 12)
 (.seq (.region [Zm 13 0 [],
 Zm 4 13 [0,0]] [] [0,1,5,12,13])
 .ret)
 .skip))
 (.seq (.seq (.region [Zm 14 5 [],
 Zz 15 (.bin .add (.t 14) (.c (.int .i64 1))) [0],
 Zm 6 15 [1,0,1]] [] [4,12,14,15])
 (.block 0 (.loop (.seq (.seq (.region [Zm 16 6 [],
 Zm 17 0 [],
 Zv 18 17 [1],
 Zb 19 .lss 16 18 [0,2]] [] [16,17,18])
 (.cond (.t 19)
 .skip
 (.exit 0)))
 (.seq (.block 1 (.seq (.region [Zm 22 0 [],
 Zm 23 6 [],
 Zi 24 1 22 23 [0,1],
 Zl 25 24 [2],
 Zm 7 25 [3,0,1,2,3]] [] [19,22,23,24,25])
 (.seq (.region [Zm 26 1 [],
 Zm 27 7 [],
 Zz 28 (.call .heap (.t 26) [(.t 27)]) [0,1],
 Zz 29 (.un .not (.t 28)) [2]] [] [26,27,28])
 (.cond (.t 29)
 (.seq (.region [Zm 30 0 [],
 Zm 31 5 [],
 Zm 32 7 [],
 Zi 33 1 30 31 [0,1,0,1,2],
 Zs 1 33 32 [3,2,0,1,2]] [] [7,29,30,31,32,33])
 (.region [Zm 34 5 [],
 Zz 35 (.bin .add (.t 34) (.c (.int .i64 1))) [0],
 Zm 5 35 [1,0,1]] [] [34,35]))
 .skip))))
 (.region [Zm 20 6 [],
 Zz 21 (.bin .add (.t 20) (.c (.int .i64 1))) [0],
 Zm 6 21 [1,0,1]] [] [7,29,20,21]))))))
 (.seq (.region [Zm 36 0 [],
 Zm 37 5 [],
 Zz 38 (.slice (some 1) (.t 36) (some (.t 37)) none none) [0,1],
 Zy (.clear 1 8 [(.int .i64 0)] (.t 38)) [2]] [] [1,6,36,37,38])
 (.seq (.region [Zm 39 0 [],
 Zm 40 5 [],
 Zz 41 (.slice (some 1) (.t 39) none (some (.t 40)) none) [0,1],
 Zm 4 41 [2,0,1,2]] [] [0,5,39,40,41])
 .ret))))))⟩
def s91:SFn:=⟨16,[.cell 6 (some 4)],
 (.seq (.region [Zz 4 (.box .dyn (.t 1)) [],
 Zz 6 (.alloc .dyn (.agg [.nilsl,(.int .i64 0),.nilsl,.nilsl])) []] [] [1])
 (.seq (.region [Zf 7 0 4 [],
 Zl 8 7 [0],
 Zm 9 2 [],
 Zz 10 (.conv .u8 (.t 9)) [2],
 Zb 11 .rem 8 10 [1,3],
 Zf 12 0 4 (Za [] 5),
 Zs 1 12 11 (Za [5,4] 5)] [] [2,7,8,9,10,11,12])
 (.seq (.region [Zm 13 0 [],
 Zw 14 27 4 [],
 Zz 15 (.call .pure (.f 185) [(.t 13),(.t 14)]) [0,1],
 Zs 4 6 15 [2,2,0,1,2]] [] [0,4,13,14,15])
 .ret)))⟩
def s92:SFn:=⟨8,[.tmp 3],
 (.seq (.region [Zz 3 (.mov (.c (.bool false))) []] [] [3])
 (.seq (.region [Zl 4 1 [],
 Zm 5 0 [],
 Zz 6 (.call .pure (.f 38) [(.t 4),(.t 5)]) [0,1],
 Zz 7 (.un .not (.t 6)) [2],
 Zm 3 7 [3,2,0,1,2,3]] [] [0,1,4,5,6,7])
 .ret))⟩
def s93:SFn:=⟨42,[.tmp 4],
 (.seq (.region [Zz 4 (.mov (.c .nilsl)) []] [] [4])
 (.seq (.region [Zm 8 0 [],
 Zm 9 1 [],
 Zz 10 (.call .heap (.f 186) [(.t 8),(.t 9)]) [0,1],
 Zm 5 10 [2,2,0,1,2]] [] [8,9,10])
 (.seq (.seq (.region [Zm 11 5 [],
 Zz 12 (.bin .eql (.t 11) (.c (.int .i64 (-1)))) [0]] [] [11])
 (.cond (.t 12)
 (.seq (.region [Zm 13 0 [],
 Zm 4 13 [0,0]] [] [0,1,5,12,13])
 .ret)
 .skip))
 (.seq (.seq (.region [Zm 14 5 [],
 Zz 15 (.bin .add (.t 14) (.c (.int .i64 1))) [0],
 Zm 6 15 [1,0,1]] [] [4,12,14,15])
 (.block 0 (.loop (.seq (.seq (.region [Zm 16 6 [],
 Zm 17 0 [],
 Zv 18 17 [1],
 Zb 19 .lss 16 18 [0,2]] [] [16,17,18])
 (.cond (.t 19)
 .skip
 (.exit 0)))
 (.seq (.block 1 (.seq (.region [Zm 22 0 [],
 Zm 23 6 [],
 Zi 24 2 22 23 [0,1],
 Zw 25 2 24 [2],
 Zz 7 (.alloc .dyn (.agg [(.int .i64 0),(.int .i64 0)])) [],
 Zs 2 7 25 (Za [4,3] 5)] [] [19,22,23,24,25])
 (.seq (.region [Zm 26 1 [],
 Zw 27 2 7 [],
 Zz 28 (.call .heap (.t 26) [(.t 27)]) [0,1],
 Zz 29 (.un .not (.t 28)) [2]] [] [26,27,28])
 (.cond (.t 29)
 (.seq (.region [Zm 30 0 [],
 Zm 31 5 [],
 Zw 32 2 7 [],
 Zi 33 2 30 31 [0,1,0,1,2],
 Zs 2 33 32 [3,2,0,1,2]] [] [7,29,30,31,32,33])
 (.region [Zm 34 5 [],
 Zz 35 (.bin .add (.t 34) (.c (.int .i64 1))) [0],
 Zm 5 35 [1,0,1]] [] [34,35]))
 .skip))))
 (.region [Zm 20 6 [],
 Zz 21 (.bin .add (.t 20) (.c (.int .i64 1))) [0],
 Zm 6 21 [1,0,1]] [] [7,29,20,21]))))))
 (.seq (.region [Zm 36 0 [],
 Zm 37 5 [],
 Zz 38 (.slice (some 2) (.t 36) (some (.t 37)) none none) [0,1],
 Zy (.clear 2 16 [(.int .i64 0),(.int .i64 0)] (.t 38)) [2]] [] [1,6,36,37,38])
 (.seq (.region [Zm 39 0 [],
 Zm 40 5 [],
 Zz 41 (.slice (some 2) (.t 39) none (some (.t 40)) none) [0,1],
 Zm 4 41 [2,0,1,2]] [] [0,5,39,40,41])
 .ret))))))⟩
def s94:SFn:=⟨6,[.tmp 2],
 (.seq (.region [Zz 1 (.box .dyn (.t 0)) [],
 Zz 2 (.mov (.c (.bool false))) []] [] [0,2])
 (.seq (.region [Zf 3 1 1 [],
 Zl 4 3 [0],
 Zz 5 (.bin .eql (.t 4) (.c (.int .i64 0))) [1],
 Zm 2 5 [2,0,1,2]] [] [1,3,4,5])
 .ret))⟩
def s110:SFn:=⟨19,[.tmp 4],
 (.seq (.region [Zz 4 (.mov (.c (.int .i64 0))) []] [] [4])
 (.seq (.seq (.region [Zm 6 0 [],
 Zv 7 6 [0],
 Zz 8 (.mov (.c (.int .i64 0))) []] [] [6])
 (.block 0 (.loop (.seq (.region [Zb 9 .lss 8 7 []] [] [])
 (.seq (.cond (.t 9)
 .skip
 (.exit 0))
 (.seq (.block 1 (.seq (.region [Zm 10 8 [],
 Zm 5 10 [0,0]] [] [9,10])
 (.seq (.region [Zm 11 1 [],
 Zm 12 0 [],
 Zm 13 5 [],
 Zi 14 1 12 13 [1,2],
 Zl 15 14 [3],
 Zz 16 (.call .heap (.t 11) [(.t 15)]) [0,4]] [] [11,12,13,14,15])
 (.cond (.t 16)
 (.seq (.region [Zm 17 5 [],
 Zm 4 17 [0,0]] [] [0,1,7,8,5,16,17])
 .ret)
 .skip))))
 (.region [Zz 18 (.bin .add (.t 8) (.c (.int .i64 1))) [],
 Zm 8 18 [0]] [] [4,5,16,18])))))))
 (.seq (.region [Zz 4 (.mov (.c (.int .i64 (-1)))) []] [] [0,1,7,8])
 .ret)))⟩
def s186:SFn:=⟨19,[.tmp 4],
 (.seq (.region [Zz 4 (.mov (.c (.int .i64 0))) []] [] [4])
 (.seq (.seq (.region [Zm 6 0 [],
 Zv 7 6 [0],
 Zz 8 (.mov (.c (.int .i64 0))) []] [] [6])
 (.block 0 (.loop (.seq (.region [Zb 9 .lss 8 7 []] [] [])
 (.seq (.cond (.t 9)
 .skip
 (.exit 0))
 (.seq (.block 1 (.seq (.region [Zm 10 8 [],
 Zm 5 10 [0,0]] [] [9,10])
 (.seq (.region [Zm 11 1 [],
 Zm 12 0 [],
 Zm 13 5 [],
 Zi 14 2 12 13 [1,2],
 Zw 15 2 14 [3],
 Zz 16 (.call .heap (.t 11) [(.t 15)]) [0,4]] [] [11,12,13,14,15])
 (.cond (.t 16)
 (.seq (.region [Zm 17 5 [],
 Zm 4 17 [0,0]] [] [0,1,7,8,5,16,17])
 .ret)
 .skip))))
 (.region [Zz 18 (.bin .add (.t 8) (.c (.int .i64 1))) [],
 Zm 8 18 [0]] [] [4,5,16,18])))))))
 (.seq (.region [Zz 4 (.mov (.c (.int .i64 (-1)))) []] [] [0,1,7,8])
 .ret)))⟩
theorem ok26:okFn Tryz.prog 26 s26=true:=by kernel_rfl
theorem ok40:okFn Tryz.prog 40 s40=true:=by kernel_rfl
theorem ok91:okFn Tryz.prog 91 s91=true:=by kernel_rfl
theorem ok92:okFn Tryz.prog 92 s92=true:=by kernel_rfl
theorem ok93:okFn Tryz.prog 93 s93=true:=by kernel_rfl
theorem ok94:okFn Tryz.prog 94 s94=true:=by kernel_rfl
theorem ok110:okFn Tryz.prog 110 s110=true:=by kernel_rfl
theorem ok186:okFn Tryz.prog 186 s186=true:=by kernel_rfl
end Go.AM.SU
namespace Go.AM.SD
abbrev Ed:=Nat×Nat×Nat
end Go.AM.SD
namespace Go.AM.SD
def preds (es:List Ed) (v:Nat):List Nat:=(es.filter fun e=>e.2.2==v).map (·.1)
end Go.AM.SD
namespace Go.AM.SD
structure Rm where
 st:Nat
 rank:Int
 reason:Nat
 ev:Int
deriving DecidableEq
end Go.AM.SD
namespace Go.AM.SD
end Go.AM.SD
namespace Go.AM.SD
end Go.AM.SD
namespace Go.AM.SD
structure Aut where
 al:List Nat
 n:Nat
 ms:List Nat
 es:List Ed
structure WfA (a:Aut):Prop where
 al:a.al.Pairwise (· < ·)
 al5:∀x∈a.al,x<5
 n5:a.n<=5
 ms:a.ms.Pairwise (· < ·)
 msn:∀x∈a.ms,x<a.n
 es:a.es.Pairwise fun x y=>x.1<y.1\/(x.1=y.1/\x.2.1<y.2.1)
 esn:∀e∈a.es,e.1<a.n/\e.2.2<a.n
 ev:∀e∈a.es,e.2.1∈a.al
theorem WfA.nd {a:Aut} (h:WfA a):a.ms.Nodup:=by
 rw[List.nodup_iff_pairwise_ne];exact h.ms.imp fun h=>by omega
theorem WfA.srt {a:Aut} (h:WfA a):a.es.Pairwise fun x y=>x.1<=y.1:=h.es.imp fun h=>by omega
def stepA (es:List Ed) (s ev:Nat):Option Nat:=(es.find? fun e=>e.1==s&&e.2.1==ev).map (·.2.2)
def fEv (es:List Ed) (s:Nat) (out:List Nat) (ev:Nat):List Nat:=match stepA es s ev with|some to=>if out.contains to then out else out++[to]|none=>out
def fRow (al:List Nat) (es:List Ed) (s:Nat) (out:List Nat):List Nat:=al.foldl (fEv es s) out
def fQ (al:List Nat) (es:List Ed):Nat->Nat->List Nat->List Nat
 |0,_,out=>out
 |k+1,i,out=>match out[i]? with|some s=>fQ al es k (i+1) (fRow al es s out)|none=>out
def found (a:Aut):List Nat:=fQ a.al a.es (a.n+1) 0 (if 0<a.n then[0]else[])
def idx (l:List Nat) (x:Nat):Nat:=l.findIdx (· ==x)
def cRow (a:Aut) (f:List Nat) (i s:Nat):List Ed:=a.al.filterMap fun ev=>(stepA a.es s ev).map fun to=>(i,ev,idx f to)
def cRows (a:Aut) (f:List Nat):List Ed:=(List.range f.length).flatMap fun i=>cRow a f i (f.getD i 0)
def canon (a:Aut):Aut:=⟨a.al,(found a).length,(List.range (found a).length).filter fun i=>a.ms.contains ((found a).getD i 0),cRows a (found a)⟩
theorem QfR {n:Nat} {es:List Ed} (hn:∀e∈es,e.1<n/\e.2.2<n) {s ev to:Nat} (h:stepA es s ev=some to):to<n:=by
 unfold stepA at h
 cases hf:es.find? fun e=>e.1==s&&e.2.1==ev with
 |none=>rw[hf]at h;cases h
 |some e=>rw[hf]at h;cases h;exact(hn e (List.mem_of_find?_eq_some hf)).2
structure FI (n:Nat) (out:List Nat):Prop where
 nd:out.Nodup
 lt:∀x∈out,x<n
theorem QaM:∀(n:Nat) (l:List Nat),l.Nodup->(∀x∈l,x<n)->l.length<=n
 |0,l,_,h=>by
  cases l with
  |nil=>exact Nat.le_refl _
  |cons x l=>have:=h x (by simp);omega
 | n + 1, l, hn, h => by
  by_cases hm:n∈l
  ·have h1 := QaM n (l.erase n) (hn.erase n) fun x hx => by
    have h2:=(hn.mem_erase_iff).1 hx
    have:=h x h2.2
    have:=h2.1
    omega
   rw[List.length_erase_of_mem hm]at h1
   omega
  ·have := QaM n l hn fun x hx => by
    have:=h x hx
    have:x≠n:=fun e=>hm (e▸hx)
    omega
   omega
theorem FI.len {n:Nat} {out:List Nat} (h:FI n out):out.length<=n:=QaM n out h.nd h.lt
theorem FI.row {n:Nat} {es:List Ed} (hn:∀e∈es,e.1<n/\e.2.2<n) (s:Nat):∀(al:List Nat) (out:List Nat),FI n out->FI n (al.foldl (fEv es s) out)/\(∃t,al.foldl (fEv es s) out=out++t)/\∀ev∈al,∀to,stepA es s ev=some to->to∈al.foldl (fEv es s) out:=by
 intro al
 induction al with
 |nil=>intro out h;exact⟨h,⟨[],by simp⟩,fun ev hev=>by cases hev⟩
 | cons ev al ih =>
  intro out h
  rw[List.foldl_cons]
  have h1:FI n (fEv es s out ev)/\(∃t,fEv es s out ev=out++t)/\∀to,stepA es s ev=some to->to∈fEv es s out ev:=by
   unfold fEv
   cases hs:stepA es s ev with
   |none=>exact⟨h,⟨[],by simp⟩,fun to ht=>by cases ht⟩
   | some to =>
    dsimp only
    split
    ·rename_i hc
     exact⟨h,⟨[],by simp⟩,fun t ht=>by cases ht;simpa using hc⟩
    ·rename_i hc
     refine⟨⟨?_,fun x hx=>?_⟩,⟨[to],rfl⟩,fun t ht=>by cases ht;simp⟩
     ·rw [List.nodup_append]
      refine⟨h.nd,by simp,fun a ha b hb e=>?_⟩
      simp only[List.mem_singleton]at hb
      subst hb;subst e
      exact hc (by simpa using ha)
     ·rcases List.mem_append.1 hx with hx | hx
      ·exact h.lt x hx
      ·simp at hx;subst hx;exact QfR hn hs
  obtain⟨k1,⟨t,k2⟩,k3⟩:=h1
  obtain⟨j1,⟨t2,j2⟩,j3⟩:=ih _ k1
  refine⟨j1,⟨t++t2,by rw[j2,k2,List.append_assoc]⟩,fun e he to ht=>?_⟩
  rcases List.mem_cons.1 he with rfl|he
  ·rw[j2];exact List.mem_append_left _ (k3 to ht)
  ·exact j3 e he to ht
theorem fQ_ok {n : Nat} {al : List Nat} {es : List Ed} (hn : ∀ e ∈ es, e.1 < n /\ e.2.2 < n) : ∀ (k i : Nat) (out : List Nat), FI n out -> i <= out.length -> n < k + i -> (∀ j s, j < i -> out[j]? = some s -> ∀ ev ∈ al, ∀ to, stepA es s ev = some to -> to ∈ out) ->
    FI n (fQ al es k i out)/\(∃t,fQ al es k i out=out++t)/\∀s∈fQ al es k i out,∀ev∈al,∀to,stepA es s ev=some to->to∈fQ al es k i out:=by
  intro k
  induction k with
  |zero=>intro i out h hi hk _;have:=h.len;omega
  | succ k ih =>
    intro i out h hi hk hd
    unfold fQ
    cases hs:out[i]? with
    | none =>
      have hil:out.length<=i:=List.getElem?_eq_none_iff.1 hs
      refine⟨h,⟨[],by simp⟩,fun s hm ev hev to ht=>?_⟩
      have hm:s∈out:=hm
      obtain⟨j,hj⟩:=List.getElem?_of_mem hm
      have hjl:j<out.length:=(List.getElem?_eq_some_iff.1 hj).1
      exact hd j s (by omega) hj ev hev to ht
    | some s =>
      dsimp only
      obtain⟨k1,⟨t,k2⟩,k3⟩:=FI.row hn s al out h
      have hil:i<out.length:=(List.getElem?_eq_some_iff.1 hs).1
      have k2:fRow al es s out=out++t:=k2
      obtain⟨j1,⟨t2,j2⟩,j3⟩:=ih (i+1) (fRow al es s out) k1 (by rw[k2,List.length_append];omega) (by omega) fun j s' hj hs' ev hev to ht=>by
        have hjl:j<out.length:=by omega
        rw[k2,List.getElem?_append_left hjl]at hs'
        by_cases hji:j<i
        · rw[k2];exact List.mem_append_left _ (hd j s' hji hs' ev hev to ht)
        · have : j = i := by omega
          subst this
          rw[hs]at hs';cases hs'
          exact k3 ev hev to ht
      exact⟨j1,⟨t++t2,by rw[j2,k2,List.append_assoc]⟩,j3⟩
theorem Qd5 {a:Aut} (hn:∀e∈a.es,e.1<a.n/\e.2.2<a.n):FI a.n (found a)/\(∃t,found a=(if 0<a.n then[0]else[])++t)/\∀s∈found a,∀ev∈a.al,∀to,stepA a.es s ev=some to->to∈found a:=by
 refine fQ_ok hn (a.n+1) 0 _ ?_ (Nat.zero_le _) (by omega) fun j s hj=>by omega
 split
 ·rename_i h0;exact⟨by simp,fun x hx=>by simp at hx;omega⟩
 ·exact⟨by simp,fun x hx=>by cases hx⟩
theorem QdL {l:List Nat} {x:Nat} (h:x∈l):idx l x<l.length:=List.findIdx_lt_length_of_exists ⟨x,h,by simp⟩
theorem QnA {l:List Nat} {x:Nat} (h:x∈l):l[idx l x]?=some x:=by
 have h1:=QdL h
 rw[List.getElem?_eq_getElem h1]
 have:=List.findIdx_getElem (p:=(· ==x)) (w:=h1)
 exact congrArg some (by simpa using this:l[List.findIdx (· ==x) l]'h1=x)
theorem QbZ {l:List Nat} {f:Nat->List Ed} {R:Ed->Ed->Prop} (h1:∀i∈l,(f i).Pairwise R) (h2:l.Pairwise fun i j=>∀x∈f i,∀y∈f j,R x y):(l.flatMap f).Pairwise R:=by
 induction l with
 |nil=>exact List.Pairwise.nil
 |cons i l ih=>
  rw[List.pairwise_cons]at h2
  rw[List.flatMap_cons,List.pairwise_append]
  refine⟨h1 i (by simp),ih (fun j hj=>h1 j (by simp[hj])) h2.2,fun x hx y hy=>?_⟩
  obtain⟨j,hj,hy⟩:=List.mem_flatMap.1 hy
  exact h2.1 j hj x hx y hy
theorem QmS {a:Aut} (hal:a.al.Pairwise (· < ·)) (h5:∀x∈a.al,x<5) (hn5:a.n<=5) (hn:∀e∈a.es,e.1<a.n/\e.2.2<a.n):WfA (canon a):=by
 obtain⟨h1,_,h3⟩:=Qd5 hn
 have hrow:∀i s,∀e∈cRow a (found a) i s,e.1=i/\e.2.1∈a.al/\(s∈found a->e.2.2<(found a).length):=by
  intro i s e he
  obtain⟨ev,hev,hm⟩:=List.mem_filterMap.1 he
  cases hs:stepA a.es s ev with
  |none=>rw[hs]at hm;cases hm
  |some to=>
   rw[hs]at hm;cases hm
   exact⟨rfl,hev,fun hsf=>QdL (h3 s hsf ev hev to hs)⟩
 have hget:∀i,i<(found a).length->(found a).getD i 0∈found a:=fun i hi=>by
  rw[List.getD_eq_getElem?_getD,List.getElem?_eq_getElem hi];exact List.getElem_mem hi
 refine⟨hal,h5,Nat.le_trans h1.len hn5,?_,fun x hx=>?_,?_,fun e he=>?_,fun e he=>?_⟩
 ·exact List.pairwise_lt_range.filter _
 ·have := (List.mem_filter.1 hx).1
  exact List.mem_range.1 this
 ·refine QbZ (fun i hi => ?_) (List.pairwise_lt_range.imp fun hij x hx y hy => .inl ?_)
  ·refine List.Pairwise.filterMap _ (R := (· < ·)) ?_ hal
   intro x y hxy p hp q hq
   cases hs:stepA a.es ((found a).getD i 0) x with
   |none=>rw[hs]at hp;cases hp
   |some to=>
    cases hs2:stepA a.es ((found a).getD i 0) y with
    |none=>rw[hs2]at hq;cases hq
    |some to2=>rw[hs]at hp;rw[hs2]at hq;cases hp;cases hq;exact .inr ⟨rfl,hxy⟩
  ·rw[(hrow _ _ x hx).1,(hrow _ _ y hy).1];exact hij
 ·obtain ⟨i, hi, he⟩ := List.mem_flatMap.1 he
  have hi:=List.mem_range.1 hi
  obtain⟨h4,_,h6⟩:=hrow _ _ e he
  exact⟨by rw[h4];exact hi,h6 (hget i hi)⟩
 ·obtain ⟨i, hi, he⟩ := List.mem_flatMap.1 he
  exact(hrow _ _ e he).2.1
end Go.AM.SD
namespace Go.AM.SD
abbrev OE:=List Nat×List Ed
def sEd (i:Nat) (s:OE) (e:Ed):OE:=if s.1.contains e.2.2 then(s.1,s.2++[(i,e.2.1,idx s.1 e.2.2)])else(s.1++[e.2.2],s.2++[(i,e.2.1,s.1.length)])
def sOut (es:List Ed) (left:Nat->Bool) (v:Nat):List Ed:=es.filter fun e=>e.1==v&&left e.2.2
def sRow (es:List Ed) (left:Nat->Bool) (i v:Nat) (s:OE):OE:=(sOut es left v).foldl (sEd i) s
def sQ (es:List Ed) (left:Nat->Bool):Nat->Nat->OE->OE
 |0,_,s=>s
 |k+1,i,s=>match s.1[i]? with|some v=>sQ es left k (i+1) (sRow es left i v s)|none=>s
def sAll (a:Aut) (left:Nat->Bool):OE:=sQ a.es left (a.n+1) 0 (if decide (0<a.n)&&left 0 then[0]else[],[])
def restr (a:Aut) (left:Nat->Bool):Aut:=⟨a.al,(sAll a left).1.length,(List.range (sAll a left).1.length).filter fun i=>a.ms.contains ((sAll a left).1.getD i 0),(sAll a left).2⟩
theorem Qc2 {l t:List Nat} {x:Nat} (h:x∈l):idx (l++t) x=idx l x:=by
 unfold idx
 rw[List.findIdx_append,if_pos]
 exact QdL h
theorem QdM {l:List Nat} {x:Nat} (h:x∉l):idx (l++[x]) x=l.length:=by
 unfold idx
 rw[List.findIdx_append]
 have:¬List.findIdx (· ==x) l<l.length:=fun hl=>by
  have:=List.findIdx_getElem (p:=(· ==x)) (w:=hl)
  have e:l[List.findIdx (· ==x) l]=x:=by simpa using this
  exact h (e▸List.getElem_mem hl)
 rw[if_neg this];simp
theorem Qn8 {l:List Nat} (hn:l.Nodup) {i x:Nat} (h:l[i]?=some x):idx l x=i:=by
 have hm:=List.mem_of_getElem? h
 have h1:=QnA hm
 have hil:=(List.getElem?_eq_some_iff.1 h).1
 have:=QdL hm
 exact(List.getElem?_inj this hn).1 (h1.trans h.symm)
def num (o:List Nat) (i:Nat) (e:Ed):Ed:=(i,e.2.1,idx o e.2.2)
theorem Qdn {n : Nat} {left : Nat -> Bool} (i : Nat) : ∀ (es2 : List Ed) (s : OE), (∀ e ∈ es2, e.2.2 < n /\ left e.2.2 = true) -> FI n s.1 -> (∀ x ∈ s.1, left x = true) ->
    FI n (es2.foldl (sEd i) s).1/\(∀x∈(es2.foldl (sEd i) s).1,left x=true)/\(∃t,(es2.foldl (sEd i) s).1=s.1++t)/\(∀e∈es2,e.2.2∈(es2.foldl (sEd i) s).1)/\(es2.foldl (sEd i) s).2=s.2++es2.map (num (es2.foldl (sEd i) s).1 i):=by
  intro es2
  induction es2 with
  |nil=>intro s _ h hl;exact⟨h,hl,⟨[],by simp⟩,(fun e he=>by cases he),by simp⟩
  | cons e es2 ih =>
    intro s hes h hl
    rw[List.foldl_cons]
    obtain⟨he1,he2⟩:=hes e (by simp)
    by_cases hc:s.1.contains e.2.2=true
    · have e1 : sEd i s e = (s.1, s.2 ++ [(i, e.2.1, idx s.1 e.2.2)]) := if_pos hc
      have hm:e.2.2∈s.1:=by simpa using hc
      rw[e1]
      obtain⟨k1,k2,⟨t,k3⟩,k4,k5⟩:=ih (s.1,s.2++[(i,e.2.1,idx s.1 e.2.2)]) (fun x hx=>hes x (by simp[hx])) h hl
      refine⟨k1,k2,⟨t,k3⟩,fun x hx=>?_,?_⟩
      · rcases List.mem_cons.1 hx with rfl | hx
        · rw[k3];exact List.mem_append_left _ hm
        · exact k4 x hx
      · rw [k5, List.map_cons]
        have:num (es2.foldl (sEd i) (s.1,s.2++[(i,e.2.1,idx s.1 e.2.2)])).1 i e=(i,e.2.1,idx s.1 e.2.2):=by
          unfold num;rw[k3,Qc2 hm]
        rw[this];simp
    · have e1 : sEd i s e = (s.1 ++ [e.2.2], s.2 ++ [(i, e.2.1, s.1.length)]) := if_neg hc
      have hm:e.2.2∉s.1:=by simpa using hc
      rw[e1]
      obtain⟨k1,k2,⟨t,k3⟩,k4,k5⟩:=ih (s.1++[e.2.2],s.2++[(i,e.2.1,s.1.length)]) (fun x hx=>hes x (by simp[hx]))
        ⟨by
          rw[List.nodup_append]
          refine⟨h.nd,by simp,fun a ha b hb e=>?_⟩
          simp only[List.mem_singleton]at hb
          subst hb;subst e;exact hm ha,fun x hx=>by
          rcases List.mem_append.1 hx with hx|hx
          · exact h.lt x hx
          · simp at hx;subst hx;exact he1⟩
        (fun x hx=>by
          rcases List.mem_append.1 hx with hx|hx
          · exact hl x hx
          · simp at hx;subst hx;exact he2)
      have k3:(es2.foldl (sEd i) (s.1++[e.2.2],s.2++[(i,e.2.1,s.1.length)])).1=(s.1++[e.2.2])++t:=k3
      refine⟨k1,k2,⟨[e.2.2]++t,by rw[k3,List.append_assoc]⟩,fun x hx=>?_,?_⟩
      · rcases List.mem_cons.1 hx with rfl | hx
        · rw[k3];simp
        · exact k4 x hx
      · rw [k5, List.map_cons]
        have:num (es2.foldl (sEd i) (s.1++[e.2.2],s.2++[(i,e.2.1,s.1.length)])).1 i e=(i,e.2.1,s.1.length):=by
          unfold num;rw[k3,Qc2 (by simp),QdM hm]
        rw[this];simp
structure SI (n:Nat) (es:List Ed) (left:Nat->Bool) (i:Nat) (s:OE):Prop where
 fi:FI n s.1
 lft:∀x∈s.1,left x=true
 le:i<=s.1.length
 cl:∀j v,j<i->s.1[j]?=some v->∀e∈sOut es left v,e.2.2∈s.1
 ed:s.2=(List.range i).flatMap fun j=>(sOut es left (s.1.getD j 0)).map (num s.1 j)
theorem QaO {es:List Ed} {left:Nat->Bool} {v:Nat} {e:Ed}:e∈sOut es left v↔e∈es/\e.1=v/\left e.2.2=true:=by
 unfold sOut;rw[List.mem_filter];simp
theorem SI.step {n : Nat} {es : List Ed} {left : Nat -> Bool} (hn : ∀ e ∈ es, e.1 < n /\ e.2.2 < n) {i v : Nat} {s : OE} (h : SI n es left i s) (hv : s.1[i]? = some v) : SI n es left (i + 1) (sRow es left i v s) := by
  obtain⟨k1,k2,⟨t,k3⟩,k4,k5⟩:=Qdn i (sOut es left v) s (fun e he=>⟨(hn e (QaO.1 he).1).2,(QaO.1 he).2.2⟩) h.fi h.lft
  have hil:i<s.1.length:=(List.getElem?_eq_some_iff.1 hv).1
  have k3:(sRow es left i v s).1=s.1++t:=k3
  have hget:∀j,j<s.1.length->(sRow es left i v s).1.getD j 0=s.1.getD j 0:=fun j hj=>by
    rw[k3,List.getD_eq_getElem?_getD,List.getD_eq_getElem?_getD,List.getElem?_append_left hj]
  refine⟨k1,k2,by rw[k3,List.length_append];omega,fun j u hj hu e he=>?_,?_⟩
  · rw [k3, List.getElem?_append_left (by omega)] at hu
    by_cases hji:j<i
    · rw[k3];exact List.mem_append_left _ (h.cl j u hji hu e he)
    · have : j = i := by omega
      subst this
      rw[hv]at hu;cases hu
      exact k4 e he
  · show (sRow es left i v s).2 = _
    have k5:(sRow es left i v s).2=s.2++(sOut es left v).map (num (sRow es left i v s).1 i):=k5
    rw[k5,h.ed,List.range_succ,List.flatMap_append]
    congr 1
    · have : ∀ j ∈ List.range i, (sOut es left (s.1.getD j 0)).map (num s.1 j) = (sOut es left ((sRow es left i v s).1.getD j 0)).map (num (sRow es left i v s).1 j) := fun j hj => by
        have hj:=List.mem_range.1 hj
        rw[hget j (by omega)]
        have hjg:s.1[j]?=some (s.1.getD j 0):=by
          rw[List.getD_eq_getElem?_getD,List.getElem?_eq_getElem (by omega)];rfl
        refine List.map_congr_left fun e he=>?_
        unfold num
        rw[k3,Qc2 (h.cl j _ hj hjg e he)]
      rw[List.flatMap_def,List.flatMap_def,List.map_congr_left this]
    · have : (sRow es left i v s).1.getD i 0 = v := by rw [hget i hil, List.getD_eq_getElem?_getD, hv]; rfl
      simp only[List.flatMap_cons,List.flatMap_nil,List.append_nil,this]
theorem sQ_ok {n:Nat} {es:List Ed} {left:Nat->Bool} (hn:∀e∈es,e.1<n/\e.2.2<n):∀(k i:Nat) (s:OE),SI n es left i s->n<k+i->SI n es left (sQ es left k i s).1.length (sQ es left k i s)/\∃t,(sQ es left k i s).1=s.1++t:=by
 intro k
 induction k with
 |zero=>intro i s h hk;have:=h.fi.len;have:=h.le;omega
 | succ k ih =>
  intro i s h hk
  unfold sQ
  cases hv:s.1[i]? with
  |some v=>
   obtain⟨h1,t,h2⟩:=ih (i+1) _ (h.step hn hv) (by omega)
   obtain⟨_,_,⟨t0,k3⟩,_,_⟩:=Qdn i (sOut es left v) s (fun e he=>⟨(hn e (QaO.1 he).1).2,(QaO.1 he).2.2⟩) h.fi h.lft
   have k3:(sRow es left i v s).1=s.1++t0:=k3
   exact⟨h1,t0++t,by rw[h2,k3,List.append_assoc]⟩
  |none=>
   have:s.1.length=i:=by have:=List.getElem?_eq_none_iff.1 hv;have:=h.le;omega
   dsimp only
   rw[this];exact⟨h,[],by simp⟩
theorem QeO {a:Aut} {left:Nat->Bool} (h:WfA a):SI a.n a.es left (sAll a left).1.length (sAll a left)/\∃t,(sAll a left).1=(if decide (0<a.n)&&left 0 then[0]else[])++t:=by
 refine sQ_ok h.esn (a.n+1) 0 _ ?_ (by omega)
 refine⟨?_,fun x hx=>?_,Nat.zero_le _,fun j v hj=>by omega,by simp⟩
 ·split
  ·rename_i hc
   simp only[Bool.and_eq_true,decide_eq_true_eq]at hc
   exact⟨by simp,fun x hx=>by simp at hx;omega⟩
  ·exact⟨by simp,fun x hx=>by cases hx⟩
 ·dsimp only at hx
  split at hx
  ·rename_i hc
   simp only[Bool.and_eq_true]at hc
   simp at hx;subst hx;exact hc.2
  ·cases hx
theorem QmT {a:Aut} {left:Nat->Bool} (h:WfA a):WfA (restr a left):=by
 obtain⟨hs,_⟩:=QeO (left:=left) h
 have hmem:∀(j:Nat) (e:Ed),j<(sAll a left).1.length->e∈(sOut a.es left ((sAll a left).1.getD j 0)).map (num (sAll a left).1 j)->∃e'∈a.es,e'.1=(sAll a left).1.getD j 0/\e=(j,e'.2.1,idx (sAll a left).1 e'.2.2)/\e'.2.2∈(sAll a left).1:=by
  intro j e hj he
  obtain⟨e',he',rfl⟩:=List.mem_map.1 he
  have hjg:(sAll a left).1[j]?=some ((sAll a left).1.getD j 0):=by
   rw[List.getD_eq_getElem?_getD,List.getElem?_eq_getElem hj];rfl
  exact⟨e',(QaO.1 he').1,(QaO.1 he').2.1,rfl,hs.cl j _ hj hjg e' he'⟩
 refine⟨h.al,h.al5,Nat.le_trans hs.fi.len h.n5,List.pairwise_lt_range.filter _,fun x hx=>List.mem_range.1 (List.mem_filter.1 hx).1,?_,fun e he=>?_,fun e he=>?_⟩
 ·show (sAll a left).2.Pairwise _
  rw[hs.ed]
  refine QbZ (fun j hj=>?_) (List.pairwise_lt_range.imp_of_mem fun{i j} hi hj hij x hx y hy=> .inl ?_)
  ·rw [List.pairwise_map]
   have:(sOut a.es left ((sAll a left).1.getD j 0)).Pairwise fun x y=>x.1<y.1\/(x.1=y.1/\x.2.1<y.2.1):=h.es.filter _
   refine this.imp_of_mem fun{x y} hx hy hxy=> .inr ⟨rfl,?_⟩
   have h1:=(QaO.1 hx).2.1
   have h2:=(QaO.1 hy).2.1
   show x.2.1<y.2.1
   omega
  ·obtain ⟨_, _, _, e1, _⟩ := hmem i x (List.mem_range.1 hi) hx
   obtain⟨_,_,_,e2,_⟩:=hmem j y (List.mem_range.1 hj) hy
   rw[e1,e2];exact hij
 ·have he : e ∈ (sAll a left).2 := he
  rw[hs.ed]at he
  obtain⟨j,hj,he⟩:=List.mem_flatMap.1 he
  obtain⟨e',_,_,e1,e2⟩:=hmem j e (List.mem_range.1 hj) he
  rw[e1];exact⟨List.mem_range.1 hj,QdL e2⟩
 ·have he : e ∈ (sAll a left).2 := he
  rw[hs.ed]at he
  obtain⟨j,hj,he⟩:=List.mem_flatMap.1 he
  obtain⟨e',h3,_,e1,e2⟩:=hmem j e (List.mem_range.1 hj) he
  rw[e1];exact h.ev e' h3
theorem QnB {o:List Nat} (ho:o.Nodup) (i:Nat):∀(es2:List Ed) (s:OE) (t:List Nat),(es2.foldl (sEd i) s).1++t=o->(∃t',s.1++t'=o)->
  (es2.map (num o i)).foldl (sEd i) (List.range s.1.length,s.2)=(List.range (es2.foldl (sEd i) s).1.length,(es2.foldl (sEd i) s).2):=by
 intro es2
 induction es2 with
 |nil=>intro s t _ _;rfl
 | cons e es2 ih =>
  intro s t ht hs
  rw[List.foldl_cons]at ht
  rw[List.map_cons,List.foldl_cons,List.foldl_cons]
  obtain⟨t',hs⟩:=hs
  have hpre:∀(es2:List Ed) (s:OE),∃u,(es2.foldl (sEd i) s).1=s.1++u:=by
   intro es2
   induction es2 with
   |nil=>intro s;exact⟨[],by simp⟩
   |cons e es2 ih=>
    intro s
    rw[List.foldl_cons]
    obtain⟨u,hu⟩:=ih (sEd i s e)
    rw[hu]
    unfold sEd
    split
    ·exact⟨u,rfl⟩
    ·exact⟨[e.2.2]++u,by rw[<-List.append_assoc]⟩
  by_cases hc:s.1.contains e.2.2=true
  ·have e1 : sEd i s e = (s.1, s.2 ++ [(i, e.2.1, idx s.1 e.2.2)]) := if_pos hc
   have hm:e.2.2∈s.1:=by simpa using hc
   have hidx:idx o e.2.2=idx s.1 e.2.2:=by rw[<-hs];exact Qc2 hm
   have e2:sEd i (List.range s.1.length,s.2) (num o i e)=(List.range s.1.length,s.2++[(i,e.2.1,idx s.1 e.2.2)]):=by
    have hlt:idx o e.2.2<s.1.length:=by rw[hidx];exact QdL hm
    unfold sEd num
    rw[if_pos (by simpa using hlt)]
    have:idx (List.range s.1.length) (idx o e.2.2)=idx o e.2.2:=Qn8 List.nodup_range (List.getElem?_range hlt)
    rw[hidx]at this⊢
    simp only[this]
   rw[e1]at ht⊢
   rw[e2]
   exact ih (s.1,_) t ht ⟨t',hs⟩
  ·have e1 : sEd i s e = (s.1 ++ [e.2.2], s.2 ++ [(i, e.2.1, s.1.length)]) := if_neg hc
   have hm:e.2.2∉s.1:=by simpa using hc
   rw[e1]at ht⊢
   obtain⟨u,hu⟩:=hpre es2 (s.1++[e.2.2],s.2++[(i,e.2.1,s.1.length)])
   have ho2:o=(s.1++[e.2.2])++(u++t):=by rw[<-ht,hu,List.append_assoc]
   have hidx:idx o e.2.2=s.1.length:=by rw[ho2,Qc2 (by simp),QdM hm]
   have e2:sEd i (List.range s.1.length,s.2) (num o i e)=(List.range (s.1++[e.2.2]).length,s.2++[(i,e.2.1,s.1.length)]):=by
    unfold sEd num
    rw[if_neg (by rw[hidx];simp)]
    simp only[hidx,List.length_append,List.length_singleton,List.range_succ,List.length_range]
   rw[e2]
   exact ih (s.1++[e.2.2],_) t ht ⟨u++t,ho2.symm⟩
theorem Qn9 {n:Nat} {es es':List Ed} {left:Nat->Bool} {o:List Nat} (ho:o.Nodup) (hn:∀e∈es,e.1<n/\e.2.2<n) (hout:∀i v,o[i]?=some v->sOut es' (fun _=>true) i=(sOut es left v).map (num o i)):∀(k i:Nat) (s:OE) (k':Nat),SI n es left i s->n<k+i->n<k'+i->(sQ es left k i s).1=o->
  sQ es' (fun _=>true) k' i (List.range s.1.length,s.2)=(List.range o.length,(sQ es left k i s).2):=by
 intro k
 induction k with
 |zero=>intro i s k' h hk _ _;have:=h.fi.len;have:=h.le;omega
 | succ k ih =>
  intro i s k' h hk hk' hq
  cases k' with
  |zero=>have:=h.fi.len;have:=h.le;omega
  | succ k' =>
   unfold sQ at hq⊢
   cases hv:s.1[i]? with
   |none=>
    have hil:s.1.length<=i:=List.getElem?_eq_none_iff.1 hv
    rw[hv]at hq
    have hq:s.1=o:=hq
    have:(List.range s.1.length)[i]?=none:=List.getElem?_eq_none (by simpa using hil)
    dsimp only
    rw[this,hq]
   | some v =>
    have hil:i<s.1.length:=(List.getElem?_eq_some_iff.1 hv).1
    rw[hv]at hq
    have hq:(sQ es left k (i+1) (sRow es left i v s)).1=o:=hq
    have:(List.range s.1.length)[i]?=some i:=List.getElem?_range hil
    dsimp only
    rw[this]
    dsimp only
    have hstep:=h.step hn hv
    obtain⟨_,t,h2⟩:=sQ_ok hn k (i+1) _ hstep (by omega)
    rw[hq]at h2
    obtain⟨_,_,⟨t0,k3⟩,_,_⟩:=Qdn i (sOut es left v) s (fun e he=>⟨(hn e (QaO.1 he).1).2,(QaO.1 he).2.2⟩) h.fi h.lft
    have k3:(sRow es left i v s).1=s.1++t0:=k3
    have hov:o[i]?=some v:=by
     rw[h2,k3,List.append_assoc,List.getElem?_append_left hil];exact hv
    have hrow:sRow es' (fun _=>true) i i (List.range s.1.length,s.2)=(List.range (sRow es left i v s).1.length,(sRow es left i v s).2):=by
     unfold sRow
     rw[hout i v hov]
     exact QnB ho i _ s t h2.symm ⟨t0++t,by rw[h2,k3,List.append_assoc]⟩
    rw[hrow]
    exact ih (i+1) _ k' hstep (by omega) (by omega) hq
theorem QkY {a : Aut} {left : Nat -> Bool} (h : WfA a) {i v : Nat} (hv : (sAll a left).1[i]? = some v) : sOut (restr a left).es (fun _ => true) i = (sOut a.es left v).map (num (sAll a left).1 i) := by
  obtain⟨hs,_⟩:=QeO (left:=left) h
  have hil:i<(sAll a left).1.length:=(List.getElem?_eq_some_iff.1 hv).1
  show(sAll a left).2.filter _=_
  rw[hs.ed,List.filter_flatMap]
  have h1:∀j∈List.range (sAll a left).1.length,(((sOut a.es left ((sAll a left).1.getD j 0)).map (num (sAll a left).1 j)).filter fun e=>e.1==i&&true)=if j=i then(sOut a.es left v).map (num (sAll a left).1 i)else[]:=by
    intro j _
    by_cases e:j=i
    · subst e
      rw[if_pos rfl,List.getD_eq_getElem?_getD,hv]
      refine List.filter_eq_self.2 fun x hx=>?_
      obtain⟨y,_,rfl⟩:=List.mem_map.1 hx
      simp[num]
    · rw [if_neg e]
      refine List.filter_eq_nil_iff.2 fun x hx=>?_
      obtain⟨y,_,rfl⟩:=List.mem_map.1 hx
      simp[num,e]
  rw[List.flatMap_def,List.map_congr_left h1,<-List.flatMap_def]
  have key:∀(l:List Nat) (X:List Ed),l.Nodup->(l.flatMap fun j=>if j=i then X else[])=if i∈l then X else[]:=by
    intro l X
    induction l with
    |nil=>intro _;rfl
    | cons j l ih =>
      intro hn
      rw[List.nodup_cons]at hn
      rw[List.flatMap_cons,ih hn.2]
      by_cases e:j=i
      · subst e;simp[hn.1]
      · have : (i ∈ j :: l) = (i ∈ l) := by rw [List.mem_cons]; exact propext ⟨fun h => h.resolve_left (fun h => e h.symm), .inr⟩
        simp only[if_neg e,List.nil_append,this]
  rw[key _ _ List.nodup_range,if_pos (List.mem_range.2 hil)]
theorem QkZ {a:Aut} {left:Nat->Bool} (h:WfA a):sAll (restr a left) (fun _=>true)=(List.range (restr a left).n,(restr a left).es):=by
 obtain⟨hs,t,ht⟩:=QeO (left:=left) h
 have h0:SI a.n a.es left 0 ((if decide (0<a.n)&&left 0 then[0]else[],[]):OE):=by
  refine⟨?_,fun x hx=>?_,Nat.zero_le _,fun j v hj=>by omega,by simp⟩
  ·split
   ·rename_i hc
    simp only[Bool.and_eq_true,decide_eq_true_eq]at hc
    exact⟨by simp,fun x hx=>by simp at hx;omega⟩
   ·exact⟨by simp,fun x hx=>by cases hx⟩
  ·dsimp only at hx
   split at hx
   ·rename_i hc
    simp only[Bool.and_eq_true]at hc
    simp at hx;subst hx;exact hc.2
   ·cases hx
 have hn:(restr a left).n<=a.n:=hs.fi.len
 by_cases hc:(decide (0<a.n)&&left 0)=true
 ·rw [if_pos hc] at h0 ht
  have e0:sAll a left=sQ a.es left (a.n+1) 0 ([0],[]):=by unfold sAll;rw[if_pos hc]
  have hpos:0<(restr a left).n:=by show 0<(sAll a left).1.length;rw[ht];simp
  have e1:sAll (restr a left) (fun _=>true)=sQ (restr a left).es (fun _=>true) ((restr a left).n+1) 0 (List.range ([0]:List Nat).length,[]):=by
   unfold sAll;rw[if_pos (by simpa using hpos)];rfl
  rw[e1]
  have big:∀(es:List Ed) (left:Nat->Bool) (k i:Nat) (s:OE) (m:Nat),SI m es left i s->(∀e∈es,e.1<m/\e.2.2<m)->m<k+i->∀k',k<=k'->sQ es left k i s=sQ es left k' i s:=by
   intro es left k
   induction k with
   |zero=>intro i s m h _ hk;have:=h.fi.len;have:=h.le;omega
   | succ k ih =>
    intro i s m h hm hk k' hkk
    cases k' with
    |zero=>omega
    |succ k'=>
     unfold sQ
     cases hv:s.1[i]? with
     |none=>rfl
     |some v=>exact ih (i+1) _ m (h.step hm hv) hm (by omega) k' (by omega)
  have hwf:=QmT (left:=left) h
  have hb0:SI (restr a left).n (restr a left).es (fun _=>true) 0 ((List.range ([0]:List Nat).length,[]):OE):=
   ⟨⟨List.nodup_range,fun x hx=>by have:=List.mem_range.1 hx;simp at this;omega⟩,fun _ _=>rfl,Nat.zero_le _,fun j v hj=>by omega,by simp⟩
  rw[big _ _ ((restr a left).n+1) 0 _ (restr a left).n hb0 hwf.esn (by omega) (a.n+1) (by omega)]
  have:=Qn9 (n:=a.n) (es:=a.es) (es':=(restr a left).es) (left:=left) (o:=(sAll a left).1) hs.fi.nd h.esn (fun i v hv=>QkY h hv) (a.n+1) 0 ([0],[]) (a.n+1) h0 (by omega) (by omega) (by rw[e0])
  rw[this]
  show _=(List.range (sAll a left).1.length,(sAll a left).2)
  rw[e0]
 ·have e0 : sAll a left = ([], []) := by
   unfold sAll;rw[if_neg hc];unfold sQ;rfl
  have:(restr a left).n=0:=by show(sAll a left).1.length=0;rw[e0];rfl
  have e2:(restr a left).es=[]:=by show(sAll a left).2=[];rw[e0]
  unfold sAll
  rw[this,e2,if_neg (by simp)]
  unfold sQ;rfl
theorem QjC {a:Aut} {left:Nat->Bool} (h:WfA a):restr (restr a left) (fun _=>true)=restr a left:=by
 have h1:=QkZ (left:=left) h
 have hl:(sAll (restr a left) fun _=>true).1.length=(restr a left).n:=by rw[h1];simp
 have e:∀(A B:Aut),A.al=B.al->A.n=B.n->A.ms=B.ms->A.es=B.es->A=B:=fun A B h1 h2 h3 h4=>by cases A;cases B;simp_all
 refine e _ _ rfl hl ?_ (by show(sAll (restr a left) fun _=>true).2=_;rw[h1])
 show(List.range (sAll (restr a left) fun _=>true).1.length).filter _=_
 rw[hl,h1]
 have hms:(restr a left).ms=(List.range (restr a left).n).filter fun i=>a.ms.contains ((sAll a left).1.getD i 0):=rfl
 have:∀i∈List.range (restr a left).n,(restr a left).ms.contains ((List.range (restr a left).n).getD i 0)=a.ms.contains ((sAll a left).1.getD i 0):=fun i hi=>by
  have hi':=List.mem_range.1 hi
  have e1:(List.range (restr a left).n).getD i 0=i:=by rw[List.getD_eq_getElem?_getD,List.getElem?_range hi'];rfl
  rw[e1,Bool.eq_iff_iff,List.contains_iff_mem,hms,List.mem_filter]
  exact⟨fun h=>h.2,fun h=>⟨hi,h⟩⟩
 rw[List.filter_congr this,hms]
end Go.AM.SD
namespace Go.AM.SD
end Go.AM.SD
namespace Go.AM.SD
def part (n bits:Nat):List Nat:=(List.range n).filter fun i=>bits.testBit i
theorem QiK {n bits x:Nat}:x∈part n bits↔x<n/\bits.testBit x=true:=by simp[part]
theorem QcG (n bits:Nat):(part n bits).Pairwise (· < ·):=List.pairwise_lt_range.filter _
end Go.AM.SD
