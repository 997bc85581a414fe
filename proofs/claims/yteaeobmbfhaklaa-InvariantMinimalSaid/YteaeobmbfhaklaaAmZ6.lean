/- A part of the proof of InvariantMinimal: lemmas on the way (AmMx, AmNx, AmO, AmOa, AmP, AmQ, AmQa, AmQb, AmQc, AmQd, AmQw, AmNu, AmNv, AmNw, AmNy). Conditions: none of ours. -/
import Derived.Test.YteaeobmbfhaklaaProg
import Derived.KernelRfl
import Derived.Test.YteaeobmbfhaklaaAmZ5
set_option linter.unusedSectionVars false
set_option maxRecDepth 100000
namespace Go.AM.SK
open Go.Proofs
def s61 : SFn := ⟨216, [.tmp 4, .tmp 5],
 (.seq (.region [⟨(some 2), .box .dyn (.t 0), [], none⟩,
 ⟨(some 4), .mov (.c .nilsl), [], none⟩,
 ⟨(some 5), .mov (.c (.bool false)), [1], none⟩] [] [0, 4, 5])
 (.seq (.region [⟨(some 27), .faddr 1 (.t 2), [], none⟩,
 ⟨(some 28), .load none (.t 27), [0], none⟩,
 ⟨(some 29), .len 1 (.t 28), [1], none⟩,
 ⟨(some 30), .mkslice .dyn 10 80 [(.int .i64 0), (.int .i64 0), (.int .i64 0), (.int .i64 0), (.int .i64 0), (.int .i64 0), (.int .i64 0), (.int .i64 0), (.int .i64 0), (.int .i64 0)] (.c (.int .i64 0)) (.t 29), [2], none⟩,
 ⟨(some 6), .mov (.t 30), [3, 0, 1, 2, 3], none⟩] [] [27, 28, 29, 30])
 (.seq (.seq (.region [⟨(some 31), .faddr 1 (.t 2), [], none⟩,
 ⟨(some 32), .load none (.t 31), [0], none⟩,
 ⟨(some 33), .len 1 (.t 32), [1], none⟩,
 ⟨(some 34), .mov (.c (.int .i64 0)), [], none⟩] [] [2, 31])
 (.block 0 (.loop (.seq (.region [⟨(some 35), .bin .lss (.t 34) (.t 33), [], none⟩] [] [])
 (.seq (.cond (.t 35)
 .skip
 (.exit 0))
 (.seq (.block 1 (.seq (.region [⟨(some 36), .iaddr none 10 (.t 32) (.t 34), [], none⟩,
 ⟨(some 37), .load (some 10) (.t 36), [0], none⟩,
 ⟨(some 8), .alloc .dyn (.agg [(.int .i64 0), (.int .i64 0), (.int .i64 0), (.int .i64 0), (.int .i64 0), (.int .i64 0), (.int .i64 0), (.int .i64 0), (.int .i64 0), (.int .i64 0)]), [], none⟩,
 ⟨none, .store 10 (.t 8) (.t 37), [2, 1, 0, 1, 2], none⟩] [] [35, 36, 37])
 (.seq (.region [⟨(some 9), .alloc .dyn (.agg [(.int .i64 0), (.int .i64 0), (.int .i64 0), (.int .i64 0), (.int .i64 0), (.int .i64 0), (.int .i64 0), (.int .i64 0), (.int .i64 0), (.int .i64 0)]), [], none⟩] [] [])
 (.seq (.seq (.region [⟨(some 38), .mov (.t 1), [], none⟩,
 ⟨(some 39), .len 1 (.t 38), [0], none⟩,
 ⟨(some 40), .mov (.c (.int .i64 0)), [], none⟩] [] [])
 (.block 2 (.loop (.seq (.region [⟨(some 41), .bin .lss (.t 40) (.t 39), [], none⟩] [] [])
 (.seq (.cond (.t 41)
 .skip
 (.exit 2))
 (.seq (.block 3 (.seq (.region [⟨(some 42), .mov (.t 40), [], none⟩,
 ⟨(some 43), .iaddr none 1 (.t 38) (.t 40), [], none⟩,
 ⟨(some 44), .load none (.t 43), [1], none⟩,
 ⟨(some 10), .mov (.t 42), [0, 0, 1, 2], none⟩,
 ⟨(some 11), .mov (.t 44), [2, 3, 0, 1, 2, 3], none⟩] [] [41, 42, 43, 44])
 (.region [⟨(some 45), .mov (.t 10), [], none⟩,
 ⟨(some 46), .mov (.t 11), [], none⟩,
 ⟨(some 47), .iaddr (some 10) 1 (.t 8) (.t 46), [1], none⟩,
 ⟨(some 48), .load none (.t 47), [2], none⟩,
 ⟨(some 49), .iaddr (some 10) 1 (.t 9) (.t 45), [0, 0, 1, 2, 3], none⟩,
 ⟨none, .store 1 (.t 49) (.t 48), [4, 3, 0, 1, 2, 3], none⟩] [] [10, 11, 45, 46, 47, 48, 49])))
 (.region [⟨(some 50), .bin .add (.t 40) (.c (.int .i64 1)), [], none⟩,
 ⟨(some 40), .mov (.t 50), [0], none⟩] [] [50])))))))
 (.seq (.region [⟨(some 51), .load (some 10) (.t 9), [], none⟩,
 ⟨(some 52), .build [(.int .i64 0), (.int .i64 0), (.int .i64 0), (.int .i64 0), (.int .i64 0), (.int .i64 0), (.int .i64 0), (.int .i64 0), (.int .i64 0), (.int .i64 0)] [], [], none⟩,
 ⟨(some 53), .eq (.flat true [.i, .i, .i, .i, .i, .i, .i, .i, .i, .i]) true (.t 51) (.t 52), [0, 1], none⟩] [] [8, 38, 39, 40, 51, 52])
 (.cond (.t 53)
 (.region [⟨(some 54), .mov (.t 6), [], none⟩,
 ⟨(some 55), .load (some 10) (.t 9), [], none⟩,
 ⟨(some 56), .bslice false .dyn 10 1 [(.int .i64 0), (.int .i64 0), (.int .i64 0), (.int .i64 0), (.int .i64 0), (.int .i64 0), (.int .i64 0), (.int .i64 0), (.int .i64 0), (.int .i64 0)] [(0, 10, (.t 55))], [1], none⟩,
 ⟨(some 57), .append .dyn 10 80 (.t 54) (.t 56), [0, 2], none⟩,
 ⟨(some 6), .mov (.t 57), [3, 3, 0, 1, 2, 3], none⟩] [] [9, 53, 54, 55, 56, 57])
 .skip))))))
 (.region [⟨(some 58), .bin .add (.t 34) (.c (.int .i64 1)), [], none⟩,
 ⟨(some 34), .mov (.t 58), [0], none⟩] [] [9, 53, 58])))))))
 (.seq (.region [⟨(some 12), .mov (.c (.int .i64 0)), [], none⟩] [] [32, 33, 34])
 (.seq (.region [⟨(some 13), .mov (.c (.int .i64 1)), [], none⟩] [] [])
 (.seq (.region [⟨(some 14), .mov (.c (.int .i64 (-1))), [], none⟩] [] [])
 (.seq (.region [⟨(some 15), .alloc .dyn (.agg [(.int .i64 0), (.int .i64 0), (.int .i64 0), (.int .i64 0), (.int .i64 0), (.int .i64 0), (.int .i64 0), (.int .i64 0), (.int .i64 0), (.int .i64 0)]), [], none⟩] [] [])
 (.seq (.seq (.region [⟨(some 59), .mov (.t 1), [], none⟩,
 ⟨(some 60), .len 1 (.t 59), [0], none⟩,
 ⟨(some 61), .mov (.c (.int .i64 0)), [], none⟩] [] [59])
 (.block 4 (.loop (.seq (.region [⟨(some 62), .bin .lss (.t 61) (.t 60), [], none⟩] [] [])
 (.seq (.cond (.t 62)
 .skip
 (.exit 4))
 (.seq (.block 5 (.seq (.region [⟨(some 63), .mov (.t 61), [], none⟩,
 ⟨(some 16), .alloc .dyn (.int .i64 0), [], none⟩,
 ⟨none, .store 1 (.t 16) (.t 63), [1, 0, 0, 1], none⟩] [] [62, 63])
 (.seq (.region [⟨(some 64), .mov (.t 6), [], none⟩,
 ⟨(some 65), .mov (.t 12), [], none⟩,
 ⟨(some 66), .slice (some 10) (.t 64) (some (.t 65)) none none, [0, 1], none⟩,
 ⟨(some 67), .mkfn 71 [] [(.t 16)], [], none⟩,
 ⟨(some 68), .call .heap (.f 70) [(.t 66), (.t 67)], [2, 3], none⟩,
 ⟨(some 17), .mov (.t 68), [4, 4, 0, 1, 2, 3, 4], none⟩] [] [64, 65, 66, 67, 68])
 (.seq (.seq (.region [⟨(some 69), .mov (.t 17), [], none⟩,
 ⟨(some 70), .bin .lss (.t 69) (.c (.int .i64 0)), [0], none⟩] [] [69])
 (.cond (.t 70)
 (.seq (.seq (.region [⟨(some 71), .mov (.t 14), [], none⟩,
 ⟨(some 72), .bin .geq (.t 71) (.c (.int .i64 0)), [0], none⟩] [] [14, 17, 70, 71])
 (.cond (.t 72)
 (.seq (.region [⟨(some 4), .mov (.c .nilsl), [], none⟩,
 ⟨(some 5), .mov (.c (.bool false)), [0, 0], none⟩] [] [1, 6, 12, 13, 15, 60, 61, 16, 72])
 .ret)
 .skip))
 (.seq (.region [⟨(some 73), .load none (.t 16), [], none⟩,
 ⟨(some 14), .mov (.t 73), [0, 0], none⟩] [] [4, 5, 16, 72, 73])
 (.exit 5)))
 .skip))
 (.seq (.region [⟨(some 74), .mov (.t 6), [], none⟩,
 ⟨(some 75), .mov (.t 12), [], none⟩,
 ⟨(some 76), .mov (.t 6), [], none⟩,
 ⟨(some 77), .mov (.t 12), [], none⟩,
 ⟨(some 78), .mov (.t 17), [], none⟩,
 ⟨(some 79), .bin .add (.t 77) (.t 78), [3, 4], none⟩,
 ⟨(some 80), .mov (.t 6), [], none⟩,
 ⟨(some 81), .mov (.t 12), [], none⟩,
 ⟨(some 82), .mov (.t 17), [], none⟩,
 ⟨(some 83), .bin .add (.t 81) (.t 82), [7, 8], none⟩,
 ⟨(some 84), .iaddr none 10 (.t 80) (.t 83), [6, 9], none⟩,
 ⟨(some 85), .load (some 10) (.t 84), [10], none⟩,
 ⟨(some 86), .mov (.t 6), [], none⟩,
 ⟨(some 87), .mov (.t 12), [], none⟩,
 ⟨(some 88), .iaddr none 10 (.t 86) (.t 87), [12, 13], none⟩,
 ⟨(some 89), .load (some 10) (.t 88), [14], none⟩,
 ⟨(some 90), .iaddr none 10 (.t 74) (.t 75), [0, 1, 0, 1, 6, 7, 8, 9, 10, 11, 15], none⟩,
 ⟨none, .store 10 (.t 90) (.t 85), [16, 11, 0, 1, 6, 7, 8, 9, 10, 11, 15], none⟩,
 ⟨(some 91), .iaddr none 10 (.t 76) (.t 79), [2, 5, 0, 1, 2, 3, 4, 5, 6, 7, 8, 9, 10, 11, 12, 13, 14, 15, 16, 17], none⟩,
 ⟨none, .store 10 (.t 91) (.t 89), [18, 15, 17, 0, 1, 2, 3, 4, 5, 6, 7, 8, 9, 10, 11, 12, 13, 14, 15, 16, 17], none⟩] [] [17, 70, 74, 75, 76, 77, 78, 79, 80, 81, 82, 83, 84, 85, 86, 87, 88, 89, 90, 91])
 (.seq (.region [⟨(some 92), .mov (.t 6), [], none⟩,
 ⟨(some 93), .mov (.t 12), [], none⟩,
 ⟨(some 94), .iaddr none 10 (.t 92) (.t 93), [0, 1], none⟩,
 ⟨(some 95), .load (some 10) (.t 94), [2], none⟩,
 ⟨(some 18), .alloc .dyn (.agg [(.int .i64 0), (.int .i64 0), (.int .i64 0), (.int .i64 0), (.int .i64 0), (.int .i64 0), (.int .i64 0), (.int .i64 0), (.int .i64 0), (.int .i64 0)]), [], none⟩,
 ⟨none, .store 10 (.t 18) (.t 95), [4, 3, 0, 1, 2, 3, 4], none⟩] [] [92, 93, 94, 95])
 (.seq (.seq (.region [⟨(some 96), .mov (.t 6), [], none⟩,
 ⟨(some 97), .len 1 (.t 96), [0], none⟩,
 ⟨(some 98), .mov (.c (.int .i64 0)), [], none⟩] [] [96])
 (.block 6 (.loop (.seq (.region [⟨(some 99), .bin .lss (.t 98) (.t 97), [], none⟩] [] [])
 (.seq (.cond (.t 99)
 .skip
 (.exit 6))
 (.seq (.block 7 (.seq (.region [⟨(some 100), .mov (.t 98), [], none⟩,
 ⟨(some 19), .mov (.t 100), [0, 0], none⟩] [] [99, 100])
 (.seq (.seq (.region [⟨(some 101), .mov (.t 19), [], none⟩,
 ⟨(some 102), .mov (.t 12), [], none⟩,
 ⟨(some 103), .bin .eql (.t 101) (.t 102), [0, 1], none⟩] [] [101, 102])
 (.cond (.t 103)
 (.exit 7)
 .skip))
 (.seq (.region [⟨(some 104), .mov (.t 6), [], none⟩,
 ⟨(some 105), .mov (.t 19), [], none⟩,
 ⟨(some 106), .load none (.t 16), [], none⟩,
 ⟨(some 107), .iaddr none 10 (.t 104) (.t 105), [0, 1], none⟩,
 ⟨(some 108), .iaddr (some 10) 1 (.t 107) (.t 106), [3, 2], none⟩,
 ⟨(some 109), .load none (.t 108), [4], none⟩,
 ⟨(some 20), .mov (.t 109), [5, 0, 1, 2, 3, 4, 5], none⟩] [] [103, 104, 105, 106, 107, 108, 109])
 (.seq (.region [⟨(some 110), .mov (.t 1), [], none⟩,
 ⟨(some 111), .len 1 (.t 110), [0], none⟩,
 ⟨(some 112), .mov (.c (.int .i64 0)), [], none⟩] [] [110])
 (.block 8 (.loop (.seq (.region [⟨(some 113), .bin .lss (.t 112) (.t 111), [], none⟩] [] [])
 (.seq (.cond (.t 113)
 .skip
 (.exit 8))
 (.seq (.block 9 (.seq (.region [⟨(some 114), .mov (.t 112), [], none⟩,
 ⟨(some 21), .mov (.t 114), [0, 0], none⟩] [] [113, 114])
 (.region [⟨(some 115), .mov (.t 6), [], none⟩,
 ⟨(some 116), .mov (.t 19), [], none⟩,
 ⟨(some 117), .mov (.t 21), [], none⟩,
 ⟨(some 118), .load none (.t 16), [], none⟩,
 ⟨(some 119), .iaddr (some 10) 1 (.t 18) (.t 118), [3], none⟩,
 ⟨(some 120), .load none (.t 119), [4], none⟩,
 ⟨(some 121), .mov (.t 6), [], none⟩,
 ⟨(some 122), .mov (.t 19), [], none⟩,
 ⟨(some 123), .mov (.t 21), [], none⟩,
 ⟨(some 124), .iaddr none 10 (.t 121) (.t 122), [6, 7], none⟩,
 ⟨(some 125), .iaddr (some 10) 1 (.t 124) (.t 123), [9, 8], none⟩,
 ⟨(some 126), .load none (.t 125), [10], none⟩,
 ⟨(some 127), .mov (.t 20), [], none⟩,
 ⟨(some 128), .mov (.t 21), [], none⟩,
 ⟨(some 129), .iaddr (some 10) 1 (.t 18) (.t 128), [13], none⟩,
 ⟨(some 130), .load none (.t 129), [14], none⟩,
 ⟨(some 131), .mov (.t 13), [], none⟩,
 ⟨(some 132), .call .pure (.f 72) [(.t 120), (.t 126), (.t 127), (.t 130), (.t 131)], [5, 11, 12, 15, 16], none⟩,
 ⟨(some 133), .iaddr none 10 (.t 115) (.t 116), [0, 1], none⟩,
 ⟨(some 134), .iaddr (some 10) 1 (.t 133) (.t 117), [18, 2, 0, 1, 2, 3, 4, 5, 6, 7, 8, 9, 10, 11, 12, 13, 14, 15, 16, 17], none⟩,
 ⟨none, .store 1 (.t 134) (.t 132), [19, 17, 17, 0, 1, 2, 3, 4, 5, 6, 7, 8, 9, 10, 11, 12, 13, 14, 15, 16, 17], none⟩] [] [21, 115, 116, 117, 118, 119, 120, 121, 122, 123, 124, 125, 126, 127, 128, 129, 130, 131, 132, 133, 134])))
 (.region [⟨(some 135), .bin .add (.t 112) (.c (.int .i64 1)), [], none⟩,
 ⟨(some 112), .mov (.t 135), [0], none⟩] [] [135])))))))))))
 (.region [⟨(some 136), .bin .add (.t 98) (.c (.int .i64 1)), [], none⟩,
 ⟨(some 98), .mov (.t 136), [0], none⟩] [] [19, 20, 111, 112, 136])))))))
 (.seq (.region [⟨(some 137), .load none (.t 16), [], none⟩,
 ⟨(some 138), .iaddr (some 10) 1 (.t 18) (.t 137), [0], none⟩,
 ⟨(some 139), .load none (.t 138), [1], none⟩,
 ⟨(some 13), .mov (.t 139), [2, 0, 1, 2], none⟩] [] [18, 97, 98, 137, 138, 139])
 (.seq (.region [⟨(some 140), .load none (.t 16), [], none⟩,
 ⟨(some 141), .mov (.t 12), [], none⟩,
 ⟨(some 142), .iaddr (some 10) 1 (.t 15) (.t 140), [0, 0, 1], none⟩,
 ⟨none, .store 1 (.t 142) (.t 141), [2, 1, 0, 1], none⟩] [] [16, 140, 141, 142])
 (.region [⟨(some 143), .mov (.t 12), [], none⟩,
 ⟨(some 144), .bin .add (.t 143) (.c (.int .i64 1)), [0], none⟩,
 ⟨(some 12), .mov (.t 144), [1, 0, 1], none⟩] [] [143, 144]))))))))))
 (.region [⟨(some 145), .bin .add (.t 61) (.c (.int .i64 1)), [], none⟩,
 ⟨(some 61), .mov (.t 145), [0], none⟩] [] [145])))))))
 (.seq (.seq (.region [⟨(some 146), .mov (.t 14), [], none⟩,
 ⟨(some 147), .bin .lss (.t 146) (.c (.int .i64 0)), [0], none⟩] [] [12, 60, 61, 146])
 (.cond (.t 147)
 (.seq (.region [⟨(some 4), .mov (.c .nilsl), [], none⟩,
 ⟨(some 5), .mov (.c (.bool false)), [0, 0], none⟩] [] [1, 6, 13, 14, 15, 147])
 .ret)
 .skip))
 (.seq (.region [⟨(some 148), .mov (.t 1), [], none⟩,
 ⟨(some 149), .len 1 (.t 148), [0], none⟩,
 ⟨(some 150), .mkslice .dyn 1 8 [(.int .i64 0)] (.t 149) (.t 149), [1, 1], none⟩,
 ⟨(some 22), .mov (.t 150), [2, 0, 1, 2], none⟩] [] [4, 5, 147, 148, 149, 150])
 (.seq (.region [⟨(some 23), .mov (.c (.int .u64 0)), [], none⟩] [] [])
 (.seq (.seq (.region [⟨(some 151), .mov (.t 1), [], none⟩,
 ⟨(some 152), .len 1 (.t 151), [0], none⟩,
 ⟨(some 153), .mov (.c (.int .i64 0)), [], none⟩] [] [1, 151])
 (.block 10 (.loop (.seq (.region [⟨(some 154), .bin .lss (.t 153) (.t 152), [], none⟩] [] [])
 (.seq (.cond (.t 154)
 .skip
 (.exit 10))
 (.seq (.block 11 (.seq (.region [⟨(some 155), .mov (.t 153), [], none⟩,
 ⟨(some 24), .mov (.t 155), [0, 0], none⟩] [] [154, 155])
 (.seq (.region [⟨(some 156), .mov (.t 22), [], none⟩,
 ⟨(some 157), .mov (.t 24), [], none⟩,
 ⟨(some 158), .mov (.t 13), [], none⟩,
 ⟨(some 159), .iaddr none 1 (.t 156) (.t 157), [0, 1, 0, 1, 2], none⟩,
 ⟨none, .store 1 (.t 159) (.t 158), [3, 2, 0, 1, 2], none⟩] [] [156, 157, 158, 159])
 (.seq (.seq (.region [⟨(some 160), .mov (.t 24), [], none⟩,
 ⟨(some 161), .mov (.t 14), [], none⟩,
 ⟨(some 162), .bin .neq (.t 160) (.t 161), [0, 1], none⟩] [] [160, 161])
 (.cond (.t 162)
 (.region [⟨(some 163), .mov (.t 22), [], none⟩,
 ⟨(some 164), .mov (.t 24), [], none⟩,
 ⟨(some 165), .mov (.t 6), [], none⟩,
 ⟨(some 166), .mov (.t 24), [], none⟩,
 ⟨(some 167), .iaddr (some 10) 1 (.t 15) (.t 166), [3], none⟩,
 ⟨(some 168), .load none (.t 167), [4], none⟩,
 ⟨(some 169), .mov (.t 14), [], none⟩,
 ⟨(some 170), .iaddr none 10 (.t 165) (.t 168), [2, 5], none⟩,
 ⟨(some 171), .iaddr (some 10) 1 (.t 170) (.t 169), [7, 6], none⟩,
 ⟨(some 172), .load none (.t 171), [8], none⟩,
 ⟨(some 173), .un .neg (.t 172), [9], none⟩,
 ⟨(some 174), .iaddr none 1 (.t 163) (.t 164), [0, 1, 0, 1, 2, 3, 4, 5, 6, 7, 8, 9, 10], none⟩,
 ⟨none, .store 1 (.t 174) (.t 173), [11, 10, 0, 1, 2, 3, 4, 5, 6, 7, 8, 9, 10], none⟩] [] [162, 163, 164, 165, 166, 167, 168, 169, 170, 171, 172, 173, 174])
 .skip))
 (.seq (.seq (.region [⟨(some 175), .mov (.t 22), [], none⟩,
 ⟨(some 176), .mov (.t 24), [], none⟩,
 ⟨(some 177), .iaddr none 1 (.t 175) (.t 176), [0, 1], none⟩,
 ⟨(some 178), .load none (.t 177), [2], none⟩,
 ⟨(some 179), .bin .eql (.t 178) (.c (.int .i64 0)), [3], none⟩] [] [162, 175, 176, 177, 178])
 (.cond (.t 179)
 (.seq (.region [⟨(some 4), .mov (.c .nilsl), [], none⟩,
 ⟨(some 5), .mov (.c (.bool false)), [0, 0], none⟩] [] [6, 13, 14, 15, 22, 23, 152, 153, 24, 179])
 .ret)
 .skip))
 (.region [⟨(some 180), .mov (.t 23), [], none⟩,
 ⟨(some 181), .mov (.t 22), [], none⟩,
 ⟨(some 182), .mov (.t 24), [], none⟩,
 ⟨(some 183), .iaddr none 1 (.t 181) (.t 182), [1, 2], none⟩,
 ⟨(some 184), .load none (.t 183), [3], none⟩,
 ⟨(some 185), .call .pure (.f 74) [(.t 184)], [4], none⟩,
 ⟨(some 186), .call .pure (.f 73) [(.t 180), (.t 185)], [0, 5, 5], none⟩,
 ⟨(some 23), .mov (.t 186), [6, 6, 0, 1, 2, 3, 4, 5, 6], none⟩] [] [4, 5, 24, 179, 180, 181, 182, 183, 184, 185, 186]))))))
 (.region [⟨(some 187), .bin .add (.t 153) (.c (.int .i64 1)), [], none⟩,
 ⟨(some 153), .mov (.t 187), [0], none⟩] [] [187])))))))
 (.seq (.region [⟨(some 188), .mov (.t 22), [], none⟩,
 ⟨(some 189), .iaddr none 1 (.t 188) (.c (.int .i64 0)), [0], none⟩,
 ⟨(some 190), .load none (.t 189), [1], none⟩,
 ⟨(some 191), .bin .lss (.t 190) (.c (.int .i64 0)), [2], none⟩,
 ⟨(some 25), .mov (.t 191), [3, 0, 1, 2, 3], none⟩] [] [6, 13, 14, 15, 152, 153, 188, 189, 190, 191])
 (.seq (.seq (.region [⟨(some 192), .mov (.t 22), [], none⟩,
 ⟨(some 193), .len 1 (.t 192), [0], none⟩,
 ⟨(some 194), .mov (.c (.int .i64 0)), [], none⟩] [] [192])
 (.block 12 (.loop (.seq (.region [⟨(some 195), .bin .lss (.t 194) (.t 193), [], none⟩] [] [])
 (.seq (.cond (.t 195)
 .skip
 (.exit 12))
 (.seq (.block 13 (.seq (.region [⟨(some 196), .mov (.t 194), [], none⟩,
 ⟨(some 26), .mov (.t 196), [0, 0], none⟩] [] [195, 196])
 (.seq (.region [⟨(some 197), .mov (.t 22), [], none⟩,
 ⟨(some 198), .mov (.t 26), [], none⟩,
 ⟨(some 199), .iaddr none 1 (.t 197) (.t 198), [0, 1], none⟩,
 ⟨(some 200), .load none (.t 199), [2], none⟩,
 ⟨(some 201), .mov (.t 23), [], none⟩,
 ⟨(some 202), .conv .i64 (.t 201), [4], none⟩,
 ⟨(some 203), .bin .quo (.t 200) (.t 202), [3, 5], none⟩,
 ⟨(some 204), .iaddr none 1 (.t 197) (.t 198), [0, 1, 0, 1, 2, 3, 4, 5, 6], none⟩,
 ⟨none, .store 1 (.t 204) (.t 203), [7, 6, 0, 1, 2, 3, 4, 5, 6], none⟩] [] [197, 198, 199, 200, 201, 202, 203, 204])
 (.seq (.region [⟨(some 205), .mov (.t 25), [], none⟩] [] [])
 (.cond (.t 205)
 (.region [⟨(some 206), .mov (.t 22), [], none⟩,
 ⟨(some 207), .mov (.t 26), [], none⟩,
 ⟨(some 208), .mov (.t 22), [], none⟩,
 ⟨(some 209), .mov (.t 26), [], none⟩,
 ⟨(some 210), .iaddr none 1 (.t 208) (.t 209), [2, 3], none⟩,
 ⟨(some 211), .load none (.t 210), [4], none⟩,
 ⟨(some 212), .un .neg (.t 211), [5], none⟩,
 ⟨(some 213), .iaddr none 1 (.t 206) (.t 207), [0, 1, 0, 1, 2, 3, 4, 5, 6], none⟩,
 ⟨none, .store 1 (.t 213) (.t 212), [7, 6, 0, 1, 2, 3, 4, 5, 6], none⟩] [] [26, 205, 206, 207, 208, 209, 210, 211, 212, 213])
 .skip)))))
 (.region [⟨(some 214), .bin .add (.t 194) (.c (.int .i64 1)), [], none⟩,
 ⟨(some 194), .mov (.t 214), [0], none⟩] [] [26, 205, 214])))))))
 (.seq (.region [⟨(some 215), .mov (.t 22), [], none⟩,
 ⟨(some 4), .mov (.t 215), [0, 0], none⟩,
 ⟨(some 5), .mov (.c (.bool true)), [1, 0, 1], none⟩] [] [22, 23, 25, 193, 194, 215])
 .ret)))))))))))))))⟩
def s62 : SFn := ⟨9, [.tmp 4],
 (.seq (.region [⟨(some 4), .mov (.c (.bool false)), [], none⟩] [] [4])
 (.seq (.region [⟨(some 5), .mov (.t 0), [], none⟩,
 ⟨(some 6), .mov (.t 1), [], none⟩,
 ⟨(some 7), .call .pure (.f 75) [(.t 5), (.t 6)], [0, 1], none⟩,
 ⟨(some 8), .bin .geq (.t 7) (.c (.int .i64 0)), [2], none⟩,
 ⟨(some 4), .mov (.t 8), [3, 2, 0, 1, 2, 3], none⟩] [] [0, 1, 5, 6, 7, 8])
 .ret))⟩
def s63 : SFn := ⟨5, [.tmp 2],
 (.seq (.region [⟨(some 2), .mov (.c (.bool false)), [], none⟩] [] [2])
 (.seq (.region [⟨(some 3), .mov (.t 0), [], none⟩,
 ⟨(some 4), .bin .lss (.t 3) (.c (.int .i64 0)), [0], none⟩,
 ⟨(some 2), .mov (.t 4), [1, 0, 1], none⟩] [] [0, 3, 4])
 .ret))⟩
def s70 : SFn := ⟨19, [.tmp 4],
 (.seq (.region [⟨(some 4), .mov (.c (.int .i64 0)), [], none⟩] [] [4])
 (.seq (.seq (.region [⟨(some 6), .mov (.t 0), [], none⟩,
 ⟨(some 7), .len 1 (.t 6), [0], none⟩,
 ⟨(some 8), .mov (.c (.int .i64 0)), [], none⟩] [] [6])
 (.block 0 (.loop (.seq (.region [⟨(some 9), .bin .lss (.t 8) (.t 7), [], none⟩] [] [])
 (.seq (.cond (.t 9)
 .skip
 (.exit 0))
 (.seq (.block 1 (.seq (.region [⟨(some 10), .mov (.t 8), [], none⟩,
 ⟨(some 5), .mov (.t 10), [0, 0], none⟩] [] [9, 10])
 (.seq (.region [⟨(some 11), .mov (.t 1), [], none⟩,
 ⟨(some 12), .mov (.t 0), [], none⟩,
 ⟨(some 13), .mov (.t 5), [], none⟩,
 ⟨(some 14), .iaddr none 10 (.t 12) (.t 13), [1, 2], none⟩,
 ⟨(some 15), .load (some 10) (.t 14), [3], none⟩,
 ⟨(some 16), .call .pure (.t 11) [(.t 15)], [0, 4], none⟩] [] [11, 12, 13, 14, 15])
 (.cond (.t 16)
 (.seq (.region [⟨(some 17), .mov (.t 5), [], none⟩,
 ⟨(some 4), .mov (.t 17), [0, 0], none⟩] [] [0, 1, 7, 8, 5, 16, 17])
 .ret)
 .skip))))
 (.region [⟨(some 18), .bin .add (.t 8) (.c (.int .i64 1)), [], none⟩,
 ⟨(some 8), .mov (.t 18), [0], none⟩] [] [4, 5, 16, 18])))))))
 (.seq (.region [⟨(some 4), .mov (.c (.int .i64 (-1))), [], none⟩] [] [0, 1, 7, 8])
 .ret)))⟩
def s71 : SFn := ⟨8, [.tmp 3],
 (.seq (.region [⟨(some 2), .box .dyn (.t 0), [], none⟩,
 ⟨(some 3), .mov (.c (.bool false)), [], none⟩] [] [0, 3])
 (.seq (.region [⟨(some 4), .load none (.t 1), [], none⟩,
 ⟨(some 5), .iaddr (some 10) 1 (.t 2) (.t 4), [0], none⟩,
 ⟨(some 6), .load none (.t 5), [1], none⟩,
 ⟨(some 7), .bin .neq (.t 6) (.c (.int .i64 0)), [2], none⟩,
 ⟨(some 3), .mov (.t 7), [3, 0, 1, 2, 3], none⟩] [] [1, 2, 4, 5, 6, 7])
 .ret))⟩
def s72 : SFn := ⟨100, [.tmp 10],
 (.seq (.region [⟨(some 10), .mov (.c (.int .i64 0)), [], none⟩] [] [10])
 (.seq (.region [⟨(some 22), .mov (.t 0), [], none⟩,
 ⟨(some 23), .mov (.t 1), [], none⟩,
 ⟨(some 24), .call .pure (.f 77) [(.t 22), (.t 23)], [0, 1], none⟩,
 ⟨(some 21), .mov (.t 24), [2], none⟩,
 ⟨(some 25), .extract 0 (.t 21), [3], none⟩,
 ⟨(some 26), .extract 1 (.t 21), [3], none⟩,
 ⟨(some 27), .extract 2 (.t 21), [3], none⟩,
 ⟨(some 11), .mov (.t 25), [4, 2, 0, 1, 2, 3, 4], none⟩,
 ⟨(some 12), .mov (.t 26), [5, 7, 0, 1, 2, 3, 4, 5, 7], none⟩,
 ⟨(some 13), .mov (.t 27), [6, 8, 0, 1, 2, 3, 4, 5, 6, 7, 8], none⟩] [] [0, 1, 22, 23, 24, 21, 25, 26, 27])
 (.seq (.region [⟨(some 29), .mov (.t 2), [], none⟩,
 ⟨(some 30), .mov (.t 3), [], none⟩,
 ⟨(some 31), .call .pure (.f 77) [(.t 29), (.t 30)], [0, 1], none⟩,
 ⟨(some 28), .mov (.t 31), [2], none⟩,
 ⟨(some 32), .extract 0 (.t 28), [3], none⟩,
 ⟨(some 33), .extract 1 (.t 28), [3], none⟩,
 ⟨(some 34), .extract 2 (.t 28), [3], none⟩,
 ⟨(some 14), .mov (.t 32), [4, 2, 0, 1, 2, 3, 4], none⟩,
 ⟨(some 15), .mov (.t 33), [5, 7, 0, 1, 2, 3, 4, 5, 7], none⟩,
 ⟨(some 16), .mov (.t 34), [6, 8, 0, 1, 2, 3, 4, 5, 6, 7, 8], none⟩] [] [2, 3, 29, 30, 31, 28, 32, 33, 34])
 (.seq (.seq (.region [⟨(some 35), .mov (.t 11), [], none⟩,
 ⟨(some 36), .mov (.t 14), [], none⟩,
 ⟨(some 37), .eq (.flat false [.b]) true (.t 35) (.t 36), [0, 1], none⟩] [] [14, 35, 36])
 (.cond (.t 37)
 (.seq (.region [⟨(some 17), .mov (.c (.int .u64 0)), [], none⟩] [] [37, 17])
 (.seq (.region [⟨(some 39), .mov (.t 13), [], none⟩,
 ⟨(some 40), .mov (.t 16), [], none⟩,
 ⟨(some 41), .ext 0 78 [(.t 39), (.t 40), (.c (.int .u64 0))], [0, 1], none⟩,
 ⟨(some 38), .mov (.t 41), [2], none⟩,
 ⟨(some 42), .extract 0 (.t 38), [3], none⟩,
 ⟨(some 43), .extract 1 (.t 38), [3], none⟩,
 ⟨(some 13), .mov (.t 42), [4, 2, 0, 1, 2, 3, 4], none⟩,
 ⟨(some 17), .mov (.t 43), [5, 6, 0, 1, 2, 3, 4, 5, 6], none⟩] [] [16, 39, 40, 41, 38, 42, 43])
 (.region [⟨(some 45), .mov (.t 12), [], none⟩,
 ⟨(some 46), .mov (.t 15), [], none⟩,
 ⟨(some 47), .mov (.t 17), [], none⟩,
 ⟨(some 48), .ext 0 78 [(.t 45), (.t 46), (.t 47)], [0, 1, 2], none⟩,
 ⟨(some 44), .mov (.t 48), [3], none⟩,
 ⟨(some 49), .extract 0 (.t 44), [4], none⟩,
 ⟨(some 50), .extract 1 (.t 44), [4], none⟩,
 ⟨(some 12), .mov (.t 49), [5, 3, 0, 1, 2, 3, 4, 5], none⟩] [] [15, 17, 45, 46, 47, 48, 44, 49, 50])))
 (.seq (.region [⟨(some 18), .mov (.c (.int .u64 0)), [], none⟩] [] [37, 18])
 (.seq (.seq (.region [⟨(some 51), .mov (.t 12), [], none⟩,
 ⟨(some 52), .mov (.t 15), [], none⟩,
 ⟨(some 53), .bin .lss (.t 51) (.t 52), [0, 1], none⟩,
 ⟨(some 54), .mov (.t 53), [2], none⟩,
 ⟨(some 55), .mov (.t 12), [3], (some (54, false))⟩,
 ⟨(some 56), .mov (.t 15), [3], (some (54, false))⟩,
 ⟨(some 57), .bin .eql (.t 55) (.t 56), [4, 5, 3], (some (54, false))⟩,
 ⟨(some 58), .mov (.t 57), [6, 3, 3], (some (54, false))⟩,
 ⟨(some 59), .mov (.t 13), [7], (some (58, true))⟩,
 ⟨(some 60), .mov (.t 16), [7], (some (58, true))⟩,
 ⟨(some 61), .bin .lss (.t 59) (.t 60), [8, 9, 7], (some (58, true))⟩,
 ⟨(some 62), .pick (.t 58) (.t 61) (.c (.bool false)), [7, 10, 3], (some (54, false))⟩,
 ⟨(some 63), .pick (.t 54) (.c (.bool true)) (.t 62), [3, 11], none⟩] [] [51, 52, 53, 54, 55, 56, 57, 58, 59, 60, 61, 62])
 (.cond (.t 63)
 (.seq (.region [⟨(some 64), .mov (.t 15), [], none⟩,
 ⟨(some 65), .mov (.t 12), [], none⟩,
 ⟨(some 66), .mov (.t 16), [], none⟩,
 ⟨(some 67), .mov (.t 13), [], none⟩,
 ⟨(some 12), .mov (.t 64), [0, 0, 1, 3], none⟩,
 ⟨(some 15), .mov (.t 65), [1, 4, 0, 1, 3, 4], none⟩,
 ⟨(some 13), .mov (.t 66), [2, 5, 0, 1, 2, 3, 4, 5], none⟩,
 ⟨(some 16), .mov (.t 67), [3, 6, 0, 1, 2, 3, 4, 5, 6], none⟩] [] [63, 64, 65, 66, 67])
 (.region [⟨(some 68), .mov (.t 11), [], none⟩,
 ⟨(some 69), .un .not (.t 68), [0], none⟩,
 ⟨(some 11), .mov (.t 69), [1, 0, 1], none⟩] [] [68, 69]))
 .skip))
 (.seq (.region [⟨(some 71), .mov (.t 13), [], none⟩,
 ⟨(some 72), .mov (.t 16), [], none⟩,
 ⟨(some 73), .ext 1 79 [(.t 71), (.t 72), (.c (.int .u64 0))], [0, 1], none⟩,
 ⟨(some 70), .mov (.t 73), [2], none⟩,
 ⟨(some 74), .extract 0 (.t 70), [3], none⟩,
 ⟨(some 75), .extract 1 (.t 70), [3], none⟩,
 ⟨(some 13), .mov (.t 74), [4, 2, 0, 1, 2, 3, 4], none⟩,
 ⟨(some 18), .mov (.t 75), [5, 6, 0, 1, 2, 3, 4, 5, 6], none⟩] [] [16, 63, 71, 72, 73, 70, 74, 75])
 (.region [⟨(some 77), .mov (.t 12), [], none⟩,
 ⟨(some 78), .mov (.t 15), [], none⟩,
 ⟨(some 79), .mov (.t 18), [], none⟩,
 ⟨(some 80), .ext 1 79 [(.t 77), (.t 78), (.t 79)], [0, 1, 2], none⟩,
 ⟨(some 76), .mov (.t 80), [3], none⟩,
 ⟨(some 81), .extract 0 (.t 76), [4], none⟩,
 ⟨(some 82), .extract 1 (.t 76), [4], none⟩,
 ⟨(some 12), .mov (.t 81), [5, 3, 0, 1, 2, 3, 4, 5], none⟩] [] [15, 18, 77, 78, 79, 80, 76, 81, 82]))))))
 (.seq (.region [⟨(some 84), .mov (.t 12), [], none⟩,
 ⟨(some 85), .mov (.t 13), [], none⟩,
 ⟨(some 86), .mov (.t 4), [], none⟩,
 ⟨(some 87), .call .pure (.f 74) [(.t 86)], [2], none⟩,
 ⟨(some 88), .call .pure (.f 80) [(.t 84), (.t 85), (.t 87)], [0, 1, 3, 3], none⟩,
 ⟨(some 83), .mov (.t 88), [4], none⟩,
 ⟨(some 89), .extract 0 (.t 83), [5], none⟩,
 ⟨(some 90), .extract 1 (.t 83), [5], none⟩,
 ⟨(some 19), .mov (.t 89), [6, 4, 0, 1, 2, 3, 4, 5, 6], none⟩,
 ⟨(some 20), .mov (.t 90), [7, 8, 0, 1, 2, 3, 4, 5, 6, 7, 8], none⟩] [] [12, 13, 84, 85, 86, 87, 88, 83, 89, 90, 20])
 (.seq (.seq (.region [⟨(some 91), .mov (.t 11), [], none⟩,
 ⟨(some 92), .mov (.t 4), [], none⟩,
 ⟨(some 93), .bin .lss (.t 92) (.c (.int .i64 0)), [1], none⟩,
 ⟨(some 94), .eq (.flat false [.b]) true (.t 91) (.t 93), [0, 2], none⟩] [] [4, 11, 91, 92, 93])
 (.cond (.t 94)
 (.seq (.region [⟨(some 95), .mov (.t 19), [], none⟩,
 ⟨(some 96), .conv .i64 (.t 95), [0], none⟩,
 ⟨(some 97), .un .neg (.t 96), [1], none⟩,
 ⟨(some 10), .mov (.t 97), [2, 0, 1, 2], none⟩] [] [19, 94, 95, 96, 97])
 .ret)
 .skip))
 (.seq (.region [⟨(some 98), .mov (.t 19), [], none⟩,
 ⟨(some 99), .conv .i64 (.t 98), [0], none⟩,
 ⟨(some 10), .mov (.t 99), [1, 0, 1], none⟩] [] [19, 94, 98, 99])
 .ret)))))))⟩
def s73 : SFn := ⟨12, [.tmp 4],
 (.seq (.region [⟨(some 4), .mov (.c (.int .u64 0)), [], none⟩] [] [4])
 (.seq (.block 0 (.loop (.seq (.seq (.region [⟨(some 5), .mov (.t 1), [], none⟩,
 ⟨(some 6), .bin .neq (.t 5) (.c (.int .u64 0)), [0], none⟩] [] [5])
 (.cond (.t 6)
 .skip
 (.exit 0)))
 (.block 1 (.region [⟨(some 7), .mov (.t 1), [], none⟩,
 ⟨(some 8), .mov (.t 0), [], none⟩,
 ⟨(some 9), .mov (.t 1), [], none⟩,
 ⟨(some 10), .bin .rem (.t 8) (.t 9), [1, 2], none⟩,
 ⟨(some 0), .mov (.t 7), [0, 0, 1], none⟩,
 ⟨(some 1), .mov (.t 10), [3, 4, 0, 1, 2, 3, 4], none⟩] [] [6, 7, 8, 9, 10])))))
 (.seq (.region [⟨(some 11), .mov (.t 0), [], none⟩,
 ⟨(some 4), .mov (.t 11), [0, 0], none⟩] [] [0, 1, 11])
 .ret)))⟩
def s74 : SFn := ⟨10, [.tmp 2],
 (.seq (.region [⟨(some 2), .mov (.c (.int .u64 0)), [], none⟩] [] [2])
 (.seq (.seq (.region [⟨(some 3), .mov (.t 0), [], none⟩,
 ⟨(some 4), .bin .lss (.t 3) (.c (.int .i64 0)), [0], none⟩] [] [3])
 (.cond (.t 4)
 (.seq (.region [⟨(some 5), .mov (.t 0), [], none⟩,
 ⟨(some 6), .un .neg (.t 5), [0], none⟩,
 ⟨(some 7), .conv .u64 (.t 6), [1], none⟩,
 ⟨(some 2), .mov (.t 7), [2, 0, 1, 2], none⟩] [] [0, 4, 5, 6, 7])
 .ret)
 .skip))
 (.seq (.region [⟨(some 8), .mov (.t 0), [], none⟩,
 ⟨(some 9), .conv .u64 (.t 8), [0], none⟩,
 ⟨(some 2), .mov (.t 9), [1, 0, 1], none⟩] [] [0, 4, 8, 9])
 .ret)))⟩
def s75 : SFn := ⟨19, [.tmp 4],
 (.seq (.region [⟨(some 4), .mov (.c (.int .i64 0)), [], none⟩] [] [4])
 (.seq (.seq (.region [⟨(some 6), .mov (.t 0), [], none⟩,
 ⟨(some 7), .len 1 (.t 6), [0], none⟩,
 ⟨(some 8), .mov (.c (.int .i64 0)), [], none⟩] [] [6])
 (.block 0 (.loop (.seq (.region [⟨(some 9), .bin .lss (.t 8) (.t 7), [], none⟩] [] [])
 (.seq (.cond (.t 9)
 .skip
 (.exit 0))
 (.seq (.block 1 (.seq (.region [⟨(some 10), .mov (.t 8), [], none⟩,
 ⟨(some 5), .mov (.t 10), [0, 0], none⟩] [] [9, 10])
 (.seq (.region [⟨(some 11), .mov (.t 1), [], none⟩,
 ⟨(some 12), .mov (.t 0), [], none⟩,
 ⟨(some 13), .mov (.t 5), [], none⟩,
 ⟨(some 14), .iaddr none 1 (.t 12) (.t 13), [1, 2], none⟩,
 ⟨(some 15), .load none (.t 14), [3], none⟩,
 ⟨(some 16), .call .pure (.t 11) [(.t 15)], [0, 4], none⟩] [] [11, 12, 13, 14, 15])
 (.cond (.t 16)
 (.seq (.region [⟨(some 17), .mov (.t 5), [], none⟩,
 ⟨(some 4), .mov (.t 17), [0, 0], none⟩] [] [0, 1, 7, 8, 5, 16, 17])
 .ret)
 .skip))))
 (.region [⟨(some 18), .bin .add (.t 8) (.c (.int .i64 1)), [], none⟩,
 ⟨(some 8), .mov (.t 18), [0], none⟩] [] [4, 5, 16, 18])))))))
 (.seq (.region [⟨(some 4), .mov (.c (.int .i64 (-1))), [], none⟩] [] [0, 1, 7, 8])
 .ret)))⟩
def s77 : SFn := ⟨22, [.tmp 4, .tmp 5, .tmp 6],
 (.seq (.region [⟨(some 4), .mov (.c (.bool false)), [], none⟩,
 ⟨(some 5), .mov (.c (.int .u64 0)), [0], none⟩,
 ⟨(some 6), .mov (.c (.int .u64 0)), [1], none⟩] [] [4, 5, 6])
 (.seq (.region [⟨(some 8), .mov (.t 0), [], none⟩,
 ⟨(some 9), .call .pure (.f 74) [(.t 8)], [0], none⟩,
 ⟨(some 10), .mov (.t 1), [], none⟩,
 ⟨(some 11), .call .pure (.f 74) [(.t 10)], [2, 1], none⟩,
 ⟨(some 12), .call .pure (.f 81) [(.t 9), (.t 11)], [1, 3, 3], none⟩,
 ⟨(some 7), .mov (.t 12), [4], none⟩,
 ⟨(some 13), .extract 0 (.t 7), [5], none⟩,
 ⟨(some 14), .extract 1 (.t 7), [5], none⟩,
 ⟨(some 5), .mov (.t 13), [6, 4, 0, 1, 2, 3, 4, 5, 6], none⟩,
 ⟨(some 6), .mov (.t 14), [7, 8, 0, 1, 2, 3, 4, 5, 6, 7, 8], none⟩] [] [8, 9, 10, 11, 12, 7, 13, 14])
 (.seq (.region [⟨(some 15), .mov (.t 0), [], none⟩,
 ⟨(some 16), .bin .lss (.t 15) (.c (.int .i64 0)), [0], none⟩,
 ⟨(some 17), .mov (.t 1), [], none⟩,
 ⟨(some 18), .bin .lss (.t 17) (.c (.int .i64 0)), [2], none⟩,
 ⟨(some 19), .eq (.flat false [.b]) true (.t 16) (.t 18), [1, 3], none⟩,
 ⟨(some 20), .mov (.t 5), [], none⟩,
 ⟨(some 21), .mov (.t 6), [], none⟩,
 ⟨(some 4), .mov (.t 19), [4, 0, 1, 2, 3, 4], none⟩,
 ⟨(some 5), .mov (.t 20), [5, 7, 0, 1, 2, 3, 4, 5, 7], none⟩,
 ⟨(some 6), .mov (.t 21), [6, 8, 0, 1, 2, 3, 4, 5, 6, 7, 8], none⟩] [] [0, 1, 15, 16, 17, 18, 19, 20, 21])
 .ret)))⟩
def s80 : SFn := ⟨135, [.tmp 6, .tmp 7],
 (.seq (.region [⟨(some 6), .mov (.c (.int .u64 0)), [], none⟩,
 ⟨(some 7), .mov (.c (.int .u64 0)), [0], none⟩] [] [6, 7])
 (.seq (.seq (.region [⟨(some 19), .mov (.t 2), [], none⟩,
 ⟨(some 20), .bin .eql (.t 19) (.c (.int .u64 0)), [0], none⟩] [] [19])
 (.cond (.t 20)
 (.region [⟨(some 21), .load none (.g 0), [], none⟩,
 ⟨none, .bad, [0], none⟩] [] [20, 21])
 .skip))
 (.seq (.seq (.region [⟨(some 22), .mov (.t 2), [], none⟩,
 ⟨(some 23), .mov (.t 0), [], none⟩,
 ⟨(some 24), .bin .leq (.t 22) (.t 23), [0, 1], none⟩] [] [20, 22, 23])
 (.cond (.t 24)
 (.region [⟨(some 25), .load none (.g 1), [], none⟩,
 ⟨none, .bad, [0], none⟩] [] [24, 25])
 .skip))
 (.seq (.seq (.region [⟨(some 26), .mov (.t 0), [], none⟩,
 ⟨(some 27), .bin .eql (.t 26) (.c (.int .u64 0)), [0], none⟩] [] [24, 26])
 (.cond (.t 27)
 (.seq (.region [⟨(some 28), .mov (.t 1), [], none⟩,
 ⟨(some 29), .mov (.t 2), [], none⟩,
 ⟨(some 30), .bin .quo (.t 28) (.t 29), [0, 1], none⟩,
 ⟨(some 31), .mov (.t 1), [], none⟩,
 ⟨(some 32), .mov (.t 2), [], none⟩,
 ⟨(some 33), .bin .rem (.t 31) (.t 32), [3, 4], none⟩,
 ⟨(some 6), .mov (.t 30), [2, 0, 1, 2], none⟩,
 ⟨(some 7), .mov (.t 33), [5, 6, 0, 1, 2, 3, 4, 5, 6], none⟩] [] [0, 1, 2, 27, 28, 29, 30, 31, 32, 33])
 .ret)
 .skip))
 (.seq (.region [⟨(some 34), .mov (.t 2), [], none⟩,
 ⟨(some 35), .call .pure (.f 82) [(.t 34)], [0], none⟩,
 ⟨(some 36), .conv .u64 (.t 35), [1], none⟩,
 ⟨(some 8), .mov (.t 36), [2, 1, 0, 1, 2], none⟩] [] [6, 7, 27, 34, 35, 36])
 (.seq (.region [⟨(some 37), .mov (.t 2), [], none⟩,
 ⟨(some 38), .mov (.t 8), [], none⟩,
 ⟨(some 39), .bin .shl (.t 37) (.t 38), [0, 1], none⟩,
 ⟨(some 2), .mov (.t 39), [2, 0, 1, 2], none⟩] [] [37, 38, 39])
 (.seq (.region [⟨(some 40), .mov (.t 2), [], none⟩,
 ⟨(some 41), .bin .shr (.t 40) (.c (.int .u64 32)), [0], none⟩,
 ⟨(some 9), .mov (.t 41), [1, 0, 1], none⟩] [] [40, 41])
 (.seq (.region [⟨(some 42), .mov (.t 2), [], none⟩,
 ⟨(some 43), .bin .and (.t 42) (.c (.int .u64 4294967295)), [0], none⟩,
 ⟨(some 10), .mov (.t 43), [1, 0, 1], none⟩] [] [42, 43])
 (.seq (.region [⟨(some 44), .mov (.t 0), [], none⟩,
 ⟨(some 45), .mov (.t 8), [], none⟩,
 ⟨(some 46), .bin .shl (.t 44) (.t 45), [0, 1], none⟩,
 ⟨(some 47), .mov (.t 1), [], none⟩,
 ⟨(some 48), .mov (.t 8), [], none⟩,
 ⟨(some 49), .bin .sub (.c (.int .u64 64)) (.t 48), [4], none⟩,
 ⟨(some 50), .bin .shr (.t 47) (.t 49), [3, 5], none⟩,
 ⟨(some 51), .bin .or (.t 46) (.t 50), [2, 6], none⟩,
 ⟨(some 11), .mov (.t 51), [7, 0, 1, 2, 3, 4, 5, 6, 7], none⟩] [] [0, 44, 45, 46, 47, 48, 49, 50, 51])
 (.seq (.region [⟨(some 52), .mov (.t 1), [], none⟩,
 ⟨(some 53), .mov (.t 8), [], none⟩,
 ⟨(some 54), .bin .shl (.t 52) (.t 53), [0, 1], none⟩,
 ⟨(some 12), .mov (.t 54), [2, 0, 1, 2], none⟩] [] [1, 52, 53, 54])
 (.seq (.region [⟨(some 55), .mov (.t 12), [], none⟩,
 ⟨(some 56), .bin .shr (.t 55) (.c (.int .u64 32)), [0], none⟩,
 ⟨(some 13), .mov (.t 56), [1, 0, 1], none⟩] [] [55, 56])
 (.seq (.region [⟨(some 57), .mov (.t 12), [], none⟩,
 ⟨(some 58), .bin .and (.t 57) (.c (.int .u64 4294967295)), [0], none⟩,
 ⟨(some 14), .mov (.t 58), [1, 0, 1], none⟩] [] [12, 57, 58])
 (.seq (.region [⟨(some 59), .mov (.t 11), [], none⟩,
 ⟨(some 60), .mov (.t 9), [], none⟩,
 ⟨(some 61), .bin .quo (.t 59) (.t 60), [0, 1], none⟩,
 ⟨(some 15), .mov (.t 61), [2, 0, 1, 2], none⟩] [] [59, 60, 61])
 (.seq (.region [⟨(some 62), .mov (.t 11), [], none⟩,
 ⟨(some 63), .mov (.t 15), [], none⟩,
 ⟨(some 64), .mov (.t 9), [], none⟩,
 ⟨(some 65), .bin .mul (.t 63) (.t 64), [1, 2], none⟩,
 ⟨(some 66), .bin .sub (.t 62) (.t 65), [0, 3], none⟩,
 ⟨(some 16), .mov (.t 66), [4, 0, 1, 2, 3, 4], none⟩] [] [62, 63, 64, 65, 66])
 (.seq (.block 0 (.loop (.seq (.seq (.region [⟨(some 67), .mov (.t 15), [], none⟩,
 ⟨(some 68), .bin .geq (.t 67) (.c (.int .u64 4294967296)), [0], none⟩,
 ⟨(some 69), .mov (.t 68), [1], none⟩,
 ⟨(some 70), .mov (.t 15), [2], (some (69, false))⟩,
 ⟨(some 71), .mov (.t 10), [2], (some (69, false))⟩,
 ⟨(some 72), .bin .mul (.t 70) (.t 71), [3, 4, 2], (some (69, false))⟩,
 ⟨(some 73), .mov (.t 16), [2], (some (69, false))⟩,
 ⟨(some 74), .bin .mul (.c (.int .u64 4294967296)) (.t 73), [6, 2], (some (69, false))⟩,
 ⟨(some 75), .mov (.t 13), [2], (some (69, false))⟩,
 ⟨(some 76), .bin .add (.t 74) (.t 75), [7, 8, 2], (some (69, false))⟩,
 ⟨(some 77), .bin .gtr (.t 72) (.t 76), [5, 9, 2], (some (69, false))⟩,
 ⟨(some 78), .pick (.t 69) (.c (.bool true)) (.t 77), [2, 10], none⟩] [] [67, 68, 69])
 (.cond (.t 78)
 .skip
 (.exit 0)))
 (.block 1 (.seq (.region [⟨(some 79), .mov (.t 15), [], none⟩,
 ⟨(some 80), .bin .sub (.t 79) (.c (.int .u64 1)), [0], none⟩,
 ⟨(some 15), .mov (.t 80), [1, 0, 1], none⟩] [] [78, 79, 80])
 (.seq (.region [⟨(some 81), .mov (.t 16), [], none⟩,
 ⟨(some 82), .mov (.t 9), [], none⟩,
 ⟨(some 83), .bin .add (.t 81) (.t 82), [0, 1], none⟩,
 ⟨(some 16), .mov (.t 83), [2, 0, 1, 2], none⟩] [] [81, 82, 83])
 (.seq (.region [⟨(some 84), .mov (.t 16), [], none⟩,
 ⟨(some 85), .bin .geq (.t 84) (.c (.int .u64 4294967296)), [0], none⟩] [] [84])
 (.cond (.t 85)
 (.exit 0)
 .skip))))))))
 (.seq (.region [⟨(some 86), .mov (.t 11), [], none⟩,
 ⟨(some 87), .bin .mul (.t 86) (.c (.int .u64 4294967296)), [0], none⟩,
 ⟨(some 88), .mov (.t 13), [], none⟩,
 ⟨(some 89), .bin .add (.t 87) (.t 88), [1, 2], none⟩,
 ⟨(some 90), .mov (.t 15), [], none⟩,
 ⟨(some 91), .mov (.t 2), [], none⟩,
 ⟨(some 92), .bin .mul (.t 90) (.t 91), [4, 5], none⟩,
 ⟨(some 93), .bin .sub (.t 89) (.t 92), [3, 6], none⟩,
 ⟨(some 17), .mov (.t 93), [7, 0, 1, 2, 3, 4, 5, 6, 7], none⟩] [] [11, 13, 16, 77, 72, 76, 74, 75, 73, 70, 71, 86, 87, 88, 89, 90, 91, 92, 93])
 (.seq (.region [⟨(some 94), .mov (.t 17), [], none⟩,
 ⟨(some 95), .mov (.t 9), [], none⟩,
 ⟨(some 96), .bin .quo (.t 94) (.t 95), [0, 1], none⟩,
 ⟨(some 18), .mov (.t 96), [2, 0, 1, 2], none⟩] [] [94, 95, 96])
 (.seq (.region [⟨(some 97), .mov (.t 17), [], none⟩,
 ⟨(some 98), .mov (.t 18), [], none⟩,
 ⟨(some 99), .mov (.t 9), [], none⟩,
 ⟨(some 100), .bin .mul (.t 98) (.t 99), [1, 2], none⟩,
 ⟨(some 101), .bin .sub (.t 97) (.t 100), [0, 3], none⟩,
 ⟨(some 16), .mov (.t 101), [4, 0, 1, 2, 3, 4], none⟩] [] [97, 98, 99, 100, 101])
 (.seq (.block 2 (.loop (.seq (.seq (.region [⟨(some 102), .mov (.t 18), [], none⟩,
 ⟨(some 103), .bin .geq (.t 102) (.c (.int .u64 4294967296)), [0], none⟩,
 ⟨(some 104), .mov (.t 103), [1], none⟩,
 ⟨(some 105), .mov (.t 18), [2], (some (104, false))⟩,
 ⟨(some 106), .mov (.t 10), [2], (some (104, false))⟩,
 ⟨(some 107), .bin .mul (.t 105) (.t 106), [3, 4, 2], (some (104, false))⟩,
 ⟨(some 108), .mov (.t 16), [2], (some (104, false))⟩,
 ⟨(some 109), .bin .mul (.c (.int .u64 4294967296)) (.t 108), [6, 2], (some (104, false))⟩,
 ⟨(some 110), .mov (.t 14), [2], (some (104, false))⟩,
 ⟨(some 111), .bin .add (.t 109) (.t 110), [7, 8, 2], (some (104, false))⟩,
 ⟨(some 112), .bin .gtr (.t 107) (.t 111), [5, 9, 2], (some (104, false))⟩,
 ⟨(some 113), .pick (.t 104) (.c (.bool true)) (.t 112), [2, 10], none⟩] [] [102, 103, 104])
 (.cond (.t 113)
 .skip
 (.exit 2)))
 (.block 3 (.seq (.region [⟨(some 114), .mov (.t 18), [], none⟩,
 ⟨(some 115), .bin .sub (.t 114) (.c (.int .u64 1)), [0], none⟩,
 ⟨(some 18), .mov (.t 115), [1, 0, 1], none⟩] [] [113, 114, 115])
 (.seq (.region [⟨(some 116), .mov (.t 16), [], none⟩,
 ⟨(some 117), .mov (.t 9), [], none⟩,
 ⟨(some 118), .bin .add (.t 116) (.t 117), [0, 1], none⟩,
 ⟨(some 16), .mov (.t 118), [2, 0, 1, 2], none⟩] [] [116, 117, 118])
 (.seq (.region [⟨(some 119), .mov (.t 16), [], none⟩,
 ⟨(some 120), .bin .geq (.t 119) (.c (.int .u64 4294967296)), [0], none⟩] [] [119])
 (.cond (.t 120)
 (.exit 2)
 .skip))))))))
 (.seq (.region [⟨(some 121), .mov (.t 15), [], none⟩,
 ⟨(some 122), .bin .mul (.t 121) (.c (.int .u64 4294967296)), [0], none⟩,
 ⟨(some 123), .mov (.t 18), [], none⟩,
 ⟨(some 124), .bin .add (.t 122) (.t 123), [1, 2], none⟩,
 ⟨(some 125), .mov (.t 17), [], none⟩,
 ⟨(some 126), .bin .mul (.t 125) (.c (.int .u64 4294967296)), [4], none⟩,
 ⟨(some 127), .mov (.t 14), [], none⟩,
 ⟨(some 128), .bin .add (.t 126) (.t 127), [5, 6], none⟩,
 ⟨(some 129), .mov (.t 18), [], none⟩,
 ⟨(some 130), .mov (.t 2), [], none⟩,
 ⟨(some 131), .bin .mul (.t 129) (.t 130), [8, 9], none⟩,
 ⟨(some 132), .bin .sub (.t 128) (.t 131), [7, 10], none⟩,
 ⟨(some 133), .mov (.t 8), [], none⟩,
 ⟨(some 134), .bin .shr (.t 132) (.t 133), [11, 12], none⟩,
 ⟨(some 6), .mov (.t 124), [3, 0, 1, 2, 3], none⟩,
 ⟨(some 7), .mov (.t 134), [13, 14, 0, 1, 2, 3, 4, 5, 6, 7, 8, 9, 10, 11, 12, 13, 14], none⟩] [] [2, 8, 9, 10, 14, 15, 112, 107, 111, 109, 110, 108, 105, 106, 17, 18, 16, 121, 122, 123, 124, 125, 126, 127, 128, 129, 130, 131, 132, 133, 134])
 .ret))))))))))))))))))))⟩
def s81 : SFn := ⟨51, [.tmp 4, .tmp 5],
 (.seq (.region [⟨(some 4), .mov (.c (.int .u64 0)), [], none⟩,
 ⟨(some 5), .mov (.c (.int .u64 0)), [0], none⟩] [] [4, 5])
 (.seq (.region [⟨(some 14), .mov (.t 0), [], none⟩,
 ⟨(some 15), .bin .and (.t 14) (.c (.int .u64 4294967295)), [0], none⟩,
 ⟨(some 6), .mov (.t 15), [1, 0, 1], none⟩] [] [14, 15])
 (.seq (.region [⟨(some 16), .mov (.t 0), [], none⟩,
 ⟨(some 17), .bin .shr (.t 16) (.c (.int .u64 32)), [0], none⟩,
 ⟨(some 7), .mov (.t 17), [1, 0, 1], none⟩] [] [16, 17])
 (.seq (.region [⟨(some 18), .mov (.t 1), [], none⟩,
 ⟨(some 19), .bin .and (.t 18) (.c (.int .u64 4294967295)), [0], none⟩,
 ⟨(some 8), .mov (.t 19), [1, 0, 1], none⟩] [] [18, 19])
 (.seq (.region [⟨(some 20), .mov (.t 1), [], none⟩,
 ⟨(some 21), .bin .shr (.t 20) (.c (.int .u64 32)), [0], none⟩,
 ⟨(some 9), .mov (.t 21), [1, 0, 1], none⟩] [] [20, 21])
 (.seq (.region [⟨(some 22), .mov (.t 6), [], none⟩,
 ⟨(some 23), .mov (.t 8), [], none⟩,
 ⟨(some 24), .bin .mul (.t 22) (.t 23), [0, 1], none⟩,
 ⟨(some 10), .mov (.t 24), [2, 0, 1, 2], none⟩] [] [22, 23, 24])
 (.seq (.region [⟨(some 25), .mov (.t 7), [], none⟩,
 ⟨(some 26), .mov (.t 8), [], none⟩,
 ⟨(some 27), .bin .mul (.t 25) (.t 26), [0, 1], none⟩,
 ⟨(some 28), .mov (.t 10), [], none⟩,
 ⟨(some 29), .bin .shr (.t 28) (.c (.int .u64 32)), [3], none⟩,
 ⟨(some 30), .bin .add (.t 27) (.t 29), [2, 4], none⟩,
 ⟨(some 11), .mov (.t 30), [5, 0, 1, 2, 3, 4, 5], none⟩] [] [8, 10, 25, 26, 27, 28, 29, 30])
 (.seq (.region [⟨(some 31), .mov (.t 11), [], none⟩,
 ⟨(some 32), .bin .and (.t 31) (.c (.int .u64 4294967295)), [0], none⟩,
 ⟨(some 12), .mov (.t 32), [1, 0, 1], none⟩] [] [31, 32])
 (.seq (.region [⟨(some 33), .mov (.t 11), [], none⟩,
 ⟨(some 34), .bin .shr (.t 33) (.c (.int .u64 32)), [0], none⟩,
 ⟨(some 13), .mov (.t 34), [1, 0, 1], none⟩] [] [11, 33, 34])
 (.seq (.region [⟨(some 35), .mov (.t 12), [], none⟩,
 ⟨(some 36), .mov (.t 6), [], none⟩,
 ⟨(some 37), .mov (.t 9), [], none⟩,
 ⟨(some 38), .bin .mul (.t 36) (.t 37), [1, 2], none⟩,
 ⟨(some 39), .bin .add (.t 35) (.t 38), [0, 3], none⟩,
 ⟨(some 12), .mov (.t 39), [4, 0, 1, 2, 3, 4], none⟩] [] [6, 35, 36, 37, 38, 39])
 (.seq (.region [⟨(some 40), .mov (.t 7), [], none⟩,
 ⟨(some 41), .mov (.t 9), [], none⟩,
 ⟨(some 42), .bin .mul (.t 40) (.t 41), [0, 1], none⟩,
 ⟨(some 43), .mov (.t 13), [], none⟩,
 ⟨(some 44), .bin .add (.t 42) (.t 43), [2, 3], none⟩,
 ⟨(some 45), .mov (.t 12), [], none⟩,
 ⟨(some 46), .bin .shr (.t 45) (.c (.int .u64 32)), [5], none⟩,
 ⟨(some 47), .bin .add (.t 44) (.t 46), [4, 6], none⟩,
 ⟨(some 4), .mov (.t 47), [7, 0, 1, 2, 3, 4, 5, 6, 7], none⟩] [] [7, 9, 12, 13, 40, 41, 42, 43, 44, 45, 46, 47])
 (.seq (.region [⟨(some 48), .mov (.t 0), [], none⟩,
 ⟨(some 49), .mov (.t 1), [], none⟩,
 ⟨(some 50), .bin .mul (.t 48) (.t 49), [0, 1], none⟩,
 ⟨(some 5), .mov (.t 50), [2, 0, 1, 2], none⟩] [] [0, 1, 48, 49, 50])
 .ret))))))))))))⟩
theorem ok61 : okFn Try.prog 61 s61 = true := by kernel_rfl
theorem ok62 : okFn Try.prog 62 s62 = true := by kernel_rfl
theorem ok63 : okFn Try.prog 63 s63 = true := by kernel_rfl
theorem ok70 : okFn Try.prog 70 s70 = true := by kernel_rfl
theorem ok71 : okFn Try.prog 71 s71 = true := by kernel_rfl
theorem ok72 : okFn Try.prog 72 s72 = true := by kernel_rfl
theorem ok73 : okFn Try.prog 73 s73 = true := by kernel_rfl
theorem ok74 : okFn Try.prog 74 s74 = true := by kernel_rfl
theorem ok75 : okFn Try.prog 75 s75 = true := by kernel_rfl
theorem ok77 : okFn Try.prog 77 s77 = true := by kernel_rfl
theorem ok80 : okFn Try.prog 80 s80 = true := by kernel_rfl
theorem ok81 : okFn Try.prog 81 s81 = true := by kernel_rfl
end Go.AM.SK
set_option maxRecDepth 100000
namespace Go.AM.SN
open Go.Proofs
def s13 : SFn := ⟨89, [.cell 2 (some 2)],
 (.seq (.region [⟨(some 1), .box .dyn (.t 0), [], none⟩,
 ⟨(some 2), .alloc .dyn (.agg [.nilsl, .nilsl]), [], none⟩] [] [0])
 (.seq (.region [⟨(some 3), .alloc .dyn (.agg [.nilsl, .nilsl]), [], none⟩] [] [])
 (.seq (.seq (.region [⟨(some 4), .mov (.c (.int .i64 0)), [], none⟩] [] [])
 (.block 0 (.loop (.seq (.seq (.region [⟨(some 9), .mov (.t 4), [], none⟩,
 ⟨(some 10), .faddr 0 (.t 1), [], none⟩,
 ⟨(some 11), .load none (.t 10), [1], none⟩,
 ⟨(some 12), .bin .rem (.t 11) (.c (.int .u8 5)), [2], none⟩,
 ⟨(some 13), .conv .i64 (.t 12), [3], none⟩,
 ⟨(some 14), .bin .add (.c (.int .i64 1)) (.t 13), [4], none⟩,
 ⟨(some 15), .bin .lss (.t 9) (.t 14), [0, 5], none⟩] [] [9, 10, 11, 12, 13, 14])
 (.cond (.t 15)
 .skip
 (.exit 0)))
 (.seq (.block 1 (.region [⟨(some 18), .faddr 0 (.t 3), [], none⟩,
 ⟨(some 19), .load none (.t 18), [0], none⟩,
 ⟨(some 20), .mov (.t 4), [], none⟩,
 ⟨(some 21), .faddr 1 (.t 1), [], none⟩,
 ⟨(some 22), .iaddr (some 5) 1 (.t 21) (.t 20), [3, 2], none⟩,
 ⟨(some 23), .load none (.t 22), [4], none⟩,
 ⟨(some 24), .bin .rem (.t 23) (.c (.int .u8 4)), [5], none⟩,
 ⟨(some 25), .conv .i64 (.t 24), [6], none⟩,
 ⟨(some 26), .bslice false .dyn 1 1 [(.int .i64 0)] [(0, 1, (.t 25))], [7], none⟩,
 ⟨(some 27), .append .dyn 1 8 (.t 19) (.t 26), [1, 8], none⟩,
 ⟨(some 28), .faddr 0 (.t 3), [0, 1, 2, 3, 4, 5, 6, 7, 8, 9], none⟩,
 ⟨none, .store 1 (.t 28) (.t 27), [10, 9, 9, 0, 1, 2, 3, 4, 5, 6, 7, 8, 9], none⟩] [] [15, 18, 19, 20, 21, 22, 23, 24, 25, 26, 27, 28]))
 (.region [⟨(some 16), .mov (.t 4), [], none⟩,
 ⟨(some 17), .bin .add (.t 16) (.c (.int .i64 1)), [0], none⟩,
 ⟨(some 4), .mov (.t 17), [1, 0, 1], none⟩] [] [16, 17]))))))
 (.seq (.seq (.region [⟨(some 5), .mov (.c (.int .i64 0)), [], none⟩] [] [4])
 (.block 2 (.loop (.seq (.seq (.region [⟨(some 29), .mov (.t 5), [], none⟩,
 ⟨(some 30), .faddr 6 (.t 1), [], none⟩,
 ⟨(some 31), .load none (.t 30), [1], none⟩,
 ⟨(some 32), .len 1 (.t 31), [2], none⟩,
 ⟨(some 33), .bin .lss (.t 29) (.t 32), [0, 3], none⟩,
 ⟨(some 34), .mov (.t 33), [4], none⟩,
 ⟨(some 35), .mov (.t 5), [5], (some (34, true))⟩,
 ⟨(some 36), .bin .lss (.t 35) (.c (.int .i64 5)), [6, 5], (some (34, true))⟩,
 ⟨(some 37), .pick (.t 34) (.t 36) (.c (.bool false)), [5, 7], none⟩] [] [29, 30, 31, 32, 33, 34])
 (.cond (.t 37)
 .skip
 (.exit 2)))
 (.seq (.block 3 (.seq (.region [⟨(some 40), .mov (.t 5), [], none⟩,
 ⟨(some 41), .build [(.int .i64 0), .nilsl, .nilsl] [(0, 1, (.t 40))], [0], none⟩,
 ⟨(some 6), .alloc .dyn (.agg [(.int .i64 0), .nilsl, .nilsl]), [], none⟩,
 ⟨none, .store 3 (.t 6) (.t 41), [2, 1, 0, 1, 2], none⟩] [] [37, 40, 41])
 (.seq (.seq (.region [⟨(some 7), .mov (.c (.int .i64 0)), [], none⟩] [] [])
 (.block 4 (.loop (.seq (.seq (.region [⟨(some 42), .mov (.t 7), [], none⟩,
 ⟨(some 43), .faddr 0 (.t 3), [], none⟩,
 ⟨(some 44), .load none (.t 43), [1], none⟩,
 ⟨(some 45), .len 1 (.t 44), [2], none⟩,
 ⟨(some 46), .bin .lss (.t 42) (.t 45), [0, 3], none⟩] [] [42, 43, 44, 45])
 (.cond (.t 46)
 .skip
 (.exit 4)))
 (.seq (.block 5 (.seq (.region [⟨(some 49), .faddr 6 (.t 1), [], none⟩,
 ⟨(some 50), .load none (.t 49), [0], none⟩,
 ⟨(some 51), .mov (.t 5), [], none⟩,
 ⟨(some 52), .mov (.t 7), [], none⟩,
 ⟨(some 53), .iaddr none 5 (.t 50) (.t 51), [1, 2], none⟩,
 ⟨(some 54), .iaddr (some 5) 1 (.t 53) (.t 52), [4, 3], none⟩,
 ⟨(some 55), .load none (.t 54), [5], none⟩,
 ⟨(some 56), .bin .rem (.t 55) (.c (.int .u8 9)), [6], none⟩,
 ⟨(some 57), .conv .i64 (.t 56), [7], none⟩,
 ⟨(some 8), .mov (.t 57), [8, 0, 1, 2, 3, 4, 5, 6, 7, 8], none⟩] [] [46, 49, 50, 51, 52, 53, 54, 55, 56, 57])
 (.seq (.seq (.region [⟨(some 58), .mov (.t 8), [], none⟩,
 ⟨(some 59), .bin .quo (.t 58) (.c (.int .i64 3)), [0], none⟩,
 ⟨(some 60), .bin .gtr (.t 59) (.c (.int .i64 0)), [1], none⟩] [] [58, 59])
 (.cond (.t 60)
 (.region [⟨(some 61), .faddr 1 (.t 6), [], none⟩,
 ⟨(some 62), .load none (.t 61), [0], none⟩,
 ⟨(some 63), .mov (.t 7), [], none⟩,
 ⟨(some 64), .mov (.t 8), [], none⟩,
 ⟨(some 65), .bin .quo (.t 64) (.c (.int .i64 3)), [3], none⟩,
 ⟨(some 66), .build [(.int .i64 0), (.int .i64 0)] [(0, 1, (.t 63)), (1, 1, (.t 65))], [2, 4], none⟩,
 ⟨(some 67), .bslice false .dyn 2 1 [(.int .i64 0), (.int .i64 0)] [(0, 2, (.t 66))], [5], none⟩,
 ⟨(some 68), .append .dyn 2 16 (.t 62) (.t 67), [1, 6], none⟩,
 ⟨(some 69), .faddr 1 (.t 6), [0, 1, 2, 3, 4, 5, 6, 7], none⟩,
 ⟨none, .store 1 (.t 69) (.t 68), [8, 7, 7, 0, 1, 2, 3, 4, 5, 6, 7], none⟩] [] [60, 61, 62, 63, 64, 65, 66, 67, 68, 69])
 .skip))
 (.seq (.region [⟨(some 70), .mov (.t 8), [], none⟩,
 ⟨(some 71), .bin .rem (.t 70) (.c (.int .i64 3)), [0], none⟩,
 ⟨(some 72), .bin .gtr (.t 71) (.c (.int .i64 0)), [1], none⟩] [] [60, 70, 71])
 (.cond (.t 72)
 (.region [⟨(some 73), .faddr 2 (.t 6), [], none⟩,
 ⟨(some 74), .load none (.t 73), [0], none⟩,
 ⟨(some 75), .mov (.t 7), [], none⟩,
 ⟨(some 76), .mov (.t 8), [], none⟩,
 ⟨(some 77), .bin .rem (.t 76) (.c (.int .i64 3)), [3], none⟩,
 ⟨(some 78), .build [(.int .i64 0), (.int .i64 0)] [(0, 1, (.t 75)), (1, 1, (.t 77))], [2, 4], none⟩,
 ⟨(some 79), .bslice false .dyn 2 1 [(.int .i64 0), (.int .i64 0)] [(0, 2, (.t 78))], [5], none⟩,
 ⟨(some 80), .append .dyn 2 16 (.t 74) (.t 79), [1, 6], none⟩,
 ⟨(some 81), .faddr 2 (.t 6), [0, 1, 2, 3, 4, 5, 6, 7], none⟩,
 ⟨none, .store 1 (.t 81) (.t 80), [8, 7, 7, 0, 1, 2, 3, 4, 5, 6, 7], none⟩] [] [8, 72, 73, 74, 75, 76, 77, 78, 79, 80, 81])
 .skip)))))
 (.region [⟨(some 47), .mov (.t 7), [], none⟩,
 ⟨(some 48), .bin .add (.t 47) (.c (.int .i64 1)), [0], none⟩,
 ⟨(some 7), .mov (.t 48), [1, 0, 1], none⟩] [] [8, 72, 47, 48]))))))
 (.region [⟨(some 82), .faddr 1 (.t 3), [], none⟩,
 ⟨(some 83), .load none (.t 82), [0], none⟩,
 ⟨(some 84), .load (some 3) (.t 6), [], none⟩,
 ⟨(some 85), .bslice false .dyn 3 1 [(.int .i64 0), .nilsl, .nilsl] [(0, 3, (.t 84))], [2], none⟩,
 ⟨(some 86), .append .dyn 3 56 (.t 83) (.t 85), [1, 3], none⟩,
 ⟨(some 87), .faddr 1 (.t 3), [0, 1, 2, 3, 4], none⟩,
 ⟨none, .store 1 (.t 87) (.t 86), [5, 4, 4, 0, 1, 2, 3, 4], none⟩] [] [6, 7, 82, 83, 84, 85, 86, 87]))))
 (.region [⟨(some 38), .mov (.t 5), [], none⟩,
 ⟨(some 39), .bin .add (.t 38) (.c (.int .i64 1)), [0], none⟩,
 ⟨(some 5), .mov (.t 39), [1, 0, 1], none⟩] [] [38, 39]))))))
 (.seq (.region [⟨(some 88), .load (some 2) (.t 3), [], none⟩,
 ⟨none, .store 2 (.t 2) (.t 88), [0, 0], none⟩] [] [1, 3, 36, 35, 5, 88])
 .ret)))))⟩
def s17 : SFn := ⟨43, [.tmp 4],
 (.seq (.region [⟨(some 2), .box .dyn (.t 0), [], none⟩,
 ⟨(some 4), .mov (.c .nilsl), [], none⟩] [] [0, 4])
 (.seq (.region [⟨(some 10), .load (some 2) (.t 2), [], none⟩,
 ⟨(some 11), .call .pure (.f 22) [(.t 10)], [0], none⟩,
 ⟨(some 5), .mov (.t 11), [1, 1, 0, 1], none⟩] [] [10, 11])
 (.seq (.seq (.region [⟨(some 12), .mov (.t 1), [], none⟩,
 ⟨(some 13), .bin .eql (.t 12) (.c (.int .i64 1)), [0], none⟩] [] [1, 12])
 (.cond (.t 13)
 (.seq (.region [⟨(some 14), .mov (.t 5), [], none⟩,
 ⟨(some 4), .mov (.t 14), [0, 0], none⟩] [] [2, 5, 13, 14])
 .ret)
 .skip))
 (.seq (.region [⟨(some 6), .mov (.c .nilsl), [], none⟩] [] [4, 13])
 (.seq (.seq (.region [⟨(some 7), .mov (.c (.int .i64 0)), [], none⟩] [] [])
 (.block 0 (.loop (.seq (.seq (.region [⟨(some 15), .mov (.t 7), [], none⟩,
 ⟨(some 16), .faddr 1 (.t 2), [], none⟩,
 ⟨(some 17), .load none (.t 16), [1], none⟩,
 ⟨(some 18), .len 1 (.t 17), [2], none⟩,
 ⟨(some 19), .bin .lss (.t 15) (.t 18), [0, 3], none⟩] [] [15, 16, 17, 18])
 (.cond (.t 19)
 .skip
 (.exit 0)))
 (.seq (.block 1 (.seq (.region [⟨(some 8), .mov (.c .nilsl), [], none⟩] [] [19])
 (.seq (.seq (.region [⟨(some 9), .mov (.c (.int .i64 0)), [], none⟩] [] [])
 (.block 2 (.loop (.seq (.seq (.region [⟨(some 22), .mov (.t 9), [], none⟩,
 ⟨(some 23), .mov (.t 5), [], none⟩,
 ⟨(some 24), .len 1 (.t 23), [1], none⟩,
 ⟨(some 25), .bin .lss (.t 22) (.t 24), [0, 2], none⟩] [] [22, 23, 24])
 (.cond (.t 25)
 .skip
 (.exit 2)))
 (.seq (.block 3 (.region [⟨(some 28), .mov (.t 8), [], none⟩,
 ⟨(some 29), .mov (.t 5), [], none⟩,
 ⟨(some 30), .mov (.t 9), [], none⟩,
 ⟨(some 31), .iaddr none 1 (.t 29) (.t 30), [1, 2], none⟩,
 ⟨(some 32), .load none (.t 31), [3], none⟩,
 ⟨(some 33), .mov (.t 7), [], none⟩,
 ⟨(some 34), .iaddr none 1 (.t 32) (.t 33), [4, 5], none⟩,
 ⟨(some 35), .load none (.t 34), [6], none⟩,
 ⟨(some 36), .bslice false .dyn 1 1 [(.int .i64 0)] [(0, 1, (.t 35))], [7], none⟩,
 ⟨(some 37), .append .dyn 1 8 (.t 28) (.t 36), [0, 8], none⟩,
 ⟨(some 8), .mov (.t 37), [9, 9, 0, 1, 2, 3, 4, 5, 6, 7, 8, 9], none⟩] [] [25, 28, 29, 30, 31, 32, 33, 34, 35, 36, 37]))
 (.region [⟨(some 26), .mov (.t 9), [], none⟩,
 ⟨(some 27), .bin .add (.t 26) (.c (.int .i64 1)), [0], none⟩,
 ⟨(some 9), .mov (.t 27), [1, 0, 1], none⟩] [] [26, 27]))))))
 (.region [⟨(some 38), .mov (.t 6), [], none⟩,
 ⟨(some 39), .mov (.t 8), [], none⟩,
 ⟨(some 40), .bslice false .dyn 1 1 [.nilsl] [(0, 1, (.t 39))], [1], none⟩,
 ⟨(some 41), .append .dyn 1 24 (.t 38) (.t 40), [0, 2], none⟩,
 ⟨(some 6), .mov (.t 41), [3, 3, 0, 1, 2, 3], none⟩] [] [8, 9, 38, 39, 40, 41]))))
 (.region [⟨(some 20), .mov (.t 7), [], none⟩,
 ⟨(some 21), .bin .add (.t 20) (.c (.int .i64 1)), [0], none⟩,
 ⟨(some 7), .mov (.t 21), [1, 0, 1], none⟩] [] [20, 21]))))))
 (.seq (.region [⟨(some 42), .mov (.t 6), [], none⟩,
 ⟨(some 4), .mov (.t 42), [0, 0], none⟩] [] [2, 5, 6, 7, 42])
 .ret))))))⟩
def s18 : SFn := ⟨27, [.tmp 4],
 (.seq (.region [⟨(some 4), .mov (.c (.bool false)), [], none⟩] [] [4])
 (.seq (.seq (.region [⟨(some 6), .mov (.t 0), [], none⟩,
 ⟨(some 7), .len 1 (.t 6), [0], none⟩,
 ⟨(some 8), .mov (.t 1), [], none⟩,
 ⟨(some 9), .len 1 (.t 8), [2], none⟩,
 ⟨(some 10), .bin .neq (.t 7) (.t 9), [1, 3], none⟩] [] [6, 7, 8, 9])
 (.cond (.t 10)
 (.seq (.region [⟨(some 4), .mov (.c (.bool false)), [], none⟩] [] [0, 1, 10])
 .ret)
 .skip))
 (.seq (.seq (.region [⟨(some 5), .mov (.c (.int .i64 0)), [], none⟩] [] [4, 10])
 (.block 0 (.loop (.seq (.seq (.region [⟨(some 11), .mov (.t 5), [], none⟩,
 ⟨(some 12), .mov (.t 0), [], none⟩,
 ⟨(some 13), .len 1 (.t 12), [1], none⟩,
 ⟨(some 14), .bin .lss (.t 11) (.t 13), [0, 2], none⟩] [] [11, 12, 13])
 (.cond (.t 14)
 .skip
 (.exit 0)))
 (.seq (.block 1 (.seq (.region [⟨(some 17), .mov (.t 0), [], none⟩,
 ⟨(some 18), .mov (.t 5), [], none⟩,
 ⟨(some 19), .iaddr none 1 (.t 17) (.t 18), [0, 1], none⟩,
 ⟨(some 20), .load none (.t 19), [2], none⟩,
 ⟨(some 21), .mov (.t 1), [], none⟩,
 ⟨(some 22), .mov (.t 5), [], none⟩,
 ⟨(some 23), .iaddr none 1 (.t 21) (.t 22), [4, 5], none⟩,
 ⟨(some 24), .load none (.t 23), [6], none⟩,
 ⟨(some 25), .call .pure (.f 29) [(.t 20), (.t 24)], [3, 7], none⟩,
 ⟨(some 26), .un .not (.t 25), [8], none⟩] [] [14, 17, 18, 19, 20, 21, 22, 23, 24, 25])
 (.cond (.t 26)
 (.seq (.region [⟨(some 4), .mov (.c (.bool false)), [], none⟩] [] [0, 1, 5, 26])
 .ret)
 .skip)))
 (.region [⟨(some 15), .mov (.t 5), [], none⟩,
 ⟨(some 16), .bin .add (.t 15) (.c (.int .i64 1)), [0], none⟩,
 ⟨(some 5), .mov (.t 16), [1, 0, 1], none⟩] [] [4, 26, 15, 16]))))))
 (.seq (.region [⟨(some 4), .mov (.c (.bool true)), [], none⟩] [] [0, 1, 5])
 .ret))))⟩
def s20 : SFn := ⟨15, [.tmp 2],
 (.seq (.region [⟨(some 2), .mov (.c (.bool false)), [], none⟩] [] [2])
 (.seq (.seq (.region [⟨(some 3), .mov (.c (.int .i64 0)), [], none⟩] [] [])
 (.block 0 (.loop (.seq (.seq (.region [⟨(some 4), .mov (.t 3), [], none⟩,
 ⟨(some 5), .mov (.t 0), [], none⟩,
 ⟨(some 6), .len 1 (.t 5), [1], none⟩,
 ⟨(some 7), .bin .lss (.t 4) (.t 6), [0, 2], none⟩] [] [4, 5, 6])
 (.cond (.t 7)
 .skip
 (.exit 0)))
 (.seq (.block 1 (.seq (.region [⟨(some 10), .mov (.t 0), [], none⟩,
 ⟨(some 11), .mov (.t 3), [], none⟩,
 ⟨(some 12), .iaddr none 1 (.t 10) (.t 11), [0, 1], none⟩,
 ⟨(some 13), .load none (.t 12), [2], none⟩,
 ⟨(some 14), .bin .neq (.t 13) (.c (.int .i64 0)), [3], none⟩] [] [7, 10, 11, 12, 13])
 (.cond (.t 14)
 (.seq (.region [⟨(some 2), .mov (.c (.bool false)), [], none⟩] [] [0, 3, 14])
 .ret)
 .skip)))
 (.region [⟨(some 8), .mov (.t 3), [], none⟩,
 ⟨(some 9), .bin .add (.t 8) (.c (.int .i64 1)), [0], none⟩,
 ⟨(some 3), .mov (.t 9), [1, 0, 1], none⟩] [] [2, 14, 8, 9]))))))
 (.seq (.region [⟨(some 2), .mov (.c (.bool true)), [], none⟩] [] [0, 3])
 .ret)))⟩
def s22 : SFn := ⟨46, [.tmp 2],
 (.seq (.region [⟨(some 1), .box .dyn (.t 0), [], none⟩,
 ⟨(some 2), .mov (.c .nilsl), [], none⟩] [] [0, 2])
 (.seq (.region [⟨(some 3), .mov (.c .nilsl), [], none⟩] [] [])
 (.seq (.seq (.region [⟨(some 4), .mov (.c (.int .i64 0)), [], none⟩] [] [])
 (.block 0 (.loop (.seq (.seq (.region [⟨(some 7), .mov (.t 4), [], none⟩,
 ⟨(some 8), .faddr 0 (.t 1), [], none⟩,
 ⟨(some 9), .load none (.t 8), [1], none⟩,
 ⟨(some 10), .len 1 (.t 9), [2], none⟩,
 ⟨(some 11), .bin .lss (.t 7) (.t 10), [0, 3], none⟩] [] [7, 8, 9, 10])
 (.cond (.t 11)
 .skip
 (.exit 0)))
 (.seq (.block 1 (.seq (.region [⟨(some 5), .mov (.c .nilsl), [], none⟩] [] [11])
 (.seq (.seq (.region [⟨(some 6), .mov (.c (.int .i64 0)), [], none⟩] [] [])
 (.block 2 (.loop (.seq (.seq (.region [⟨(some 14), .mov (.t 6), [], none⟩,
 ⟨(some 15), .faddr 1 (.t 1), [], none⟩,
 ⟨(some 16), .load none (.t 15), [1], none⟩,
 ⟨(some 17), .len 1 (.t 16), [2], none⟩,
 ⟨(some 18), .bin .lss (.t 14) (.t 17), [0, 3], none⟩] [] [14, 15, 16, 17])
 (.cond (.t 18)
 .skip
 (.exit 2)))
 (.seq (.block 3 (.region [⟨(some 21), .mov (.t 5), [], none⟩,
 ⟨(some 22), .faddr 1 (.t 1), [], none⟩,
 ⟨(some 23), .load none (.t 22), [1], none⟩,
 ⟨(some 24), .mov (.t 6), [], none⟩,
 ⟨(some 25), .iaddr none 3 (.t 23) (.t 24), [2, 3], none⟩,
 ⟨(some 26), .faddr 2 (.t 25), [4], none⟩,
 ⟨(some 27), .load none (.t 26), [5], none⟩,
 ⟨(some 28), .mov (.t 4), [], none⟩,
 ⟨(some 29), .call .pure (.f 26) [(.t 27), (.t 28)], [6, 7], none⟩,
 ⟨(some 30), .faddr 1 (.t 1), [], none⟩,
 ⟨(some 31), .load none (.t 30), [9], none⟩,
 ⟨(some 32), .mov (.t 6), [], none⟩,
 ⟨(some 33), .iaddr none 3 (.t 31) (.t 32), [10, 11], none⟩,
 ⟨(some 34), .faddr 1 (.t 33), [12], none⟩,
 ⟨(some 35), .load none (.t 34), [13], none⟩,
 ⟨(some 36), .mov (.t 4), [], none⟩,
 ⟨(some 37), .call .pure (.f 26) [(.t 35), (.t 36)], [14, 15, 8], none⟩,
 ⟨(some 38), .bin .sub (.t 29) (.t 37), [8, 16], none⟩,
 ⟨(some 39), .bslice false .dyn 1 1 [(.int .i64 0)] [(0, 1, (.t 38))], [17], none⟩,
 ⟨(some 40), .append .dyn 1 8 (.t 21) (.t 39), [0, 18, 16], none⟩,
 ⟨(some 5), .mov (.t 40), [19, 19, 0, 1, 2, 3, 4, 5, 6, 7, 8, 9, 10, 11, 12, 13, 14, 15, 16, 17, 18, 19], none⟩] [] [18, 21, 22, 23, 24, 25, 26, 27, 28, 29, 30, 31, 32, 33, 34, 35, 36, 37, 38, 39, 40]))
 (.region [⟨(some 19), .mov (.t 6), [], none⟩,
 ⟨(some 20), .bin .add (.t 19) (.c (.int .i64 1)), [0], none⟩,
 ⟨(some 6), .mov (.t 20), [1, 0, 1], none⟩] [] [19, 20]))))))
 (.region [⟨(some 41), .mov (.t 3), [], none⟩,
 ⟨(some 42), .mov (.t 5), [], none⟩,
 ⟨(some 43), .bslice false .dyn 1 1 [.nilsl] [(0, 1, (.t 42))], [1], none⟩,
 ⟨(some 44), .append .dyn 1 24 (.t 41) (.t 43), [0, 2], none⟩,
 ⟨(some 3), .mov (.t 44), [3, 3, 0, 1, 2, 3], none⟩] [] [5, 6, 41, 42, 43, 44]))))
 (.region [⟨(some 12), .mov (.t 4), [], none⟩,
 ⟨(some 13), .bin .add (.t 12) (.c (.int .i64 1)), [0], none⟩,
 ⟨(some 4), .mov (.t 13), [1, 0, 1], none⟩] [] [12, 13]))))))
 (.seq (.region [⟨(some 45), .mov (.t 3), [], none⟩,
 ⟨(some 2), .mov (.t 45), [0, 0], none⟩] [] [1, 3, 4, 45])
 .ret))))⟩
def s23 : SFn := ⟨70, [.tmp 4, .tmp 5],
 (.seq (.region [⟨(some 2), .box .dyn (.t 0), [], none⟩,
 ⟨(some 4), .mov (.c .nilsl), [], none⟩,
 ⟨(some 5), .mov (.c (.int .i64 0)), [1], none⟩] [] [0, 4, 5])
 (.seq (.seq (.region [⟨(some 12), .load (some 2) (.t 2), [], none⟩,
 ⟨(some 13), .mov (.t 1), [], none⟩,
 ⟨(some 14), .call .pure (.f 45) [(.t 12), (.t 13)], [0, 1], none⟩,
 ⟨(some 6), .mov (.t 14), [2, 2, 0, 1, 2], none⟩] [] [12, 13, 14])
 (.seq (.region [⟨(some 15), .mov (.t 6), [], none⟩,
 ⟨(some 16), .bin .neq (.t 15) (.c (.int .i64 0)), [0], none⟩] [] [15])
 (.cond (.t 16)
 (.seq (.region [⟨(some 17), .mov (.t 6), [], none⟩,
 ⟨(some 4), .mov (.c .nilsl), [], none⟩,
 ⟨(some 5), .mov (.t 17), [0, 1, 0, 1], none⟩] [] [1, 2, 6, 16, 17])
 .ret)
 .skip)))
 (.seq (.region [⟨(some 18), .faddr 0 (.t 2), [], none⟩,
 ⟨(some 19), .load none (.t 18), [0], none⟩,
 ⟨(some 20), .len 1 (.t 19), [1], none⟩,
 ⟨(some 21), .mkslice .dyn 1 8 [(.int .i64 0)] (.t 20) (.t 20), [2, 2], none⟩,
 ⟨(some 7), .mov (.t 21), [3, 0, 1, 2, 3], none⟩] [] [4, 5, 6, 16, 18, 19, 20, 21])
 (.seq (.seq (.region [⟨(some 22), .mov (.t 7), [], none⟩,
 ⟨(some 23), .len 1 (.t 22), [0], none⟩,
 ⟨(some 24), .mov (.c (.int .i64 0)), [], none⟩] [] [22])
 (.block 0 (.loop (.seq (.region [⟨(some 25), .bin .lss (.t 24) (.t 23), [], none⟩] [] [])
 (.seq (.cond (.t 25)
 .skip
 (.exit 0))
 (.seq (.block 1 (.seq (.region [⟨(some 26), .mov (.t 24), [], none⟩,
 ⟨(some 8), .mov (.t 26), [0, 0], none⟩] [] [25, 26])
 (.seq (.region [⟨(some 27), .mov (.t 7), [], none⟩,
 ⟨(some 28), .mov (.t 8), [], none⟩,
 ⟨(some 29), .iaddr none 1 (.t 27) (.t 28), [0, 1, 0, 1], none⟩,
 ⟨none, .store 1 (.t 29) (.c (.int .i64 (-1))), [2, 0, 1], none⟩] [] [27, 28, 29])
 (.seq (.region [⟨(some 30), .mov (.t 1), [], none⟩,
 ⟨(some 31), .len 1 (.t 30), [0], none⟩,
 ⟨(some 32), .mov (.c (.int .i64 0)), [], none⟩] [] [])
 (.block 2 (.loop (.seq (.region [⟨(some 33), .bin .lss (.t 32) (.t 31), [], none⟩] [] [])
 (.seq (.cond (.t 33)
 .skip
 (.exit 2))
 (.seq (.block 3 (.seq (.region [⟨(some 34), .iaddr none 1 (.t 30) (.t 32), [], none⟩,
 ⟨(some 35), .load none (.t 34), [0], none⟩,
 ⟨(some 10), .mov (.t 35), [1, 0, 1], none⟩] [] [33, 34, 35])
 (.seq (.seq (.region [⟨(some 36), .mov (.t 10), [], none⟩,
 ⟨(some 37), .mov (.t 8), [], none⟩,
 ⟨(some 38), .iaddr none 1 (.t 36) (.t 37), [0, 1], none⟩,
 ⟨(some 39), .load none (.t 38), [2], none⟩,
 ⟨(some 40), .bin .eql (.t 39) (.c (.int .i64 0)), [3], none⟩] [] [36, 37, 38, 39])
 (.cond (.t 40)
 (.exit 3)
 .skip))
 (.seq (.region [⟨(some 41), .mov (.t 10), [], none⟩,
 ⟨(some 42), .faddr 0 (.t 2), [], none⟩,
 ⟨(some 43), .load none (.t 42), [1], none⟩,
 ⟨(some 44), .call .pure (.f 46) [(.t 41), (.t 43)], [0, 2], none⟩,
 ⟨(some 45), .mov (.t 10), [], none⟩,
 ⟨(some 46), .mov (.t 8), [], none⟩,
 ⟨(some 47), .iaddr none 1 (.t 45) (.t 46), [4, 5], none⟩,
 ⟨(some 48), .load none (.t 47), [6], none⟩,
 ⟨(some 49), .bin .quo (.t 44) (.t 48), [3, 7], none⟩,
 ⟨(some 11), .mov (.t 49), [8, 3, 0, 1, 2, 3, 4, 5, 6, 7, 8], none⟩] [] [10, 40, 41, 42, 43, 44, 45, 46, 47, 48, 49])
 (.seq (.region [⟨(some 50), .mov (.t 7), [], none⟩,
 ⟨(some 51), .mov (.t 8), [], none⟩,
 ⟨(some 52), .iaddr none 1 (.t 50) (.t 51), [0, 1], none⟩,
 ⟨(some 53), .load none (.t 52), [2], none⟩,
 ⟨(some 54), .bin .lss (.t 53) (.c (.int .i64 0)), [3], none⟩,
 ⟨(some 55), .mov (.t 54), [4], none⟩,
 ⟨(some 56), .mov (.t 11), [5], (some (55, false))⟩,
 ⟨(some 57), .mov (.t 7), [5], (some (55, false))⟩,
 ⟨(some 58), .mov (.t 8), [5], (some (55, false))⟩,
 ⟨(some 59), .iaddr none 1 (.t 57) (.t 58), [7, 8, 5], (some (55, false))⟩,
 ⟨(some 60), .load none (.t 59), [9, 5], (some (55, false))⟩,
 ⟨(some 61), .bin .lss (.t 56) (.t 60), [6, 10, 5], (some (55, false))⟩,
 ⟨(some 62), .pick (.t 55) (.c (.bool true)) (.t 61), [5, 11], none⟩] [] [50, 51, 52, 53, 54, 55])
 (.cond (.t 62)
 (.region [⟨(some 63), .mov (.t 7), [], none⟩,
 ⟨(some 64), .mov (.t 8), [], none⟩,
 ⟨(some 65), .mov (.t 11), [], none⟩,
 ⟨(some 66), .iaddr none 1 (.t 63) (.t 64), [0, 1, 0, 1, 2], none⟩,
 ⟨none, .store 1 (.t 66) (.t 65), [3, 2, 0, 1, 2], none⟩] [] [11, 62, 63, 64, 65, 66])
 .skip))))))
 (.region [⟨(some 67), .bin .add (.t 32) (.c (.int .i64 1)), [], none⟩,
 ⟨(some 32), .mov (.t 67), [0], none⟩] [] [11, 62, 67]))))))))))
 (.region [⟨(some 68), .bin .add (.t 24) (.c (.int .i64 1)), [], none⟩,
 ⟨(some 24), .mov (.t 68), [0], none⟩] [] [8, 30, 31, 32, 68])))))))
 (.seq (.region [⟨(some 69), .mov (.t 7), [], none⟩,
 ⟨(some 4), .mov (.t 69), [0, 0], none⟩,
 ⟨(some 5), .mov (.c (.int .i64 0)), [1, 0, 1], none⟩] [] [1, 2, 7, 23, 24, 61, 56, 60, 59, 57, 58, 69])
 .ret)))))⟩
def s24 : SFn := ⟨44, [.tmp 6, .tmp 7, .tmp 8],
 (.seq (.region [⟨(some 3), .box .dyn (.t 0), [], none⟩,
 ⟨(some 6), .mov (.c (.int .i64 0)), [], none⟩,
 ⟨(some 7), .mov (.c (.bool false)), [1], none⟩,
 ⟨(some 8), .mov (.c (.int .i64 0)), [2], none⟩] [] [0, 6, 7, 8])
 (.seq (.seq (.region [⟨(some 13), .load (some 2) (.t 3), [], none⟩,
 ⟨(some 14), .mov (.t 1), [], none⟩,
 ⟨(some 15), .call .pure (.f 45) [(.t 13), (.t 14)], [0, 1], none⟩,
 ⟨(some 9), .mov (.t 15), [2, 2, 0, 1, 2], none⟩] [] [13, 14, 15])
 (.seq (.region [⟨(some 16), .mov (.t 9), [], none⟩,
 ⟨(some 17), .bin .neq (.t 16) (.c (.int .i64 0)), [0], none⟩] [] [16])
 (.cond (.t 17)
 (.seq (.region [⟨(some 18), .mov (.t 9), [], none⟩,
 ⟨(some 6), .mov (.c (.int .i64 0)), [], none⟩,
 ⟨(some 7), .mov (.c (.bool false)), [1, 1], none⟩,
 ⟨(some 8), .mov (.t 18), [0, 2, 0, 1, 2], none⟩] [] [1, 2, 3, 9, 17, 18])
 .ret)
 .skip)))
 (.seq (.seq (.region [⟨(some 19), .mov (.t 2), [], none⟩,
 ⟨(some 20), .faddr 0 (.t 3), [], none⟩,
 ⟨(some 21), .load none (.t 20), [1], none⟩,
 ⟨(some 22), .len 1 (.t 21), [2], none⟩,
 ⟨(some 23), .call .pure (.f 47) [(.t 19), (.t 22)], [0, 3], none⟩,
 ⟨(some 10), .mov (.t 23), [4, 4, 0, 1, 2, 3, 4], none⟩] [] [6, 7, 8, 9, 17, 19, 20, 21, 22, 23])
 (.seq (.region [⟨(some 24), .mov (.t 10), [], none⟩,
 ⟨(some 25), .bin .neq (.t 24) (.c (.int .i64 0)), [0], none⟩] [] [24])
 (.cond (.t 25)
 (.seq (.region [⟨(some 26), .mov (.t 10), [], none⟩,
 ⟨(some 6), .mov (.c (.int .i64 0)), [], none⟩,
 ⟨(some 7), .mov (.c (.bool false)), [1, 1], none⟩,
 ⟨(some 8), .mov (.t 26), [0, 2, 0, 1, 2], none⟩] [] [1, 2, 3, 10, 25, 26])
 .ret)
 .skip)))
 (.seq (.seq (.region [⟨(some 27), .mov (.t 1), [], none⟩,
 ⟨(some 28), .len 1 (.t 27), [0], none⟩,
 ⟨(some 29), .mov (.c (.int .i64 0)), [], none⟩] [] [6, 7, 8, 1, 10, 25])
 (.block 0 (.loop (.seq (.region [⟨(some 30), .bin .lss (.t 29) (.t 28), [], none⟩] [] [])
 (.seq (.cond (.t 30)
 .skip
 (.exit 0))
 (.seq (.block 1 (.seq (.region [⟨(some 31), .mov (.t 29), [], none⟩,
 ⟨(some 32), .iaddr none 1 (.t 27) (.t 29), [], none⟩,
 ⟨(some 33), .load none (.t 32), [1], none⟩,
 ⟨(some 11), .mov (.t 31), [0, 0, 1, 2], none⟩,
 ⟨(some 12), .mov (.t 33), [2, 3, 0, 1, 2, 3], none⟩] [] [30, 31, 32, 33])
 (.seq (.region [⟨(some 34), .mov (.t 12), [], none⟩,
 ⟨(some 35), .mov (.t 2), [], none⟩,
 ⟨(some 36), .call .pure (.f 46) [(.t 34), (.t 35)], [0, 1], none⟩,
 ⟨(some 37), .mov (.t 12), [], none⟩,
 ⟨(some 38), .faddr 0 (.t 3), [], none⟩,
 ⟨(some 39), .load none (.t 38), [4], none⟩,
 ⟨(some 40), .call .pure (.f 46) [(.t 37), (.t 39)], [3, 5, 2], none⟩,
 ⟨(some 41), .bin .neq (.t 36) (.t 40), [2, 6], none⟩] [] [12, 34, 35, 36, 37, 38, 39, 40])
 (.cond (.t 41)
 (.seq (.region [⟨(some 42), .mov (.t 11), [], none⟩,
 ⟨(some 6), .mov (.t 42), [0, 0], none⟩,
 ⟨(some 7), .mov (.c (.bool true)), [1, 0, 1], none⟩,
 ⟨(some 8), .mov (.c (.int .i64 0)), [2, 0, 1, 2], none⟩] [] [2, 3, 27, 28, 29, 11, 41, 42])
 .ret)
 .skip))))
 (.region [⟨(some 43), .bin .add (.t 29) (.c (.int .i64 1)), [], none⟩,
 ⟨(some 29), .mov (.t 43), [0], none⟩] [] [6, 7, 8, 11, 41, 43])))))))
 (.seq (.region [⟨(some 6), .mov (.c (.int .i64 0)), [], none⟩,
 ⟨(some 7), .mov (.c (.bool false)), [0, 0], none⟩,
 ⟨(some 8), .mov (.c (.int .i64 0)), [1, 0, 1], none⟩] [] [2, 3, 27, 28, 29])
 .ret)))))⟩
def s26 : SFn := ⟨24, [.tmp 4],
 (.seq (.region [⟨(some 4), .mov (.c (.int .i64 0)), [], none⟩] [] [4])
 (.seq (.seq (.region [⟨(some 5), .mov (.c (.int .i64 0)), [], none⟩] [] [])
 (.block 0 (.loop (.seq (.seq (.region [⟨(some 6), .mov (.t 5), [], none⟩,
 ⟨(some 7), .mov (.t 0), [], none⟩,
 ⟨(some 8), .len 1 (.t 7), [1], none⟩,
 ⟨(some 9), .bin .lss (.t 6) (.t 8), [0, 2], none⟩] [] [6, 7, 8])
 (.cond (.t 9)
 .skip
 (.exit 0)))
 (.seq (.block 1 (.seq (.region [⟨(some 12), .mov (.t 0), [], none⟩,
 ⟨(some 13), .mov (.t 5), [], none⟩,
 ⟨(some 14), .iaddr none 2 (.t 12) (.t 13), [0, 1], none⟩,
 ⟨(some 15), .faddr 0 (.t 14), [2], none⟩,
 ⟨(some 16), .load none (.t 15), [3], none⟩,
 ⟨(some 17), .mov (.t 1), [], none⟩,
 ⟨(some 18), .bin .eql (.t 16) (.t 17), [4, 5], none⟩] [] [9, 12, 13, 14, 15, 16, 17])
 (.cond (.t 18)
 (.seq (.region [⟨(some 19), .mov (.t 0), [], none⟩,
 ⟨(some 20), .mov (.t 5), [], none⟩,
 ⟨(some 21), .iaddr none 2 (.t 19) (.t 20), [0, 1], none⟩,
 ⟨(some 22), .faddr 1 (.t 21), [2], none⟩,
 ⟨(some 23), .load none (.t 22), [3], none⟩,
 ⟨(some 4), .mov (.t 23), [4, 0, 1, 2, 3, 4], none⟩] [] [0, 1, 5, 18, 19, 20, 21, 22, 23])
 .ret)
 .skip)))
 (.region [⟨(some 10), .mov (.t 5), [], none⟩,
 ⟨(some 11), .bin .add (.t 10) (.c (.int .i64 1)), [0], none⟩,
 ⟨(some 5), .mov (.t 11), [1, 0, 1], none⟩] [] [4, 18, 10, 11]))))))
 (.seq (.region [⟨(some 4), .mov (.c (.int .i64 0)), [], none⟩] [] [0, 1, 5])
 .ret)))⟩
def s29 : SFn := ⟨26, [.tmp 4],
 (.seq (.region [⟨(some 4), .mov (.c (.bool false)), [], none⟩] [] [4])
 (.seq (.seq (.region [⟨(some 6), .mov (.t 0), [], none⟩,
 ⟨(some 7), .len 1 (.t 6), [0], none⟩,
 ⟨(some 8), .mov (.t 1), [], none⟩,
 ⟨(some 9), .len 1 (.t 8), [2], none⟩,
 ⟨(some 10), .bin .neq (.t 7) (.t 9), [1, 3], none⟩] [] [6, 7, 8, 9])
 (.cond (.t 10)
 (.seq (.region [⟨(some 4), .mov (.c (.bool false)), [], none⟩] [] [0, 1, 10])
 .ret)
 .skip))
 (.seq (.seq (.region [⟨(some 5), .mov (.c (.int .i64 0)), [], none⟩] [] [4, 10])
 (.block 0 (.loop (.seq (.seq (.region [⟨(some 11), .mov (.t 5), [], none⟩,
 ⟨(some 12), .mov (.t 0), [], none⟩,
 ⟨(some 13), .len 1 (.t 12), [1], none⟩,
 ⟨(some 14), .bin .lss (.t 11) (.t 13), [0, 2], none⟩] [] [11, 12, 13])
 (.cond (.t 14)
 .skip
 (.exit 0)))
 (.seq (.block 1 (.seq (.region [⟨(some 17), .mov (.t 0), [], none⟩,
 ⟨(some 18), .mov (.t 5), [], none⟩,
 ⟨(some 19), .iaddr none 1 (.t 17) (.t 18), [0, 1], none⟩,
 ⟨(some 20), .load none (.t 19), [2], none⟩,
 ⟨(some 21), .mov (.t 1), [], none⟩,
 ⟨(some 22), .mov (.t 5), [], none⟩,
 ⟨(some 23), .iaddr none 1 (.t 21) (.t 22), [4, 5], none⟩,
 ⟨(some 24), .load none (.t 23), [6], none⟩,
 ⟨(some 25), .bin .neq (.t 20) (.t 24), [3, 7], none⟩] [] [14, 17, 18, 19, 20, 21, 22, 23, 24])
 (.cond (.t 25)
 (.seq (.region [⟨(some 4), .mov (.c (.bool false)), [], none⟩] [] [0, 1, 5, 25])
 .ret)
 .skip)))
 (.region [⟨(some 15), .mov (.t 5), [], none⟩,
 ⟨(some 16), .bin .add (.t 15) (.c (.int .i64 1)), [0], none⟩,
 ⟨(some 5), .mov (.t 16), [1, 0, 1], none⟩] [] [4, 25, 15, 16]))))))
 (.seq (.region [⟨(some 4), .mov (.c (.bool true)), [], none⟩] [] [0, 1, 5])
 .ret))))⟩
def s30 : SFn := ⟨21, [.tmp 2],
 (.seq (.region [⟨(some 2), .mov (.c .nilsl), [], none⟩] [] [2])
 (.seq (.region [⟨(some 3), .mov (.c .nilsl), [], none⟩] [] [])
 (.seq (.seq (.region [⟨(some 6), .mov (.t 0), [], none⟩,
 ⟨(some 7), .len 1 (.t 6), [0], none⟩,
 ⟨(some 8), .mov (.c (.int .i64 0)), [], none⟩] [] [0])
 (.block 0 (.loop (.seq (.region [⟨(some 9), .bin .lss (.t 8) (.t 7), [], none⟩] [] [])
 (.seq (.cond (.t 9)
 .skip
 (.exit 0))
 (.seq (.block 1 (.seq (.region [⟨(some 10), .mov (.t 8), [], none⟩,
 ⟨(some 11), .iaddr none 1 (.t 6) (.t 8), [], none⟩,
 ⟨(some 12), .load none (.t 11), [1], none⟩,
 ⟨(some 4), .mov (.t 10), [0, 0, 1, 2], none⟩,
 ⟨(some 5), .mov (.t 12), [2, 3, 0, 1, 2, 3], none⟩] [] [9, 10, 11, 12])
 (.seq (.region [⟨(some 13), .mov (.t 5), [], none⟩,
 ⟨(some 14), .bin .neq (.t 13) (.c (.int .i64 0)), [0], none⟩] [] [5, 13])
 (.cond (.t 14)
 (.region [⟨(some 15), .mov (.t 3), [], none⟩,
 ⟨(some 16), .mov (.t 4), [], none⟩,
 ⟨(some 17), .bslice false .dyn 1 1 [(.int .i64 0)] [(0, 1, (.t 16))], [1], none⟩,
 ⟨(some 18), .append .dyn 1 8 (.t 15) (.t 17), [0, 2], none⟩,
 ⟨(some 3), .mov (.t 18), [3, 3, 0, 1, 2, 3], none⟩] [] [4, 14, 15, 16, 17, 18])
 .skip))))
 (.region [⟨(some 19), .bin .add (.t 8) (.c (.int .i64 1)), [], none⟩,
 ⟨(some 8), .mov (.t 19), [0], none⟩] [] [4, 14, 19])))))))
 (.seq (.region [⟨(some 20), .mov (.t 3), [], none⟩,
 ⟨(some 2), .mov (.t 20), [0, 0], none⟩] [] [3, 6, 7, 8, 20])
 .ret))))⟩
def s37 : SFn := ⟨58, [.tmp 2],
 (.seq (.region [⟨(some 1), .box .dyn (.t 0), [], none⟩,
 ⟨(some 2), .mov (.c (.int .i64 0)), [], none⟩] [] [0, 2])
 (.seq (.block 0 (.seq (.region [⟨(some 9), .faddr 0 (.t 1), [], none⟩,
 ⟨(some 10), .load none (.t 9), [0], none⟩,
 ⟨(some 11), .len 1 (.t 10), [1], none⟩,
 ⟨(some 12), .bin .gtr (.t 11) (.c (.int .i64 10)), [2], none⟩,
 ⟨(some 8), .mov (.t 12), [3], none⟩] [] [9, 10, 11, 12])
 (.cond (.t 8)
 (.seq (.region [⟨(some 2), .mov (.c (.int .i64 3)), [], none⟩] [] [1, 8])
 .ret)
 (.seq (.region [⟨(some 14), .faddr 0 (.t 1), [], none⟩,
 ⟨(some 15), .load none (.t 14), [0], none⟩,
 ⟨(some 16), .call .pure (.f 57) [(.t 15)], [1], none⟩,
 ⟨(some 17), .un .not (.t 16), [2], none⟩,
 ⟨(some 13), .mov (.t 17), [3, 2], none⟩] [] [8, 14, 15, 16, 17])
 (.cond (.t 13)
 (.seq (.region [⟨(some 2), .mov (.c (.int .i64 2)), [], none⟩] [] [1, 13])
 .ret)
 (.seq (.region [⟨(some 19), .faddr 1 (.t 1), [], none⟩,
 ⟨(some 20), .load none (.t 19), [0], none⟩,
 ⟨(some 21), .len 1 (.t 20), [1], none⟩,
 ⟨(some 22), .bin .gtr (.t 21) (.c (.int .i64 10)), [2], none⟩,
 ⟨(some 18), .mov (.t 22), [3], none⟩] [] [13, 19, 20, 21, 22])
 (.cond (.t 18)
 (.seq (.region [⟨(some 2), .mov (.c (.int .i64 3)), [], none⟩] [] [1, 18])
 .ret)
 .skip)))))))
 (.seq (.seq (.region [⟨(some 23), .faddr 1 (.t 1), [], none⟩,
 ⟨(some 24), .load none (.t 23), [0], none⟩,
 ⟨(some 25), .len 1 (.t 24), [1], none⟩,
 ⟨(some 26), .mov (.c (.int .i64 0)), [], none⟩] [] [2, 18, 23])
 (.block 1 (.loop (.seq (.region [⟨(some 27), .bin .lss (.t 26) (.t 25), [], none⟩] [] [])
 (.seq (.cond (.t 27)
 .skip
 (.exit 1))
 (.seq (.block 2 (.seq (.region [⟨(some 28), .iaddr none 3 (.t 24) (.t 26), [], none⟩,
 ⟨(some 29), .load (some 3) (.t 28), [0], none⟩,
 ⟨(some 4), .alloc .dyn (.agg [(.int .i64 0), .nilsl, .nilsl]), [], none⟩,
 ⟨none, .store 3 (.t 4) (.t 29), [2, 1, 0, 1, 2], none⟩] [] [27, 28, 29])
 (.seq (.seq (.region [⟨(some 30), .faddr 0 (.t 4), [], none⟩,
 ⟨(some 31), .load none (.t 30), [0], none⟩,
 ⟨(some 32), .bin .lss (.t 31) (.c (.int .i64 0)), [1], none⟩,
 ⟨(some 33), .mov (.t 32), [2], none⟩,
 ⟨(some 34), .faddr 0 (.t 4), [3], (some (33, false))⟩,
 ⟨(some 35), .load none (.t 34), [4, 3], (some (33, false))⟩,
 ⟨(some 36), .bin .geq (.t 35) (.c (.int .i64 32)), [5, 3], (some (33, false))⟩,
 ⟨(some 37), .pick (.t 33) (.c (.bool true)) (.t 36), [3, 6], none⟩] [] [30, 31, 32, 33])
 (.cond (.t 37)
 (.seq (.region [⟨(some 2), .mov (.c (.int .i64 2)), [], none⟩] [] [1, 24, 25, 26, 36, 35, 34, 4, 37])
 .ret)
 .skip))
 (.seq (.region [⟨(some 38), .faddr 1 (.t 4), [], none⟩,
 ⟨(some 39), .load none (.t 38), [0], none⟩,
 ⟨(some 40), .faddr 2 (.t 4), [], none⟩,
 ⟨(some 41), .load none (.t 40), [2], none⟩,
 ⟨(some 42), .bslice false .dyn 1 2 [.nilsl, .nilsl] [(0, 1, (.t 39)), (1, 1, (.t 41))], [1, 3], none⟩,
 ⟨(some 43), .len 1 (.t 42), [4], none⟩,
 ⟨(some 44), .mov (.c (.int .i64 0)), [], none⟩] [] [2, 4, 37, 38, 39, 40, 41])
 (.block 3 (.loop (.seq (.region [⟨(some 45), .bin .lss (.t 44) (.t 43), [], none⟩] [] [])
 (.seq (.cond (.t 45)
 .skip
 (.exit 3))
 (.seq (.block 4 (.seq (.region [⟨(some 46), .iaddr none 1 (.t 42) (.t 44), [], none⟩,
 ⟨(some 47), .load none (.t 46), [0], none⟩,
 ⟨(some 6), .mov (.t 47), [1, 0, 1], none⟩] [] [45, 46, 47])
 (.seq (.region [⟨(some 48), .mov (.t 6), [], none⟩,
 ⟨(some 49), .faddr 0 (.t 1), [], none⟩,
 ⟨(some 50), .load none (.t 49), [1], none⟩,
 ⟨(some 51), .len 1 (.t 50), [2], none⟩,
 ⟨(some 52), .call .pure (.f 58) [(.t 48), (.t 51)], [0, 3], none⟩,
 ⟨(some 7), .mov (.t 52), [4, 4, 0, 1, 2, 3, 4], none⟩] [] [6, 48, 49, 50, 51, 52])
 (.seq (.region [⟨(some 53), .mov (.t 7), [], none⟩,
 ⟨(some 54), .bin .neq (.t 53) (.c (.int .i64 0)), [0], none⟩] [] [53])
 (.cond (.t 54)
 (.seq (.region [⟨(some 55), .mov (.t 7), [], none⟩,
 ⟨(some 2), .mov (.t 55), [0, 0], none⟩] [] [1, 24, 25, 26, 36, 35, 34, 42, 43, 44, 7, 54, 55])
 .ret)
 .skip)))))
 (.region [⟨(some 56), .bin .add (.t 44) (.c (.int .i64 1)), [], none⟩,
 ⟨(some 44), .mov (.t 56), [0], none⟩] [] [2, 7, 54, 56]))))))))))
 (.region [⟨(some 57), .bin .add (.t 26) (.c (.int .i64 1)), [], none⟩,
 ⟨(some 26), .mov (.t 57), [0], none⟩] [] [42, 43, 44, 57])))))))
 (.seq (.region [⟨(some 2), .mov (.c (.int .i64 0)), [], none⟩] [] [1, 24, 25, 26, 36, 35, 34])
 .ret))))⟩
def s39 : SFn := ⟨80, [.cell 4 (some 2), .tmp 5],
 (.seq (.region [⟨(some 2), .box .dyn (.t 0), [], none⟩,
 ⟨(some 4), .alloc .dyn (.agg [(.int .i64 0), .nilsl]), [], none⟩,
 ⟨(some 5), .mov (.c (.int .i64 0)), [], none⟩] [] [0, 5])
 (.seq (.region [⟨(some 14), .load (some 2) (.t 2), [], none⟩,
 ⟨(some 15), .call .pure (.f 48) [(.t 14)], [0], none⟩,
 ⟨(some 13), .mov (.t 15), [1], none⟩,
 ⟨(some 16), .extract 0 (.t 13), [2], none⟩,
 ⟨(some 17), .extract 1 (.t 13), [2], none⟩,
 ⟨(some 6), .mov (.t 16), [3, 1, 0, 1, 2, 3], none⟩,
 ⟨(some 7), .mov (.t 17), [4, 5, 0, 1, 2, 3, 4, 5], none⟩] [] [14, 15, 13, 16, 17])
 (.seq (.seq (.region [⟨(some 18), .mov (.t 7), [], none⟩,
 ⟨(some 19), .bin .neq (.t 18) (.c (.int .i64 0)), [0], none⟩] [] [18])
 (.cond (.t 19)
 (.seq (.region [⟨(some 20), .build [(.int .i64 0), .nilsl] [], [], none⟩,
 ⟨(some 21), .mov (.t 7), [], none⟩,
 ⟨none, .store 2 (.t 4) (.t 20), [0, 0], none⟩,
 ⟨(some 5), .mov (.t 21), [1, 2, 0, 1, 2], none⟩] [] [1, 2, 6, 7, 19, 20, 21])
 .ret)
 .skip))
 (.seq (.seq (.region [⟨(some 22), .mov (.t 1), [], none⟩,
 ⟨(some 23), .bin .neq (.t 22) (.c (.int .i64 1)), [0], none⟩,
 ⟨(some 24), .mov (.t 23), [1], none⟩,
 ⟨(some 25), .mov (.t 1), [2], (some (24, true))⟩,
 ⟨(some 26), .bin .neq (.t 25) (.c (.int .i64 2)), [3, 2], (some (24, true))⟩,
 ⟨(some 27), .pick (.t 24) (.t 26) (.c (.bool false)), [2, 4], none⟩] [] [5, 7, 19, 22, 23, 24, 25, 26])
 (.cond (.t 27)
 (.seq (.region [⟨(some 28), .build [(.int .i64 0), .nilsl] [], [], none⟩,
 ⟨none, .store 2 (.t 4) (.t 28), [0, 0], none⟩,
 ⟨(some 5), .mov (.c (.int .i64 11)), [1, 0, 1], none⟩] [] [1, 2, 6, 27, 28])
 .ret)
 .skip))
 (.seq (.region [⟨(some 29), .faddr 0 (.t 2), [], none⟩,
 ⟨(some 30), .load none (.t 29), [0], none⟩,
 ⟨(some 31), .len 1 (.t 30), [1], none⟩,
 ⟨(some 32), .faddr 1 (.t 2), [], none⟩,
 ⟨(some 33), .load none (.t 32), [3], none⟩,
 ⟨(some 34), .len 1 (.t 33), [4], none⟩,
 ⟨(some 35), .mkslice .dyn 10 80 [(.int .i64 0), (.int .i64 0), (.int .i64 0), (.int .i64 0), (.int .i64 0), (.int .i64 0), (.int .i64 0), (.int .i64 0), (.int .i64 0), (.int .i64 0)] (.t 34) (.t 34), [5, 5], none⟩,
 ⟨(some 36), .build [(.int .i64 0), .nilsl] [(0, 1, (.t 31)), (1, 1, (.t 35))], [2, 6], none⟩,
 ⟨(some 8), .alloc .dyn (.agg [(.int .i64 0), .nilsl]), [], none⟩,
 ⟨none, .store 2 (.t 8) (.t 36), [8, 7, 0, 1, 2, 3, 4, 5, 6, 7, 8], none⟩] [] [5, 27, 29, 30, 31, 32, 33, 34, 35, 36])
 (.seq (.seq (.region [⟨(some 37), .mov (.t 1), [], none⟩,
 ⟨(some 38), .bin .eql (.t 37) (.c (.int .i64 2)), [0], none⟩] [] [37])
 (.cond (.t 38)
 (.region [⟨(some 39), .faddr 1 (.t 2), [], none⟩,
 ⟨(some 40), .load none (.t 39), [0], none⟩,
 ⟨(some 41), .len 1 (.t 40), [1], none⟩,
 ⟨(some 42), .faddr 0 (.t 2), [], none⟩,
 ⟨(some 43), .load none (.t 42), [3], none⟩,
 ⟨(some 44), .len 1 (.t 43), [4], none⟩,
 ⟨(some 45), .mkslice .dyn 10 80 [(.int .i64 0), (.int .i64 0), (.int .i64 0), (.int .i64 0), (.int .i64 0), (.int .i64 0), (.int .i64 0), (.int .i64 0), (.int .i64 0), (.int .i64 0)] (.t 44) (.t 44), [5, 5], none⟩,
 ⟨(some 46), .build [(.int .i64 0), .nilsl] [(0, 1, (.t 41)), (1, 1, (.t 45))], [2, 6], none⟩,
 ⟨none, .store 2 (.t 8) (.t 46), [7, 0, 1, 2, 3, 4, 5, 6, 7], none⟩] [] [2, 38, 39, 40, 41, 42, 43, 44, 45, 46])
 .skip))
 (.seq (.seq (.region [⟨(some 47), .mov (.t 6), [], none⟩,
 ⟨(some 48), .len 1 (.t 47), [0], none⟩,
 ⟨(some 49), .mov (.c (.int .i64 0)), [], none⟩] [] [6, 2, 38])
 (.block 0 (.loop (.seq (.region [⟨(some 50), .bin .lss (.t 49) (.t 48), [], none⟩] [] [])
 (.seq (.cond (.t 50)
 .skip
 (.exit 0))
 (.seq (.block 1 (.seq (.region [⟨(some 51), .mov (.t 49), [], none⟩,
 ⟨(some 52), .iaddr none 1 (.t 47) (.t 49), [], none⟩,
 ⟨(some 53), .load none (.t 52), [1], none⟩,
 ⟨(some 9), .mov (.t 51), [0, 0, 1, 2], none⟩,
 ⟨(some 10), .mov (.t 53), [2, 3, 0, 1, 2, 3], none⟩] [] [50, 51, 52, 53])
 (.seq (.region [⟨(some 54), .mov (.t 10), [], none⟩,
 ⟨(some 55), .len 1 (.t 54), [0], none⟩,
 ⟨(some 56), .mov (.c (.int .i64 0)), [], none⟩] [] [10])
 (.block 2 (.loop (.seq (.region [⟨(some 57), .bin .lss (.t 56) (.t 55), [], none⟩] [] [])
 (.seq (.cond (.t 57)
 .skip
 (.exit 2))
 (.seq (.block 3 (.seq (.region [⟨(some 58), .mov (.t 56), [], none⟩,
 ⟨(some 59), .iaddr none 1 (.t 54) (.t 56), [], none⟩,
 ⟨(some 60), .load none (.t 59), [1], none⟩,
 ⟨(some 11), .mov (.t 58), [0, 0, 1, 2], none⟩,
 ⟨(some 12), .mov (.t 60), [2, 3, 0, 1, 2, 3], none⟩] [] [57, 58, 59, 60])
 (.seq (.region [⟨(some 61), .mov (.t 1), [], none⟩,
 ⟨(some 62), .bin .eql (.t 61) (.c (.int .i64 1)), [0], none⟩] [] [61])
 (.cond (.t 62)
 (.region [⟨(some 63), .faddr 1 (.t 8), [], none⟩,
 ⟨(some 64), .load none (.t 63), [0], none⟩,
 ⟨(some 65), .mov (.t 11), [], none⟩,
 ⟨(some 66), .mov (.t 9), [], none⟩,
 ⟨(some 67), .mov (.t 12), [], none⟩,
 ⟨(some 68), .iaddr none 10 (.t 64) (.t 65), [1, 2], none⟩,
 ⟨(some 69), .iaddr (some 10) 1 (.t 68) (.t 66), [5, 3, 0, 1, 2, 3, 4], none⟩,
 ⟨none, .store 1 (.t 69) (.t 67), [6, 4, 0, 1, 2, 3, 4], none⟩] [] [11, 12, 62, 63, 64, 65, 66, 67, 68, 69])
 (.region [⟨(some 70), .faddr 1 (.t 8), [], none⟩,
 ⟨(some 71), .load none (.t 70), [0], none⟩,
 ⟨(some 72), .mov (.t 9), [], none⟩,
 ⟨(some 73), .mov (.t 11), [], none⟩,
 ⟨(some 74), .mov (.t 12), [], none⟩,
 ⟨(some 75), .iaddr none 10 (.t 71) (.t 72), [1, 2], none⟩,
 ⟨(some 76), .iaddr (some 10) 1 (.t 75) (.t 73), [5, 3, 0, 1, 2, 3, 4], none⟩,
 ⟨none, .store 1 (.t 76) (.t 74), [6, 4, 0, 1, 2, 3, 4], none⟩] [] [11, 12, 62, 70, 71, 72, 73, 74, 75, 76])))))
 (.region [⟨(some 77), .bin .add (.t 56) (.c (.int .i64 1)), [], none⟩,
 ⟨(some 56), .mov (.t 77), [0], none⟩] [] [77])))))))))
 (.region [⟨(some 78), .bin .add (.t 49) (.c (.int .i64 1)), [], none⟩,
 ⟨(some 49), .mov (.t 78), [0], none⟩] [] [9, 54, 55, 56, 78])))))))
 (.seq (.region [⟨(some 79), .load (some 2) (.t 8), [], none⟩,
 ⟨none, .store 2 (.t 4) (.t 79), [0, 0], none⟩,
 ⟨(some 5), .mov (.c (.int .i64 0)), [1, 0, 1], none⟩] [] [1, 8, 47, 48, 49, 79])
 .ret))))))))⟩
def s45 : SFn := ⟨36, [.tmp 4],
 (.seq (.region [⟨(some 2), .box .dyn (.t 0), [], none⟩,
 ⟨(some 4), .mov (.c (.int .i64 0)), [], none⟩] [] [0, 4])
 (.seq (.region [⟨(some 11), .load (some 2) (.t 2), [], none⟩,
 ⟨(some 12), .call .pure (.f 39) [(.t 11), (.c (.int .i64 1))], [0], none⟩,
 ⟨(some 10), .mov (.t 12), [1], none⟩,
 ⟨(some 13), .extract 0 (.t 10), [2], none⟩,
 ⟨(some 14), .extract 1 (.t 10), [2], none⟩,
 ⟨(some 5), .alloc .dyn (.agg [(.int .i64 0), .nilsl]), [], none⟩,
 ⟨none, .store 2 (.t 5) (.t 13), [5, 3, 1, 0, 1, 2, 3, 5], none⟩,
 ⟨(some 6), .mov (.t 14), [4, 6, 0, 1, 2, 3, 4, 5, 6], none⟩] [] [2, 11, 12, 10, 13, 14])
 (.seq (.seq (.region [⟨(some 15), .mov (.t 6), [], none⟩,
 ⟨(some 16), .bin .neq (.t 15) (.c (.int .i64 0)), [0], none⟩] [] [15])
 (.cond (.t 16)
 (.seq (.region [⟨(some 17), .mov (.t 6), [], none⟩,
 ⟨(some 4), .mov (.t 17), [0, 0], none⟩] [] [1, 5, 6, 16, 17])
 .ret)
 .skip))
 (.seq (.seq (.region [⟨(some 18), .mov (.t 1), [], none⟩,
 ⟨(some 19), .len 1 (.t 18), [0], none⟩,
 ⟨(some 20), .mov (.c (.int .i64 0)), [], none⟩] [] [4, 1, 6, 16])
 (.block 0 (.loop (.seq (.region [⟨(some 21), .bin .lss (.t 20) (.t 19), [], none⟩] [] [])
 (.seq (.cond (.t 21)
 .skip
 (.exit 0))
 (.seq (.block 1 (.seq (.region [⟨(some 22), .iaddr none 1 (.t 18) (.t 20), [], none⟩,
 ⟨(some 23), .load none (.t 22), [0], none⟩,
 ⟨(some 8), .mov (.t 23), [1, 0, 1], none⟩] [] [21, 22, 23])
 (.seq (.seq (.region [⟨(some 24), .mov (.t 8), [], none⟩,
 ⟨(some 25), .faddr 0 (.t 5), [], none⟩,
 ⟨(some 26), .load none (.t 25), [1], none⟩,
 ⟨(some 27), .call .pure (.f 47) [(.t 24), (.t 26)], [0, 2], none⟩,
 ⟨(some 9), .mov (.t 27), [3, 3, 0, 1, 2, 3], none⟩] [] [24, 25, 26, 27])
 (.seq (.region [⟨(some 28), .mov (.t 9), [], none⟩,
 ⟨(some 29), .bin .neq (.t 28) (.c (.int .i64 0)), [0], none⟩] [] [28])
 (.cond (.t 29)
 (.seq (.region [⟨(some 30), .mov (.t 9), [], none⟩,
 ⟨(some 4), .mov (.t 30), [0, 0], none⟩] [] [5, 18, 19, 20, 8, 9, 29, 30])
 .ret)
 .skip)))
 (.seq (.region [⟨(some 31), .load (some 2) (.t 5), [], none⟩,
 ⟨(some 32), .mov (.t 8), [], none⟩,
 ⟨(some 33), .call .pure (.f 49) [(.t 31), (.t 32)], [0, 1], none⟩,
 ⟨(some 34), .un .not (.t 33), [2], none⟩] [] [4, 8, 9, 29, 31, 32, 33])
 (.cond (.t 34)
 (.seq (.region [⟨(some 4), .mov (.c (.int .i64 6)), [], none⟩] [] [5, 18, 19, 20, 34])
 .ret)
 .skip)))))
 (.region [⟨(some 35), .bin .add (.t 20) (.c (.int .i64 1)), [], none⟩,
 ⟨(some 20), .mov (.t 35), [0], none⟩] [] [4, 34, 35])))))))
 (.seq (.region [⟨(some 4), .mov (.c (.int .i64 0)), [], none⟩] [] [5, 18, 19, 20])
 .ret)))))⟩
def s46 : SFn := ⟨25, [.tmp 4],
 (.seq (.region [⟨(some 4), .mov (.c (.int .i64 0)), [], none⟩] [] [4])
 (.seq (.region [⟨(some 5), .mov (.c (.int .i64 0)), [], none⟩] [] [])
 (.seq (.seq (.region [⟨(some 8), .mov (.t 0), [], none⟩,
 ⟨(some 9), .len 1 (.t 8), [0], none⟩,
 ⟨(some 10), .mov (.c (.int .i64 0)), [], none⟩] [] [0])
 (.block 0 (.loop (.seq (.region [⟨(some 11), .bin .lss (.t 10) (.t 9), [], none⟩] [] [])
 (.seq (.cond (.t 11)
 .skip
 (.exit 0))
 (.seq (.block 1 (.seq (.region [⟨(some 12), .mov (.t 10), [], none⟩,
 ⟨(some 13), .iaddr none 1 (.t 8) (.t 10), [], none⟩,
 ⟨(some 14), .load none (.t 13), [1], none⟩,
 ⟨(some 6), .mov (.t 12), [0, 0, 1, 2], none⟩,
 ⟨(some 7), .mov (.t 14), [2, 3, 0, 1, 2, 3], none⟩] [] [11, 12, 13, 14])
 (.region [⟨(some 15), .mov (.t 5), [], none⟩,
 ⟨(some 16), .mov (.t 7), [], none⟩,
 ⟨(some 17), .mov (.t 1), [], none⟩,
 ⟨(some 18), .mov (.t 6), [], none⟩,
 ⟨(some 19), .iaddr none 1 (.t 17) (.t 18), [2, 3], none⟩,
 ⟨(some 20), .load none (.t 19), [4], none⟩,
 ⟨(some 21), .bin .mul (.t 16) (.t 20), [1, 5], none⟩,
 ⟨(some 22), .bin .add (.t 15) (.t 21), [0, 6], none⟩,
 ⟨(some 5), .mov (.t 22), [7, 0, 1, 2, 3, 4, 5, 6, 7], none⟩] [] [6, 7, 15, 16, 17, 18, 19, 20, 21, 22])))
 (.region [⟨(some 23), .bin .add (.t 10) (.c (.int .i64 1)), [], none⟩,
 ⟨(some 10), .mov (.t 23), [0], none⟩] [] [23])))))))
 (.seq (.region [⟨(some 24), .mov (.t 5), [], none⟩,
 ⟨(some 4), .mov (.t 24), [0, 0], none⟩] [] [1, 5, 8, 9, 10, 24])
 .ret))))⟩
def s47 : SFn := ⟨11, [.tmp 4],
 (.seq (.region [⟨(some 4), .mov (.c (.int .i64 0)), [], none⟩] [] [4])
 (.seq (.seq (.region [⟨(some 5), .mov (.t 0), [], none⟩,
 ⟨(some 6), .len 1 (.t 5), [0], none⟩,
 ⟨(some 7), .mov (.t 1), [], none⟩,
 ⟨(some 8), .bin .neq (.t 6) (.t 7), [1, 2], none⟩] [] [1, 5, 6, 7])
 (.cond (.t 8)
 (.seq (.region [⟨(some 4), .mov (.c (.int .i64 4)), [], none⟩] [] [0, 8])
 .ret)
 .skip))
 (.seq (.region [⟨(some 9), .mov (.t 0), [], none⟩,
 ⟨(some 10), .call .pure (.f 50) [(.t 9)], [0], none⟩,
 ⟨(some 4), .mov (.t 10), [1, 1, 0, 1], none⟩] [] [0, 8, 9, 10])
 .ret)))⟩
def s48 : SFn := ⟨85, [.tmp 2, .tmp 3],
 (.seq (.region [⟨(some 1), .box .dyn (.t 0), [], none⟩,
 ⟨(some 2), .mov (.c .nilsl), [], none⟩,
 ⟨(some 3), .mov (.c (.int .i64 0)), [1], none⟩] [] [0, 2, 3])
 (.seq (.seq (.region [⟨(some 13), .load (some 2) (.t 1), [], none⟩,
 ⟨(some 14), .call .pure (.f 37) [(.t 13)], [0], none⟩,
 ⟨(some 4), .mov (.t 14), [1, 1, 0, 1], none⟩] [] [13, 14])
 (.seq (.region [⟨(some 15), .mov (.t 4), [], none⟩,
 ⟨(some 16), .bin .neq (.t 15) (.c (.int .i64 0)), [0], none⟩] [] [15])
 (.cond (.t 16)
 (.seq (.region [⟨(some 17), .mov (.t 4), [], none⟩,
 ⟨(some 2), .mov (.c .nilsl), [], none⟩,
 ⟨(some 3), .mov (.t 17), [0, 1, 0, 1], none⟩] [] [1, 4, 16, 17])
 .ret)
 .skip)))
 (.seq (.region [⟨(some 18), .faddr 0 (.t 1), [], none⟩,
 ⟨(some 19), .load none (.t 18), [0], none⟩,
 ⟨(some 20), .len 1 (.t 19), [1], none⟩,
 ⟨(some 21), .mkslice .dyn 1 24 [.nilsl] (.t 20) (.t 20), [2, 2], none⟩,
 ⟨(some 5), .mov (.t 21), [3, 0, 1, 2, 3], none⟩] [] [2, 3, 4, 16, 18, 19, 20, 21])
 (.seq (.seq (.region [⟨(some 22), .mov (.t 5), [], none⟩,
 ⟨(some 23), .len 1 (.t 22), [0], none⟩,
 ⟨(some 24), .mov (.c (.int .i64 0)), [], none⟩] [] [22])
 (.block 0 (.loop (.seq (.region [⟨(some 25), .bin .lss (.t 24) (.t 23), [], none⟩] [] [])
 (.seq (.cond (.t 25)
 .skip
 (.exit 0))
 (.seq (.block 1 (.seq (.region [⟨(some 26), .mov (.t 24), [], none⟩,
 ⟨(some 6), .mov (.t 26), [0, 0], none⟩] [] [25, 26])
 (.region [⟨(some 27), .mov (.t 5), [], none⟩,
 ⟨(some 28), .mov (.t 6), [], none⟩,
 ⟨(some 29), .faddr 1 (.t 1), [], none⟩,
 ⟨(some 30), .load none (.t 29), [2], none⟩,
 ⟨(some 31), .len 1 (.t 30), [3], none⟩,
 ⟨(some 32), .mkslice .dyn 1 8 [(.int .i64 0)] (.t 31) (.t 31), [4, 4], none⟩,
 ⟨(some 33), .iaddr none 1 (.t 27) (.t 28), [0, 1, 0, 1, 2, 3, 4, 5], none⟩,
 ⟨none, .store 1 (.t 33) (.t 32), [6, 5, 0, 1, 2, 3, 4, 5], none⟩] [] [6, 27, 28, 29, 30, 31, 32, 33])))
 (.region [⟨(some 34), .bin .add (.t 24) (.c (.int .i64 1)), [], none⟩,
 ⟨(some 24), .mov (.t 34), [0], none⟩] [] [34])))))))
 (.seq (.seq (.region [⟨(some 35), .faddr 1 (.t 1), [], none⟩,
 ⟨(some 36), .load none (.t 35), [0], none⟩,
 ⟨(some 37), .len 1 (.t 36), [1], none⟩,
 ⟨(some 38), .mov (.c (.int .i64 0)), [], none⟩] [] [1, 23, 24, 35])
 (.block 2 (.loop (.seq (.region [⟨(some 39), .bin .lss (.t 38) (.t 37), [], none⟩] [] [])
 (.seq (.cond (.t 39)
 .skip
 (.exit 2))
 (.seq (.block 3 (.seq (.region [⟨(some 40), .mov (.t 38), [], none⟩,
 ⟨(some 41), .iaddr none 3 (.t 36) (.t 38), [], none⟩,
 ⟨(some 42), .load (some 3) (.t 41), [1], none⟩,
 ⟨(some 8), .alloc .dyn (.agg [(.int .i64 0), .nilsl, .nilsl]), [], none⟩,
 ⟨(some 7), .mov (.t 40), [0, 0, 1, 2, 3], none⟩,
 ⟨none, .store 3 (.t 8) (.t 42), [3, 2, 4, 0, 1, 2, 3, 4], none⟩] [] [39, 40, 41, 42])
 (.seq (.seq (.region [⟨(some 43), .faddr 1 (.t 8), [], none⟩,
 ⟨(some 44), .load none (.t 43), [0], none⟩,
 ⟨(some 45), .len 1 (.t 44), [1], none⟩,
 ⟨(some 46), .mov (.c (.int .i64 0)), [], none⟩] [] [43])
 (.block 4 (.loop (.seq (.region [⟨(some 47), .bin .lss (.t 46) (.t 45), [], none⟩] [] [])
 (.seq (.cond (.t 47)
 .skip
 (.exit 4))
 (.seq (.block 5 (.seq (.region [⟨(some 48), .iaddr none 2 (.t 44) (.t 46), [], none⟩,
 ⟨(some 49), .load (some 2) (.t 48), [0], none⟩,
 ⟨(some 10), .alloc .dyn (.agg [(.int .i64 0), (.int .i64 0)]), [], none⟩,
 ⟨none, .store 2 (.t 10) (.t 49), [2, 1, 0, 1, 2], none⟩] [] [47, 48, 49])
 (.region [⟨(some 50), .mov (.t 5), [], none⟩,
 ⟨(some 51), .faddr 0 (.t 10), [], none⟩,
 ⟨(some 52), .load none (.t 51), [1], none⟩,
 ⟨(some 53), .iaddr none 1 (.t 50) (.t 52), [0, 2], none⟩,
 ⟨(some 54), .load none (.t 53), [3], none⟩,
 ⟨(some 55), .mov (.t 7), [], none⟩,
 ⟨(some 56), .iaddr none 1 (.t 54) (.t 55), [4, 5], none⟩,
 ⟨(some 57), .load none (.t 56), [6], none⟩,
 ⟨(some 58), .faddr 1 (.t 10), [], none⟩,
 ⟨(some 59), .load none (.t 58), [8], none⟩,
 ⟨(some 60), .bin .sub (.t 57) (.t 59), [7, 9], none⟩,
 ⟨(some 61), .iaddr none 1 (.t 54) (.t 55), [4, 5, 0, 1, 2, 3, 4, 5, 6, 7, 8, 9, 10], none⟩,
 ⟨none, .store 1 (.t 61) (.t 60), [11, 10, 0, 1, 2, 3, 4, 5, 6, 7, 8, 9, 10], none⟩] [] [10, 50, 51, 52, 53, 54, 55, 56, 57, 58, 59, 60, 61])))
 (.region [⟨(some 62), .bin .add (.t 46) (.c (.int .i64 1)), [], none⟩,
 ⟨(some 46), .mov (.t 62), [0], none⟩] [] [62])))))))
 (.seq (.region [⟨(some 63), .faddr 2 (.t 8), [], none⟩,
 ⟨(some 64), .load none (.t 63), [0], none⟩,
 ⟨(some 65), .len 1 (.t 64), [1], none⟩,
 ⟨(some 66), .mov (.c (.int .i64 0)), [], none⟩] [] [8, 44, 45, 46, 63])
 (.block 6 (.loop (.seq (.region [⟨(some 67), .bin .lss (.t 66) (.t 65), [], none⟩] [] [])
 (.seq (.cond (.t 67)
 .skip
 (.exit 6))
 (.seq (.block 7 (.seq (.region [⟨(some 68), .iaddr none 2 (.t 64) (.t 66), [], none⟩,
 ⟨(some 69), .load (some 2) (.t 68), [0], none⟩,
 ⟨(some 12), .alloc .dyn (.agg [(.int .i64 0), (.int .i64 0)]), [], none⟩,
 ⟨none, .store 2 (.t 12) (.t 69), [2, 1, 0, 1, 2], none⟩] [] [67, 68, 69])
 (.region [⟨(some 70), .mov (.t 5), [], none⟩,
 ⟨(some 71), .faddr 0 (.t 12), [], none⟩,
 ⟨(some 72), .load none (.t 71), [1], none⟩,
 ⟨(some 73), .iaddr none 1 (.t 70) (.t 72), [0, 2], none⟩,
 ⟨(some 74), .load none (.t 73), [3], none⟩,
 ⟨(some 75), .mov (.t 7), [], none⟩,
 ⟨(some 76), .iaddr none 1 (.t 74) (.t 75), [4, 5], none⟩,
 ⟨(some 77), .load none (.t 76), [6], none⟩,
 ⟨(some 78), .faddr 1 (.t 12), [], none⟩,
 ⟨(some 79), .load none (.t 78), [8], none⟩,
 ⟨(some 80), .bin .add (.t 77) (.t 79), [7, 9], none⟩,
 ⟨(some 81), .iaddr none 1 (.t 74) (.t 75), [4, 5, 0, 1, 2, 3, 4, 5, 6, 7, 8, 9, 10], none⟩,
 ⟨none, .store 1 (.t 81) (.t 80), [11, 10, 0, 1, 2, 3, 4, 5, 6, 7, 8, 9, 10], none⟩] [] [12, 70, 71, 72, 73, 74, 75, 76, 77, 78, 79, 80, 81])))
 (.region [⟨(some 82), .bin .add (.t 66) (.c (.int .i64 1)), [], none⟩,
 ⟨(some 66), .mov (.t 82), [0], none⟩] [] [82]))))))))))
 (.region [⟨(some 83), .bin .add (.t 38) (.c (.int .i64 1)), [], none⟩,
 ⟨(some 38), .mov (.t 83), [0], none⟩] [] [7, 64, 65, 66, 83])))))))
 (.seq (.region [⟨(some 84), .mov (.t 5), [], none⟩,
 ⟨(some 2), .mov (.t 84), [0, 0], none⟩,
 ⟨(some 3), .mov (.c (.int .i64 0)), [1, 0, 1], none⟩] [] [5, 36, 37, 38, 84])
 .ret))))))⟩
def s49 : SFn := ⟨39, [.tmp 4],
 (.seq (.region [⟨(some 2), .box .dyn (.t 0), [], none⟩,
 ⟨(some 4), .mov (.c (.bool false)), [], none⟩] [] [0, 4])
 (.seq (.seq (.region [⟨(some 10), .faddr 1 (.t 2), [], none⟩,
 ⟨(some 11), .load none (.t 10), [0], none⟩,
 ⟨(some 12), .len 1 (.t 11), [1], none⟩,
 ⟨(some 13), .mov (.c (.int .i64 0)), [], none⟩] [] [2, 10])
 (.block 0 (.loop (.seq (.region [⟨(some 14), .bin .lss (.t 13) (.t 12), [], none⟩] [] [])
 (.seq (.cond (.t 14)
 .skip
 (.exit 0))
 (.seq (.block 1 (.seq (.region [⟨(some 15), .iaddr none 10 (.t 11) (.t 13), [], none⟩,
 ⟨(some 16), .load (some 10) (.t 15), [0], none⟩,
 ⟨(some 6), .alloc .dyn (.agg [(.int .i64 0), (.int .i64 0), (.int .i64 0), (.int .i64 0), (.int .i64 0), (.int .i64 0), (.int .i64 0), (.int .i64 0), (.int .i64 0), (.int .i64 0)]), [], none⟩,
 ⟨none, .store 10 (.t 6) (.t 16), [2, 1, 0, 1, 2], none⟩] [] [14, 15, 16])
 (.seq (.region [⟨(some 7), .mov (.c (.int .i64 0)), [], none⟩] [] [])
 (.seq (.seq (.region [⟨(some 17), .mov (.t 1), [], none⟩,
 ⟨(some 18), .len 1 (.t 17), [0], none⟩,
 ⟨(some 19), .mov (.c (.int .i64 0)), [], none⟩] [] [])
 (.block 2 (.loop (.seq (.region [⟨(some 20), .bin .lss (.t 19) (.t 18), [], none⟩] [] [])
 (.seq (.cond (.t 20)
 .skip
 (.exit 2))
 (.seq (.block 3 (.seq (.region [⟨(some 21), .mov (.t 19), [], none⟩,
 ⟨(some 22), .iaddr none 1 (.t 17) (.t 19), [], none⟩,
 ⟨(some 23), .load none (.t 22), [1], none⟩,
 ⟨(some 8), .mov (.t 21), [0, 0, 1, 2], none⟩,
 ⟨(some 9), .mov (.t 23), [2, 3, 0, 1, 2, 3], none⟩] [] [20, 21, 22, 23])
 (.region [⟨(some 24), .mov (.t 7), [], none⟩,
 ⟨(some 25), .mov (.t 8), [], none⟩,
 ⟨(some 26), .iaddr (some 10) 1 (.t 6) (.t 25), [1], none⟩,
 ⟨(some 27), .load none (.t 26), [2], none⟩,
 ⟨(some 28), .mov (.t 9), [], none⟩,
 ⟨(some 29), .bin .mul (.t 27) (.t 28), [3, 4], none⟩,
 ⟨(some 30), .bin .add (.t 24) (.t 29), [0, 5], none⟩,
 ⟨(some 7), .mov (.t 30), [6, 0, 1, 2, 3, 4, 5, 6], none⟩] [] [8, 9, 24, 25, 26, 27, 28, 29, 30])))
 (.region [⟨(some 31), .bin .add (.t 19) (.c (.int .i64 1)), [], none⟩,
 ⟨(some 19), .mov (.t 31), [0], none⟩] [] [31])))))))
 (.seq (.region [⟨(some 32), .mov (.t 7), [], none⟩,
 ⟨(some 33), .bin .neq (.t 32) (.c (.int .i64 0)), [0], none⟩] [] [6, 7, 17, 18, 19, 32])
 (.cond (.t 33)
 (.seq (.region [⟨(some 4), .mov (.c (.bool false)), [], none⟩] [] [1, 11, 12, 13, 33])
 .ret)
 .skip))))))
 (.region [⟨(some 34), .bin .add (.t 13) (.c (.int .i64 1)), [], none⟩,
 ⟨(some 13), .mov (.t 34), [0], none⟩] [] [4, 33, 34])))))))
 (.seq (.region [⟨(some 35), .mov (.t 1), [], none⟩,
 ⟨(some 36), .call .pure (.f 30) [(.t 35)], [0], none⟩,
 ⟨(some 37), .len 1 (.t 36), [1], none⟩,
 ⟨(some 38), .bin .gtr (.t 37) (.c (.int .i64 0)), [2], none⟩,
 ⟨(some 4), .mov (.t 38), [3, 1, 0, 1, 2, 3], none⟩] [] [1, 11, 12, 13, 35, 36, 37, 38])
 .ret)))⟩
def s50 : SFn := ⟨5, [.tmp 2],
 (.seq (.region [⟨(some 2), .mov (.c (.int .i64 0)), [], none⟩] [] [2])
 (.seq (.seq (.region [⟨(some 3), .mov (.t 0), [], none⟩,
 ⟨(some 4), .call .pure (.f 66) [(.t 3), (.f 67)], [0], none⟩] [] [0, 3])
 (.cond (.t 4)
 (.seq (.region [⟨(some 2), .mov (.c (.int .i64 2)), [], none⟩] [] [4])
 .ret)
 .skip))
 (.seq (.region [⟨(some 2), .mov (.c (.int .i64 0)), [], none⟩] [] [4])
 .ret)))⟩
def s57 : SFn := ⟨6, [.tmp 2],
 (.seq (.region [⟨(some 2), .mov (.c (.bool false)), [], none⟩] [] [2])
 (.seq (.region [⟨(some 3), .mov (.t 0), [], none⟩,
 ⟨(some 4), .call .pure (.f 66) [(.t 3), (.f 69)], [0], none⟩,
 ⟨(some 5), .un .not (.t 4), [1], none⟩,
 ⟨(some 2), .mov (.t 5), [2, 1, 0, 1, 2], none⟩] [] [0, 3, 4, 5])
 .ret))⟩
def s58 : SFn := ⟨48, [.tmp 4],
 (.seq (.region [⟨(some 4), .mov (.c (.int .i64 0)), [], none⟩] [] [4])
 (.seq (.seq (.region [⟨(some 7), .mov (.t 0), [], none⟩,
 ⟨(some 8), .len 1 (.t 7), [0], none⟩,
 ⟨(some 9), .mov (.c (.int .i64 0)), [], none⟩] [] [])
 (.block 0 (.loop (.seq (.region [⟨(some 10), .bin .lss (.t 9) (.t 8), [], none⟩] [] [])
 (.seq (.cond (.t 10)
 .skip
 (.exit 0))
 (.seq (.block 1 (.seq (.region [⟨(some 11), .mov (.t 9), [], none⟩,
 ⟨(some 12), .iaddr none 2 (.t 7) (.t 9), [], none⟩,
 ⟨(some 13), .load (some 2) (.t 12), [1], none⟩,
 ⟨(some 6), .alloc .dyn (.agg [(.int .i64 0), (.int .i64 0)]), [], none⟩,
 ⟨(some 5), .mov (.t 11), [0, 0, 1, 2, 3], none⟩,
 ⟨none, .store 2 (.t 6) (.t 13), [3, 2, 4, 0, 1, 2, 3, 4], none⟩] [] [10, 11, 12, 13])
 (.block 2 (.seq (.region [⟨(some 15), .faddr 0 (.t 6), [], none⟩,
 ⟨(some 16), .load none (.t 15), [0], none⟩,
 ⟨(some 17), .bin .lss (.t 16) (.c (.int .i64 0)), [1], none⟩,
 ⟨(some 18), .mov (.t 17), [2], none⟩,
 ⟨(some 19), .faddr 0 (.t 6), [3], (some (18, false))⟩,
 ⟨(some 20), .load none (.t 19), [4, 3], (some (18, false))⟩,
 ⟨(some 21), .mov (.t 1), [3], (some (18, false))⟩,
 ⟨(some 22), .bin .geq (.t 20) (.t 21), [5, 6, 3], (some (18, false))⟩,
 ⟨(some 23), .pick (.t 18) (.c (.bool true)) (.t 22), [3, 7], none⟩,
 ⟨(some 14), .mov (.t 23), [8, 3], none⟩] [] [15, 16, 17, 18, 23])
 (.cond (.t 14)
 (.seq (.region [⟨(some 4), .mov (.c (.int .i64 2)), [], none⟩] [] [0, 1, 7, 8, 9, 45, 44, 43, 36, 29, 35, 34, 33, 30, 32, 31, 28, 22, 20, 21, 19, 6, 5, 14])
 .ret)
 (.seq (.region [⟨(some 25), .mov (.t 5), [], none⟩,
 ⟨(some 26), .bin .gtr (.t 25) (.c (.int .i64 0)), [0], none⟩,
 ⟨(some 27), .mov (.t 26), [1], none⟩,
 ⟨(some 28), .faddr 0 (.t 6), [2], (some (27, true))⟩,
 ⟨(some 29), .load none (.t 28), [3, 2], (some (27, true))⟩,
 ⟨(some 30), .mov (.t 0), [2], (some (27, true))⟩,
 ⟨(some 31), .mov (.t 5), [2], (some (27, true))⟩,
 ⟨(some 32), .bin .sub (.t 31) (.c (.int .i64 1)), [6, 2], (some (27, true))⟩,
 ⟨(some 33), .iaddr none 2 (.t 30) (.t 32), [5, 7, 2], (some (27, true))⟩,
 ⟨(some 34), .faddr 0 (.t 33), [8, 2], (some (27, true))⟩,
 ⟨(some 35), .load none (.t 34), [9, 2], (some (27, true))⟩,
 ⟨(some 36), .bin .leq (.t 29) (.t 35), [4, 10, 2], (some (27, true))⟩,
 ⟨(some 37), .pick (.t 27) (.t 36) (.c (.bool false)), [2, 11], none⟩,
 ⟨(some 24), .mov (.t 37), [12, 2], none⟩] [] [5, 14, 25, 26, 27, 37])
 (.cond (.t 24)
 (.seq (.region [⟨(some 4), .mov (.c (.int .i64 5)), [], none⟩] [] [0, 1, 7, 8, 9, 45, 44, 43, 36, 29, 35, 34, 33, 30, 32, 31, 28, 22, 20, 21, 19, 6, 24])
 .ret)
 (.seq (.region [⟨(some 39), .faddr 1 (.t 6), [], none⟩,
 ⟨(some 40), .load none (.t 39), [0], none⟩,
 ⟨(some 41), .bin .lss (.t 40) (.c (.int .i64 1)), [1], none⟩,
 ⟨(some 42), .mov (.t 41), [2], none⟩,
 ⟨(some 43), .faddr 1 (.t 6), [3], (some (42, false))⟩,
 ⟨(some 44), .load none (.t 43), [4, 3], (some (42, false))⟩,
 ⟨(some 45), .bin .gtr (.t 44) (.c (.int .i64 8)), [5, 3], (some (42, false))⟩,
 ⟨(some 46), .pick (.t 42) (.c (.bool true)) (.t 45), [3, 6], none⟩,
 ⟨(some 38), .mov (.t 46), [7, 3], none⟩] [] [6, 24, 39, 40, 41, 42, 46])
 (.cond (.t 38)
 (.seq (.region [⟨(some 4), .mov (.c (.int .i64 2)), [], none⟩] [] [0, 1, 7, 8, 9, 45, 44, 43, 36, 29, 35, 34, 33, 30, 32, 31, 28, 22, 20, 21, 19, 38])
 .ret)
 .skip)))))))))
 (.region [⟨(some 47), .bin .add (.t 9) (.c (.int .i64 1)), [], none⟩,
 ⟨(some 9), .mov (.t 47), [0], none⟩] [] [4, 38, 47])))))))
 (.seq (.region [⟨(some 4), .mov (.c (.int .i64 0)), [], none⟩] [] [0, 1, 7, 8, 9, 45, 44, 43, 36, 29, 35, 34, 33, 30, 32, 31, 28, 22, 20, 21, 19])
 .ret)))⟩
def s66 : SFn := ⟨9, [.tmp 4],
 (.seq (.region [⟨(some 4), .mov (.c (.bool false)), [], none⟩] [] [4])
 (.seq (.region [⟨(some 5), .mov (.t 0), [], none⟩,
 ⟨(some 6), .mov (.t 1), [], none⟩,
 ⟨(some 7), .call .pure (.f 76) [(.t 5), (.t 6)], [0, 1], none⟩,
 ⟨(some 8), .bin .geq (.t 7) (.c (.int .i64 0)), [2], none⟩,
 ⟨(some 4), .mov (.t 8), [3, 2, 0, 1, 2, 3], none⟩] [] [0, 1, 5, 6, 7, 8])
 .ret))⟩
def s67 : SFn := ⟨9, [.tmp 2],
 (.seq (.region [⟨(some 2), .mov (.c (.bool false)), [], none⟩] [] [2])
 (.seq (.region [⟨(some 3), .mov (.t 0), [], none⟩,
 ⟨(some 4), .bin .lss (.t 3) (.c (.int .i64 0)), [0], none⟩,
 ⟨(some 5), .mov (.t 4), [1], none⟩,
 ⟨(some 6), .mov (.t 0), [2], (some (5, false))⟩,
 ⟨(some 7), .bin .gtr (.t 6) (.c (.int .i64 65536)), [3, 2], (some (5, false))⟩,
 ⟨(some 8), .pick (.t 5) (.c (.bool true)) (.t 7), [2, 4], none⟩,
 ⟨(some 2), .mov (.t 8), [5, 2, 0, 1, 2, 3, 4, 5], none⟩] [] [0, 3, 4, 5, 6, 7, 8])
 .ret))⟩
def s69 : SFn := ⟨9, [.tmp 2],
 (.seq (.region [⟨(some 2), .mov (.c (.bool false)), [], none⟩] [] [2])
 (.seq (.region [⟨(some 3), .mov (.t 0), [], none⟩,
 ⟨(some 4), .bin .lss (.t 3) (.c (.int .i64 0)), [0], none⟩,
 ⟨(some 5), .mov (.t 4), [1], none⟩,
 ⟨(some 6), .mov (.t 0), [2], (some (5, false))⟩,
 ⟨(some 7), .bin .gtr (.t 6) (.c (.int .i64 65536)), [3, 2], (some (5, false))⟩,
 ⟨(some 8), .pick (.t 5) (.c (.bool true)) (.t 7), [2, 4], none⟩,
 ⟨(some 2), .mov (.t 8), [5, 2, 0, 1, 2, 3, 4, 5], none⟩] [] [0, 3, 4, 5, 6, 7, 8])
 .ret))⟩
def s76 : SFn := ⟨19, [.tmp 4],
 (.seq (.region [⟨(some 4), .mov (.c (.int .i64 0)), [], none⟩] [] [4])
 (.seq (.seq (.region [⟨(some 6), .mov (.t 0), [], none⟩,
 ⟨(some 7), .len 1 (.t 6), [0], none⟩,
 ⟨(some 8), .mov (.c (.int .i64 0)), [], none⟩] [] [6])
 (.block 0 (.loop (.seq (.region [⟨(some 9), .bin .lss (.t 8) (.t 7), [], none⟩] [] [])
 (.seq (.cond (.t 9)
 .skip
 (.exit 0))
 (.seq (.block 1 (.seq (.region [⟨(some 10), .mov (.t 8), [], none⟩,
 ⟨(some 5), .mov (.t 10), [0, 0], none⟩] [] [9, 10])
 (.seq (.region [⟨(some 11), .mov (.t 1), [], none⟩,
 ⟨(some 12), .mov (.t 0), [], none⟩,
 ⟨(some 13), .mov (.t 5), [], none⟩,
 ⟨(some 14), .iaddr none 1 (.t 12) (.t 13), [1, 2], none⟩,
 ⟨(some 15), .load none (.t 14), [3], none⟩,
 ⟨(some 16), .call .pure (.t 11) [(.t 15)], [0, 4], none⟩] [] [11, 12, 13, 14, 15])
 (.cond (.t 16)
 (.seq (.region [⟨(some 17), .mov (.t 5), [], none⟩,
 ⟨(some 4), .mov (.t 17), [0, 0], none⟩] [] [0, 1, 7, 8, 5, 16, 17])
 .ret)
 .skip))))
 (.region [⟨(some 18), .bin .add (.t 8) (.c (.int .i64 1)), [], none⟩,
 ⟨(some 8), .mov (.t 18), [0], none⟩] [] [4, 5, 16, 18])))))))
 (.seq (.region [⟨(some 4), .mov (.c (.int .i64 (-1))), [], none⟩] [] [0, 1, 7, 8])
 .ret)))⟩
theorem ok13 : okFn Try.prog 13 s13 = true := by kernel_rfl
theorem ok17 : okFn Try.prog 17 s17 = true := by kernel_rfl
theorem ok18 : okFn Try.prog 18 s18 = true := by kernel_rfl
theorem ok20 : okFn Try.prog 20 s20 = true := by kernel_rfl
theorem ok22 : okFn Try.prog 22 s22 = true := by kernel_rfl
theorem ok23 : okFn Try.prog 23 s23 = true := by kernel_rfl
theorem ok24 : okFn Try.prog 24 s24 = true := by kernel_rfl
theorem ok26 : okFn Try.prog 26 s26 = true := by kernel_rfl
theorem ok29 : okFn Try.prog 29 s29 = true := by kernel_rfl
theorem ok30 : okFn Try.prog 30 s30 = true := by kernel_rfl
theorem ok37 : okFn Try.prog 37 s37 = true := by kernel_rfl
theorem ok39 : okFn Try.prog 39 s39 = true := by kernel_rfl
theorem ok45 : okFn Try.prog 45 s45 = true := by kernel_rfl
theorem ok46 : okFn Try.prog 46 s46 = true := by kernel_rfl
theorem ok47 : okFn Try.prog 47 s47 = true := by kernel_rfl
theorem ok48 : okFn Try.prog 48 s48 = true := by kernel_rfl
theorem ok49 : okFn Try.prog 49 s49 = true := by kernel_rfl
theorem ok50 : okFn Try.prog 50 s50 = true := by kernel_rfl
theorem ok57 : okFn Try.prog 57 s57 = true := by kernel_rfl
theorem ok58 : okFn Try.prog 58 s58 = true := by kernel_rfl
theorem ok66 : okFn Try.prog 66 s66 = true := by kernel_rfl
theorem ok67 : okFn Try.prog 67 s67 = true := by kernel_rfl
theorem ok69 : okFn Try.prog 69 s69 = true := by kernel_rfl
theorem ok76 : okFn Try.prog 76 s76 = true := by kernel_rfl
end Go.AM.SN
set_option linter.unusedSimpArgs false
set_option linter.unusedVariables false
namespace Go.AM
open Go.RowKit
variable {P : Program}
def WR (P : Program) (base : Nat) : Nat → List SOper → Tmps → Heap → (Tmps → Heap → Prop) → Prop
  | _, [], T, h, K => K T h
  | i, s :: r, T, h, K => ∃ f v h1, StepV P (base + i) s T h v h1 f ∧ WR P base (i + 1) r (putD T s.dst v) h1 K
theorem WR.toF {base : Nat} : ∀ {r : List SOper} {i : Nat} {T : Tmps} {h : Heap} {K : Tmps → Heap → Prop}, WR P base i r T h K → ∃ fs T' h', RunF P base i r fs ⟨T, h⟩ ⟨T', h'⟩ ∧ K T' h'
  | [], i, T, h, K, hk => ⟨[], T, h, ⟨rfl, rfl⟩, hk⟩
  | s :: r, i, T, h, K, ⟨f, v, h1, hs, hr⟩ => by
    obtain ⟨fs, T', h', h2, hk⟩ := WR.toF hr
    exact ⟨f :: fs, T', h', ⟨f, fs, v, h1, rfl, hs, h2⟩, hk⟩
theorem W.regionR {N : Nat} {Q : SX → St → Prop} {T : Tmps} {h : Heap} {sops : List SOper} {dead : List Nat} (base : Nat)
    (hr : WR P base 0 sops T h fun T h => Q .normal ⟨rm T dead, h⟩) : W P N (.region sops [] dead) Q ⟨T, h⟩ := by
  obtain ⟨fs, T', h', h1, h2⟩ := WR.toF hr
  exact W.regionF base fs h1 (by simp) h2
section
variable {base i : Nat} {d : Option Nat} {s : SOp} {af : List Nat} {r : List SOper} {T : Tmps} {h h1 : Heap} {K : Tmps → Heap → Prop} {v : AV}
theorem WR.val (hm : (aop (base + i) T s).run h = some (.val v, h1)) (k : WR P base (i + 1) r (putD T d v) h1 K) : WR P base i (⟨d, s, af, none⟩ :: r) T h K :=
  ⟨_, v, h1, ⟨_, h1, hm, rfl, rfl, rfl⟩, k⟩
theorem WR.pure {f : Nat} {args : List AV} (hm : (aop (base + i) T s).run h = some (.call .pure f args, h1)) (hp : PSpec P f args v) (k : WR P base (i + 1) r (putD T d v) h1 K) :
    WR P base i (⟨d, s, af, none⟩ :: r) T h K :=
  ⟨_, v, h1, ⟨_, h1, hm, hp, rfl, rfl⟩, k⟩
theorem WR.heap {f : Nat} {args : List AV} {h2 : Heap} (hm : (aop (base + i) T s).run h = some (.call .heap f args, h2)) (hp : HSpec P f args h2 v h1) (k : WR P base (i + 1) r (putD T d v) h1 K) :
    WR P base i (⟨d, s, af, none⟩ :: r) T h K :=
  ⟨_, v, h1, ⟨_, h2, hm, hp, rfl⟩, k⟩
end
end Go.AM
set_option linter.unusedSimpArgs false
set_option linter.unusedVariables false
namespace Go.AM
variable {P : Program}
structure NM where
  n : Nat
  m : Nat
structure Evo2 (m : Nat) (c : Ctx) (w : World) (c' : Ctx) (w' : World) : Prop where
  os : w'.os = w.os
  tape : w'.tape = w.tape
  output : w'.output = w.output
  size : w.heap.size ≤ w'.heap.size
  shape : ∀ (cb : Nat) (C : Array Value) (e : TypeId) (fr : Nat × Nat), w.heap[cb]? = some (.cells C e fr) → ∃ (C' : Array Value) (fr' : Nat × Nat), w'.heap[cb]? = some (.cells C' e fr') ∧ C'.size = C.size
  keep : ∀ cb, cb < w.heap.size → ¬ c.O cb → w'.heap[cb]? = w.heap[cb]?
  rho : ∀ b g p, b < m → c.ρ b g = some p → c'.ρ b g = some p
  frz : ∀ cb, c.F cb → c'.F cb
  frzNew : ∀ cb, c'.F cb → c.F cb ∨ c.O cb ∨ w.heap.size ≤ cb
  own : ∀ cb, c'.O cb → c.O cb ∨ w.heap.size ≤ cb
theorem Evo.to2 {m : Nat} {c c' : Ctx} {w w' : World} (E : Evo c w c' w') : Evo2 m c w c' w' :=
  ⟨E.os, E.tape, E.output, E.size, E.shape, E.keep, fun b g p _ h => E.rho b g p h, E.frz, E.frzNew, E.own⟩
theorem Evo2.refl {m : Nat} (c : Ctx) (w : World) : Evo2 m c w c w := (Evo.refl c w).to2
theorem Evo2.trans {m : Nat} {c1 c2 c3 : Ctx} {w1 w2 w3 : World} (a : Evo2 m c1 w1 c2 w2) (b : Evo2 m c2 w2 c3 w3) : Evo2 m c1 w1 c3 w3 where
  os := b.os.trans a.os
  tape := b.tape.trans a.tape
  output := b.output.trans a.output
  size := Nat.le_trans a.size b.size
  shape := fun cb C e fr h => by
    obtain ⟨C', fr', h', e'⟩ := a.shape cb C e fr h
    obtain ⟨C'', fr'', h'', e''⟩ := b.shape cb C' e fr' h'
    exact ⟨C'', fr'', h'', e''.trans e'⟩
  keep := fun cb hlt hO => by
    rw [b.keep cb (Nat.lt_of_lt_of_le hlt a.size) (fun h => (a.own cb h).elim hO (by omega)), a.keep cb hlt hO]
  rho := fun b' g p hb h => b.rho _ _ _ hb (a.rho _ _ _ hb h)
  frz := fun cb h => b.frz _ (a.frz _ h)
  frzNew := fun cb h => by
    rcases b.frzNew cb h with h | h | h
    · exact a.frzNew cb h
    · rcases a.own cb h with h | h
      · exact .inr (.inl h)
      · exact .inr (.inr h)
    · exact .inr (.inr (Nat.le_trans a.size h))
  own := fun cb h => by
    rcases b.own cb h with h | h
    · exact a.own cb h
    · exact .inr (Nat.le_trans a.size h)
def W2 (P : Program) (N : NM) (sc : SCode) (Q : SX → St → Prop) (A : St) : Prop :=
  ∀ code, okCode P N.n code sc = true → ∀ (c : Ctx) (a : Act) (w : World), SRel N.n c A a w → ∀ (Q' : Exit → Act → World → Prop),
    (∀ e B c' a' w', Q e B → SRel N.n c' B a' w' → Evo2 N.m c w c' w' → Q' e.toExit a' w') → code.wp P Q' a w
section rules
variable {N : NM} {Q : SX → St → Prop} {A : St}
theorem W2.of_W {sc : SCode} (h : W P N.n sc Q A) : W2 P N sc Q A :=
  fun code hok c a w S R hR => h code hok c a w S R fun e B c' a' w' hQ S' E' => hR e B c' a' w' hQ S' E'.to2
theorem W2.mono {sc : SCode} {Q' : SX → St → Prop} (h : W2 P N sc Q A) (hq : ∀ e B, Q e B → Q' e B) : W2 P N sc Q' A :=
  fun code hok c a w S R hR => h code hok c a w S R fun e B c' a' w' hQ S' E' => hR e B c' a' w' (hq e B hQ) S' E'
theorem W2.congr {sc : SCode} {B : St} (h : W2 P N sc Q A) (e : SEq B A) : W2 P N sc Q B :=
  fun code hok c a w S R hR => h code hok c a w (S.congr e) R hR
theorem W2.skip (h : Q .normal A) : W2 P N .skip Q A := .of_W (.skip h)
theorem W2.ret (h : Q .ret A) : W2 P N .ret Q A := .of_W (.ret h)
theorem W2.exit {i : Nat} (h : Q (.exit i) A) : W2 P N (.exit i) Q A := .of_W (.exit h)
theorem W2.seq {x y : SCode} (h : W2 P N x (fun e B => match e with | .normal => W2 P N y Q B | e => Q e B) A) : W2 P N (.seq x y) Q A := by
  intro code hok c a w S Q' hQ
  cases code <;> simp only [okCode, Bool.false_eq_true, Bool.and_eq_true] at hok
  rename_i cx cy
  refine wp_seq (h cx hok.1 c a w S _ ?_)
  intro e B c' a' w' hq S' E'
  cases e with
  | normal => exact hq cy hok.2 c' a' w' S' Q' fun e2 B2 c2 a2 w2 h2 S2 E2 => hQ e2 B2 c2 a2 w2 h2 S2 (E'.trans E2)
  | exit i => exact hQ (.exit i) B c' a' w' hq S' E'
  | ret => exact hQ .ret B c' a' w' hq S' E'
theorem W2.cond {x : Opd} {y z : SCode} {t : Bool} (hx : ev A.T x = .bool t) (h1 : t = true → W2 P N y Q A) (h2 : t = false → W2 P N z Q A) : W2 P N (.cond x y z) Q A := by
  intro code hok c a w S Q' hQ
  cases code <;> simp only [okCode, Bool.false_eq_true, Bool.and_eq_true] at hok
  rename_i o cy cz
  have hr := okOpd_rel S.tmps hok.1.1
  rw [hx] at hr
  simp only [VRel] at hr
  refine wp_cond hr ?_
  cases t with
  | true => exact h1 rfl cy hok.1.2 c a w S Q' hQ
  | false => exact h2 rfl cz hok.2 c a w S Q' hQ
theorem W2.block {i : Nat} {b : SCode} (h : W2 P N b (fun e B => match e with | .exit j => if j = i then Q .normal B else Q (.exit j) B | e => Q e B) A) : W2 P N (.block i b) Q A := by
  intro code hok c a w S Q' hQ
  cases code <;> simp only [okCode, Bool.false_eq_true, Bool.and_eq_true, beq_iff_eq] at hok
  rename_i j cb
  obtain ⟨rfl, hok⟩ := hok
  refine wp_block (h cb hok c a w S _ ?_)
  intro e B c' a' w' hq S' E'
  cases e with
  | normal => exact hQ .normal B c' a' w' hq S' E'
  | ret => exact hQ .ret B c' a' w' hq S' E'
  | exit k =>
    simp only at hq
    show (if k = j then Q' .normal a' w' else Q' (.exit k) a' w')
    split
    · rename_i e; rw [if_pos e] at hq; exact hQ .normal B c' a' w' hq S' E'
    · rename_i e; rw [if_neg e] at hq; exact hQ (.exit k) B c' a' w' hq S' E'
def WL2 (P : Program) (N : NM) (b : SCode) (Q : SX → St → Prop) (A : St) : Prop :=
  ∀ cb, okCode P N.n cb b = true → ∀ (c : Ctx) (a : Act) (w : World), SRel N.n c A a w → ∀ (Q' : Exit → Act → World → Prop),
    (∀ e B c' a' w', Q e B → SRel N.n c' B a' w' → Evo2 N.m c w c' w' → Q' e.toExit a' w') → ∀ bf k cs,
      ∃ e a' w', Q' e a' w' ∧ Arrives P (lone (bf.at a (.code cb :: .inLoop cb :: k)) cs w) bf k cs e a' w'
theorem WL2.loop {b : SCode} (h : WL2 P N b Q A) : W2 P N (.loop b) Q A := by
  intro code hok c a w S Q' hQ
  cases code <;> simp only [okCode, Bool.false_eq_true] at hok
  intro bf k cs
  obtain ⟨e, a', w', hq, harr⟩ := h _ hok c a w S Q' hQ bf k cs
  exact ⟨e, a', w', hq, .of_steps (.one step_loop) harr⟩
theorem WL2.round {b : SCode} (h : W2 P N b (fun e B => match e with | .normal => WL2 P N b Q B | e => Q e B) A) : WL2 P N b Q A := by
  intro cb hok c a w S Q' hQ bf k cs
  obtain ⟨e, a', w', hq, harr⟩ := h cb hok c a w S (fun e a' w' => match e with
    | .normal => ∃ e2 a2 w2, Q' e2 a2 w2 ∧ Arrives P (lone (bf.at a' (.code cb :: .inLoop cb :: k)) cs w') bf k cs e2 a2 w2
    | e => Q' e a' w') (by
      intro e B c2 a2 w2 hq S2 E2
      cases e with
      | normal => exact hq cb hok c2 a2 w2 S2 Q' (fun e3 B3 c3 a3 w3 h3 S3 E3 => hQ e3 B3 c3 a3 w3 h3 S3 (E2.trans E3)) bf k cs
      | ret => exact hQ .ret B c2 a2 w2 hq S2 E2
      | exit i => exact hQ (.exit i) B c2 a2 w2 hq S2 E2) bf (.inLoop cb :: k) cs
  cases e with
  | normal =>
    obtain ⟨e3, a3, w3, hq3, harr3⟩ := hq
    exact ⟨e3, a3, w3, hq3, .of_steps (Steps.trans harr (.one step_inLoop)) harr3⟩
  | exit i => exact ⟨_, a', w', hq, .pass (x := .inLoop cb) rfl (fun _ _ => .inl (by simp)) harr⟩
  | goto l => exact ⟨_, a', w', hq, .pass (x := .inLoop cb) rfl (fun _ _ => .inl (by simp)) harr⟩
  | ret => exact ⟨_, a', w', hq, .pass (x := .inLoop cb) rfl (fun _ _ => .inl (by simp)) harr⟩
  | panic ch => exact ⟨_, a', w', hq, .pass (x := .inLoop cb) rfl (fun _ _ => .inl (by simp)) harr⟩
  | outgrown => exact ⟨_, a', w', hq, .pass (x := .inLoop cb) rfl (fun _ _ => .inl (by simp)) harr⟩
theorem W2.loop {b : SCode} (I : Nat → St → Prop) (n : Nat) (h0 : I n A)
    (round : ∀ n B, I n B → W2 P N b (fun e C => match e with | .normal => ∃ m, m < n ∧ I m C | e => Q e C) B) : W2 P N (.loop b) Q A := by
  refine WL2.loop ?_
  have key : ∀ n B, I n B → WL2 P N b Q B := by
    intro n
    induction n using Nat.strongRecOn with
    | _ n ih =>
      intro B hI
      refine WL2.round ((round n B hI).mono ?_)
      intro e C hq
      cases e with
      | normal => obtain ⟨m, hm, hIm⟩ := hq; exact ih m hm C hIm
      | exit i => exact hq
      | ret => exact hq
  exact key n A h0
end rules
inductive Src where
  | nil
  | blk (b g : Nat)
def Mapped (m : Nat) (π : Nat → Option Src) (h : Heap) (c : Ctx) (k : Nat) : Prop :=
  (∃ b g base, b < m ∧ Live h b g ∧ c.ρ b g = some (.loc k base)) ∨ ∃ b' b g base, m ≤ b' ∧ π b' = some (.blk b g) ∧ c.ρ b g = some (.loc k base)
def nctx (m : Nat) (π : Nat → Option Src) (h : Heap) (c : Ctx) : Ctx where
  ρ := fun b' g' => if b' < m then c.ρ b' g' else if g' = 0 then (match π b' with | some .nil => some .nil | some (.blk b g) => c.ρ b g | none => none) else none
  F := fun k => c.F k ∨ (c.O k ∧ ¬ Mapped m π h c k)
  O := fun k => c.O k ∧ Mapped m π h c k
structure Maps (m : Nat) (π : Nat → Option Src) (h : Heap) : Prop where
  live : ∀ b' b g, m ≤ b' → π b' = some (.blk b g) → Live h b g ∧ m ≤ b
  inj : ∀ b1 b2 b g g2, m ≤ b1 → m ≤ b2 → π b1 = some (.blk b g) → π b2 = some (.blk b g2) → b1 = b2
def Rn (m : Nat) (π : Nat → Option Src) (h : Heap) (x y : AV) : Prop := ∀ (c : Ctx) (w : World) (v : Value), HRel c h w → Maps m π h → VRel c w y v → VRel (nctx m π h c) w x v
def RnL (m : Nat) (π : Nat → Option Src) (h : Heap) : List AV → List AV → Prop
  | [], [] => True
  | x :: xs, y :: ys => Rn m π h x y ∧ RnL m π h xs ys
  | _, _ => False
def RnM (m : Nat) (π : Nat → Option Src) (h : Heap) : List (AV × AV) → List (AV × AV) → Prop
  | [], [] => True
  | x :: xs, y :: ys => (Rn m π h x.1 y.1 ∧ Rn m π h x.2 y.2) ∧ RnM m π h xs ys
  | _, _ => False
section
variable {m : Nat} {π : Nat → Option Src} {h : Heap}
theorem nctx_base {c : Ctx} {b g : Nat} (hm : b < m) : (nctx m π h c).ρ b g = c.ρ b g := if_pos hm
theorem nctx_blk {c : Ctx} {b' b g : Nat} (hm : m ≤ b') (hp : π b' = some (.blk b g)) : (nctx m π h c).ρ b' 0 = c.ρ b g := by
  show (if b' < m then c.ρ b' 0 else if 0 = 0 then (match π b' with | some .nil => some .nil | some (.blk b g) => c.ρ b g | none => none) else none) = _
  rw [if_neg (by omega), if_pos rfl, hp]
theorem nctx_nil {c : Ctx} {b' : Nat} (hm : m ≤ b') (hp : π b' = some .nil) : (nctx m π h c).ρ b' 0 = some .nil := by
  show (if b' < m then c.ρ b' 0 else if 0 = 0 then (match π b' with | some .nil => some .nil | some (.blk b g) => c.ρ b g | none => none) else none) = _
  rw [if_neg (by omega), if_pos rfl, hp]
theorem nctx_none {c : Ctx} {b' g : Nat} (hm : m ≤ b') (hp : π b' = none) : (nctx m π h c).ρ b' g = none := by
  show (if b' < m then c.ρ b' g else if g = 0 then (match π b' with | some .nil => some .nil | some (.blk b g) => c.ρ b g | none => none) else none) = _
  rw [if_neg (by omega), hp]; simp
theorem nctx_later {c : Ctx} {b' g : Nat} (hm : m ≤ b') (hg : g ≠ 0) : (nctx m π h c).ρ b' g = none := by
  show (if b' < m then c.ρ b' g else if g = 0 then (match π b' with | some .nil => some .nil | some (.blk b g) => c.ρ b g | none => none) else none) = _
  rw [if_neg (by omega), if_neg hg]
theorem Rn.any {y : AV} : Rn m π h .any y := fun c w v _ _ _ => by simp [VRel]
theorem Rn.same {x : AV} (hn : noRef x = true) : Rn m π h x x := fun c w v _ _ hv => VRel.noRef (c := c) (c' := nctx m π h c) (fun _ hk => .inl hk) _ _ hn hv
theorem Rn.ptr {b' b g off : Nat} (hm : m ≤ b') (hp : π b' = some (.blk b g)) : Rn m π h (.ptr b' 0 off) (.ptr b g off) := fun c w v _ _ hv => by
  simp only [VRel] at hv ⊢
  obtain ⟨cb, base, h1, h2⟩ := hv
  exact ⟨cb, base, (nctx_blk hm hp).trans h1, h2⟩
theorem Rn.map {b' b g : Nat} (hm : m ≤ b') (hp : π b' = some (.blk b g)) : Rn m π h (.map b' 0) (.map b g) := fun c w v _ _ hv => by
  simp only [VRel] at hv ⊢
  obtain ⟨cb, h1, h2⟩ := hv
  exact ⟨cb, (nctx_blk hm hp).trans h1, h2⟩
theorem Rn.sl {b' b g off len sz : Nat} (hm : m ≤ b') (hp : π b' = some (.blk b g)) : Rn m π h (.sl b' 0 off len sz) (.sl b g off len sz) := fun c w v _ _ hv => by
  have e : (nctx m π h c).ρ b' 0 = c.ρ b g := nctx_blk hm hp
  simp only [VRel] at hv ⊢
  rw [e]
  exact hv
theorem Rn.slnil {b' sz : Nat} (hm : m ≤ b') (hp : π b' = some .nil) : Rn m π h (.sl b' 0 0 0 sz) .nilsl := fun c w v _ _ hv => by
  simp only [VRel] at hv ⊢
  exact .inl ⟨nctx_nil hm hp, by simp, by simp, hv⟩
theorem Rn.ptrB {b g off : Nat} (hm : b < m) : Rn m π h (.ptr b g off) (.ptr b g off) := fun c w v _ _ hv => by
  have e : (nctx m π h c).ρ b g = c.ρ b g := nctx_base hm
  simp only [VRel] at hv ⊢
  rw [e]; exact hv
theorem Rn.mapB {b g : Nat} (hm : b < m) : Rn m π h (.map b g) (.map b g) := fun c w v _ _ hv => by
  have e : (nctx m π h c).ρ b g = c.ρ b g := nctx_base hm
  simp only [VRel] at hv ⊢
  rw [e]; exact hv
theorem Rn.slB {b g off len sz : Nat} (hm : b < m) : Rn m π h (.sl b g off len sz) (.sl b g off len sz) := fun c w v _ _ hv => by
  have e : (nctx m π h c).ρ b g = c.ρ b g := nctx_base hm
  simp only [VRel] at hv ⊢
  rw [e]; exact hv
theorem RnL.same : ∀ {xs : List AV}, noRefs xs = true → RnL m π h xs xs
  | [], _ => trivial
  | x :: xs, hn => by
    simp only [noRefs, Bool.and_eq_true] at hn
    exact ⟨Rn.same hn.1, RnL.same hn.2⟩
theorem RnL.eq {xs ys : List AV} (e : xs = ys) (hn : noRefs xs = true) : RnL m π h xs ys := e ▸ RnL.same hn
theorem RnL.length : ∀ {xs ys : List AV}, RnL m π h xs ys → xs.length = ys.length
  | [], [], _ => rfl
  | [], _ :: _, hh => hh.elim
  | _ :: _, [], hh => hh.elim
  | x :: xs, y :: ys, hh => by simp [RnL.length hh.2]
theorem RnL.append : ∀ {xs ys us vs : List AV}, RnL m π h xs ys → RnL m π h us vs → RnL m π h (xs ++ us) (ys ++ vs)
  | [], [], _, _, _, h2 => h2
  | [], _ :: _, _, _, hh, _ => hh.elim
  | _ :: _, [], _, _, hh, _ => hh.elim
  | x :: xs, y :: ys, _, _, hh, h2 => ⟨hh.1, RnL.append hh.2 h2⟩
theorem RnL.one {x y : AV} (hh : Rn m π h x y) : RnL m π h [x] [y] := ⟨hh, trivial⟩
theorem RnL.pre {c : Ctx} {w : World} (H : HRel c h w) (M : Maps m π h) : ∀ {xs ys : List AV} {vs : List Value}, RnL m π h xs ys → VPre c w ys vs → VPre (nctx m π h c) w xs vs
  | [], [], _, _, _ => by simp [VPre]
  | [], _ :: _, _, hh, _ => hh.elim
  | _ :: _, [], _, hh, _ => hh.elim
  | x :: xs, y :: ys, vs, hh, hv => by
    simp only [VPre] at hv ⊢
    obtain ⟨v, vs', rfl, g1, g2⟩ := hv
    exact ⟨v, vs', rfl, hh.1 c w v H M g1, RnL.pre H M hh.2 g2⟩
theorem RnL.rels {c : Ctx} {w : World} (H : HRel c h w) (M : Maps m π h) : ∀ {xs ys : List AV} {vs : List Value}, RnL m π h xs ys → VRels c w ys vs → VRels (nctx m π h c) w xs vs
  | [], [], _, _, hv => by simpa [VRels] using hv
  | [], _ :: _, _, hh, _ => hh.elim
  | _ :: _, [], _, hh, _ => hh.elim
  | x :: xs, y :: ys, vs, hh, hv => by
    simp only [VRels] at hv ⊢
    obtain ⟨v, vs', rfl, g1, g2⟩ := hv
    exact ⟨v, vs', rfl, hh.1 c w v H M g1, RnL.rels H M hh.2 g2⟩
theorem Rn.agg {xs ys : List AV} (hL : RnL m π h xs ys) : Rn m π h (.agg xs) (.agg ys) := fun c w v H M hv => by
  simp only [VRel] at hv ⊢
  obtain ⟨vs, rfl, hv⟩ := hv
  exact ⟨vs, rfl, hL.rels H M hv⟩
theorem Rn.tup {xs ys : List AV} (hL : RnL m π h xs ys) : Rn m π h (.tup xs) (.tup ys) := fun c w v H M hv => by
  simp only [VRel] at hv ⊢
  obtain ⟨vs, rfl, hv⟩ := hv
  exact ⟨vs, rfl, hL.rels H M hv⟩
theorem Rn.fn {f : Nat} {xs ys us vs : List AV} (hL : RnL m π h xs ys) (hK : RnL m π h us vs) : Rn m π h (.fn f xs us) (.fn f ys vs) := fun c w v H M hv => by
  simp only [VRel] at hv ⊢
  obtain ⟨x', y', rfl, h1, h2⟩ := hv
  exact ⟨x', y', rfl, hL.rels H M h1, hK.rels H M h2⟩
theorem Rn.ifc {t : Nat} {x y : AV} (hh : Rn m π h x y) : Rn m π h (.ifc t x) (.ifc t y) := fun c w v H M hv => by
  simp only [VRel] at hv ⊢
  obtain ⟨x', rfl, h1⟩ := hv
  exact ⟨x', rfl, hh c w _ H M h1⟩
theorem Maps.out {c : Ctx} {w : World} (H : HRel c h w) (M : Maps m π h) {b g cb base : Nat} (hl : Live h b g) (hp : c.ρ b g = some (.loc cb base)) (hm : m ≤ b) (hn : ∀ b' g', m ≤ b' → π b' ≠ some (.blk b g')) : ¬ Mapped m π h c cb := by
  rintro (⟨b1, g1, base1, h1, hl1, h2⟩ | ⟨b', b1, g1, base1, h0, h1, h2⟩)
  · have := H.inj _ _ _ _ _ _ _ hl hl1 hp h2
    omega
  · obtain ⟨l1, l2⟩ := M.live _ _ _ h0 h1
    have := H.inj _ _ _ _ _ _ _ hl l1 hp h2
    subst this
    exact hn _ _ h0 h1
theorem Rn.frz {b g off len sz : Nat} {cs ds : List AV} (hb : h.get b = some (.cells g ds)) (hm : m ≤ b) (hn : ∀ b' g', m ≤ b' → π b' ≠ some (.blk b g')) (hl : off + len * sz ≤ ds.length)
    (hL : RnL m π h cs ((ds.drop off).take (len * sz))) : Rn m π h (.fsl cs len sz) (.sl b g off len sz) := fun c w v H M hv => by
  have hlen := hL.length
  simp only [VRel] at hv
  rcases hv with ⟨hp, rfl, rfl, rfl⟩ | ⟨cb, base, o, cap, C, e, fr, hp, rfl, hlc, hC, hcap⟩
  · have hys : cs = [] := by
      apply List.eq_nil_of_length_eq_zero
      rw [hlen]; simp
    subst hys
    simp only [VRel]; exact .inl (by simp)
  · obtain ⟨C', e', fr', hO, hC', hfr, hbs, hpre⟩ := H.here hb hp
    have hout := M.out H ⟨_, hb, rfl, fun k => by simp⟩ hp hm hn
    rw [hC] at hC'; cases hC'
    by_cases h0 : cap = 0
    · have hl0 : len = 0 := by omega
      subst hl0
      have hys : cs = [] := by
        apply List.eq_nil_of_length_eq_zero
        rw [hlen]; simp
      subst hys
      simp only [VRel]
      exact .inr ⟨cb, o, cap, C, e, fr, rfl, hlc, by simp, .inr ⟨hO, hout⟩, hC, by simp [VPre]⟩
    · obtain ⟨rfl, hbd⟩ := hcap.resolve_left h0
      have hp2 := VPre_take (len * sz) (VPre_drop off hpre)
      rw [List.drop_drop] at hp2
      simp only [VRel]
      exact .inr ⟨cb, base + off, cap, C, e, fr, rfl, hlc, by rw [hlen]; simp; omega, .inr ⟨hO, hout⟩, hC, hL.pre H M hp2⟩
def BRn (m : Nat) (π : Nat → Option Src) (h : Heap) : Option Src → Blk → Prop
  | some .nil, .cells _ cs => cs = []
  | some (.blk b g), .cells _ cs => ∃ ds k, h.get b = some (.cells g ds) ∧ RnL m π h cs (ds.take k)
  | some (.blk b g), .map _ es => ∃ fs, h.get b = some (.map g fs) ∧ RnM m π h es fs
  | some (.blk b g), .dead _ => h.get b = some (.dead g)
  | _, _ => False
def RH (m : Nat) (π : Nat → Option Src) (h h' : Heap) : Prop := ∀ b' x', h'.get b' = some x' → (b' < m ∧ BRn m π h (some (.blk b' x'.gen)) x') ∨ (m ≤ b' ∧ x'.gen = 0 ∧ (∀ g, x' ≠ .dead g) ∧ BRn m π h (π b') x')
def RD (m : Nat) (π : Nat → Option Src) (h h' : Heap) : Prop := ∀ b', h'.get b' = none → (b' < m → h.get b' = none) ∧ (m ≤ b' → π b' = none)
def RT (m : Nat) (π : Nat → Option Src) (h : Heap) (T' T : Tmps) : Prop := ∀ i, Rn m π h (lk T' i) (lk T i)
theorem RnM.rel {c : Ctx} {w : World} (H : HRel c h w) (M : Maps m π h) : ∀ {xs ys : List (AV × AV)} {es : List MapEntry} {k : Nat}, RnM m π h xs ys → MRel c w ys es k → MRel (nctx m π h c) w xs es k
  | [], [], _, _, _, hv => by simpa [MRel] using hv
  | [], _ :: _, _, _, hh, _ => hh.elim
  | _ :: _, [], _, _, hh, _ => hh.elim
  | (k1, x1) :: xs, (k2, x2) :: ys, es, k, hh, hv => by
    simp only [MRel] at hv ⊢
    obtain ⟨e, es', rfl, h2, h3, h4, h5, h6⟩ := hv
    have hl : xs.length = ys.length := by
      have : ∀ {xs ys : List (AV × AV)}, RnM m π h xs ys → xs.length = ys.length := by
        intro xs
        induction xs with
        | nil => intro ys hh; cases ys with | nil => rfl | cons => exact hh.elim
        | cons x xs ih => intro ys hh; cases ys with | nil => exact hh.elim | cons y ys => simp [ih hh.2]
      exact this hh.2
    exact ⟨e, es', rfl, hh.1.1 c w _ H M h2, hh.1.2 c w _ H M h3, h4, by rw [hl]; exact h5, RnM.rel H M hh.2 h6⟩
theorem RnM.length : ∀ {xs ys : List (AV × AV)}, RnM m π h xs ys → xs.length = ys.length
  | [], [], _ => rfl
  | [], _ :: _, hh => hh.elim
  | _ :: _, [], hh => hh.elim
  | x :: xs, y :: ys, hh => by simp [RnM.length hh.2]
theorem RH.hrel {h' : Heap} {c : Ctx} {w : World} (hb : RH m π h h') (hd : RD m π h h') (M : Maps m π h) (H : HRel c h w) : HRel (nctx m π h c) h' w := by
  have base : ∀ b' x', b' < m → BRn m π h (some (.blk b' x'.gen)) x' → ∃ x, h.get b' = some x ∧ x.gen = x'.gen ∧ ((∀ k, x' ≠ .dead k) → ∀ k, x ≠ .dead k) := by
    intro b' x' _ hx
    cases x' with
    | cells g cs => obtain ⟨ds, _, h1, _⟩ := hx; exact ⟨_, h1, rfl, fun _ k => by simp⟩
    | map g es => obtain ⟨ds, h1, _⟩ := hx; exact ⟨_, h1, rfl, fun _ k => by simp⟩
    | dead g => exact ⟨_, hx, rfl, fun hh => absurd rfl (hh g)⟩
  refine ⟨?_, ?_, ?_, ?_, ?_, ?_, ?_⟩
  · intro b' hg g
    obtain ⟨d1, d2⟩ := hd b' hg
    rcases Nat.lt_or_ge b' m with hlt | hlt
    · rw [nctx_base hlt]; exact H.fresh b' (d1 hlt) g
    · exact nctx_none hlt (d2 hlt)
  · intro b' x' hg g hlt
    rcases hb b' x' hg with ⟨hm, hx⟩ | ⟨hm, h0, _, hx⟩
    · obtain ⟨x, h1, h2, _⟩ := base b' x' hm hx
      rw [nctx_base hm]
      exact H.later b' x h1 g (by omega)
    · exact nctx_later hm (by omega)
  · intro b' x' hg
    have own : ∀ (b g : Nat), (b < m ∧ Live h b g) ∨ (m ≤ b' ∧ π b' = some (.blk b g)) → ∀ cb base, c.ρ b g = some (.loc cb base) → c.O cb → (nctx m π h c).O cb := by
      intro b g hs cb base hp hO
      refine ⟨hO, ?_⟩
      rcases hs with ⟨h1, h2⟩ | ⟨h1, h2⟩
      · exact .inl ⟨b, g, base, h1, h2, hp⟩
      · exact .inr ⟨b', b, g, base, h1, h2, hp⟩
    have main : ∀ (b g : Nat), ((b < m ∧ Live h b g) ∨ (m ≤ b' ∧ π b' = some (.blk b g))) ∨ (∃ k, x' = .dead k) → (nctx m π h c).ρ b' x'.gen = c.ρ b g → BRn m π h (some (.blk b g)) x' → BRel (nctx m π h c) w b' x' := by
      intro b g hs hr hx
      cases x' with
      | dead k => trivial
      | cells g' cs =>
        have hs := hs.resolve_right (by simp)
        obtain ⟨ds, kk, h1, h2⟩ := hx
        change (nctx m π h c).ρ b' g' = _ at hr
        rcases H.blk b _ h1 with ⟨k1, rfl⟩ | ⟨cb, bs, C, e, fr, k1, k2, k3, k4, k5, k6⟩
        · left
          refine ⟨hr.trans k1, ?_⟩
          rw [List.take_nil] at h2
          cases cs with
          | nil => rfl
          | cons => exact h2.elim
        · right
          exact ⟨cb, bs, C, e, fr, hr.trans k1, own b g hs cb bs k1 k2, k3, k4, k5, h2.pre H M (VPre_take kk k6)⟩
      | map g' es =>
        have hs := hs.resolve_right (by simp)
        obtain ⟨fs, h1, h2⟩ := hx
        change (nctx m π h c).ρ b' g' = _ at hr
        obtain ⟨cb, es', clock, k1, k2, k3, k4⟩ := H.blk b _ h1
        exact ⟨cb, es', clock, hr.trans k1, own b g hs cb 0 k1 k2, k3, h2.rel H M k4.1, by rw [h2.length]; exact k4.2⟩
    rcases hb b' x' hg with ⟨hm, hx⟩ | ⟨hm, h0, hnd, hx⟩
    · obtain ⟨x, h1, h2, h3⟩ := base b' x' hm hx
      refine main b' x'.gen ?_ (nctx_base hm) hx
      by_cases hdead : ∃ k, x' = .dead k
      · exact .inr hdead
      · exact .inl (.inl ⟨hm, x, h1, h2, h3 fun k e => hdead ⟨k, e⟩⟩)
    · rcases hp : π b' with _ | _ | ⟨b, g⟩
      · rw [hp] at hx; exact hx.elim
      · rw [hp] at hx
        cases x' with
        | dead k => trivial
        | map g' es => exact hx.elim
        | cells g' cs =>
          have hx : cs = [] := hx
          have h0 : g' = 0 := h0
          subst h0
          left
          exact ⟨nctx_nil hm hp, hx⟩
      · rw [hp] at hx
        refine main b g (.inl (.inr ⟨hm, hp⟩)) ?_ hx
        rw [h0]; exact nctx_blk hm hp
  · intro b1 g1 b2 g2 cb base1 base2 l1 l2 p1 p2
    have key : ∀ b1 g1 base1, Live h' b1 g1 → (nctx m π h c).ρ b1 g1 = some (.loc cb base1) → (b1 < m ∧ Live h b1 g1 ∧ c.ρ b1 g1 = some (.loc cb base1)) ∨ (m ≤ b1 ∧ ∃ b g, π b1 = some (.blk b g) ∧ c.ρ b g = some (.loc cb base1)) := by
      rintro b1 g1 base1 ⟨x1, hx1, rfl, hd1⟩ p1
      rcases hb b1 x1 hx1 with ⟨hm, hx⟩ | ⟨hm, h0, hnd, hx⟩
      · rw [nctx_base hm] at p1
        obtain ⟨x, k1, k2, k3⟩ := base b1 x1 hm hx
        exact .inl ⟨hm, ⟨x, k1, k2, k3 hd1⟩, p1⟩
      · rw [h0] at p1
        rcases hp : π b1 with _ | _ | ⟨b, g⟩
        · rw [nctx_none hm hp] at p1; cases p1
        · rw [nctx_nil hm hp] at p1; cases p1
        · rw [nctx_blk hm hp] at p1; exact .inr ⟨hm, b, g, rfl, p1⟩
    rcases key b1 g1 base1 l1 p1 with ⟨k1, k2, k3⟩ | ⟨k1, b, g, k2, k3⟩ <;> rcases key b2 g2 base2 l2 p2 with ⟨j1, j2, j3⟩ | ⟨j1, b', g', j2, j3⟩
    · exact H.inj _ _ _ _ _ _ _ k2 j2 k3 j3
    · obtain ⟨q1, q2⟩ := M.live _ _ _ j1 j2
      have := H.inj _ _ _ _ _ _ _ k2 q1 k3 j3
      omega
    · obtain ⟨q1, q2⟩ := M.live _ _ _ k1 k2
      have := H.inj _ _ _ _ _ _ _ q1 j2 k3 j3
      omega
    · obtain ⟨q1, q2⟩ := M.live _ _ _ j1 j2
      obtain ⟨r1, r2⟩ := M.live _ _ _ k1 k2
      have := H.inj _ _ _ _ _ _ _ r1 q1 k3 j3
      subst this
      exact M.inj _ _ _ _ _ k1 j1 k2 j2
  · intro k hF hO
    rcases hF with hF | hF
    · exact H.disj k hF hO.1
    · exact hF.2 hO.2
  · intro k hF
    rcases hF with hF | hF
    · exact H.inF k hF
    · exact H.inO k hF.1
  · intro k hO; exact H.inO k hO.1
theorem nctx_evo (c : Ctx) (w : World) : Evo2 m c w (nctx m π h c) w :=
  ⟨rfl, rfl, rfl, Nat.le_refl _, fun _ C _ fr hh => ⟨C, fr, hh, rfl⟩, fun _ _ _ => rfl, fun b g p hb hp => (nctx_base hb).trans hp, fun _ hk => .inl hk,
    fun k hk => hk.elim .inl fun hk => .inr (.inl hk.1), fun k hk => .inl hk.1⟩
theorem W2.recast {N : NM} {sc : SCode} {Q : SX → St → Prop} {T T' : Tmps} {h' : Heap} (M : Maps N.m π h) (hb : RH N.m π h h') (hd : RD N.m π h h') (ht : RT N.m π h T' T) (hw : W2 P N sc Q ⟨T', h'⟩) : W2 P N sc Q ⟨T, h⟩ := by
  intro code hok c a w S Q' hQ
  refine hw code hok (nctx N.m π h c) a w ⟨hb.hrel hd M S.heap, fun i => ht i c w _ S.heap M (S.tmps i), S.size, S.defers⟩ Q' ?_
  intro e B c' a' w' hq S' E'
  exact hQ e B c' a' w' hq S' ((nctx_evo c w).trans E')
end
theorem call_of_W2 {f m : Nat} {sf : SFn} {args : List AV} {h : Heap} {R : List AV → Heap → Prop} (hok : okFn P f sf = true) (hl : args.length ≤ sf.n)
    (hw : W2 P ⟨sf.n, m⟩ sf.body (fun e B => (e = .normal ∨ e = .ret) ∧ ∃ vs, resV B.T B.h sf.res = some vs ∧ R vs B.h) ⟨argT 0 args, h⟩)
    {c : Ctx} {w : World} {cargs : Array Value} (H : HRel c h w) (ha : VRels c w args cargs.toList) :
    Calls P f cargs w fun e w' => ∃ cv c' vs h', e = .returned cv ∧ Evo2 m c w c' w' ∧ HRel c' h' w' ∧ VRel c' w' (resOf vs) cv ∧ R vs h' := by
  obtain ⟨fn, code, hf, hb, hc, hn, hr, _⟩ := okFn_spec hok
  have hlen := VRels_length ha
  have hlen : args.length = cargs.size := by simpa using hlen
  refine calls_of_wp hf hb ?_
  refine hw code hc c _ w ⟨H, ?_, ?_, rfl⟩ _ ?_
  · intro i
    by_cases hi : i < args.length
    · have := argT_rel args cargs.toList 0 [] i ha rfl
      simp only [List.nil_append] at this
      have e : (cargs ++ Array.replicate (fn.ntmps - cargs.size) undef).getD i undef = cargs.toList.getD i undef := by
        rw [Array.getD_eq_getD_getElem?, Array.getElem?_append_left (by omega)]
        simp [List.getD_eq_getElem?_getD]
      rw [e]; exact this
    · rw [argT_any args 0 i (by omega)]; simp [VRel]
  · simp; omega
  · intro e B c' a' w' hq S' E'
    obtain ⟨he, vs, hvs, hR⟩ := hq
    obtain ⟨cv, k1, k2⟩ := results_sound S'.heap S'.tmps hr hvs
    rcases he with rfl | rfl
    · exact ⟨S'.defers, cv, k1, cv, c', vs, B.h, rfl, E', S'.heap, k2, hR⟩
    · exact ⟨S'.defers, cv, k1, cv, c', vs, B.h, rfl, E', S'.heap, k2, hR⟩
abbrev π0 : Nat → Option Src := fun _ => none
theorem maps0 {h : Heap} : Maps 0 π0 h := ⟨fun b' b g _ hh => by simp [π0] at hh, fun b1 b2 b g g2 _ _ hh _ => by simp [π0] at hh⟩
theorem Rn.of_frz {h : Heap} {x y : AV} (hv : noRef x = true) (hf : ∀ (c : Ctx) (w : World) (v : Value), HRel c h w → VRel c w y v → VRel (lent c) w x v) : Rn 0 π0 h x y := fun c w v H M hy =>
  VRel.noRef (c := lent c) (c' := nctx 0 π0 h c) (fun k hk => hk.elim .inl fun hO => .inr ⟨hO, by
    rintro (⟨b, g, base, h1, _⟩ | ⟨b', b, g, base, _, h1, _⟩)
    · omega
    · simp [π0] at h1⟩) _ _ hv (hf c w v H hy)
theorem PSpec.of_W2 {f : Nat} {sf : SFn} {args : List AV} {v : AV} (hok : okFn P f sf = true) (hl : args.length ≤ sf.n) (ha : noRefs args = true) (hv : noRef v = true)
    (hw : W2 P ⟨sf.n, 0⟩ sf.body (fun e B => (e = .normal ∨ e = .ret) ∧ ∃ vs, resV B.T B.h sf.res = some vs ∧ Rn 0 π0 B.h v (resOf vs)) ⟨argT 0 args, .e⟩) : PSpec P f args v := by
  obtain ⟨_, _, _, _, _, _, _, hc⟩ := okFn_spec hok
  refine ⟨ha, hv, .e, hc, fun c w cargs H ha => (call_of_W2 (R := fun vs k => Rn 0 π0 k v (resOf vs)) hok hl hw H ha).mono ?_⟩
  rintro e w' ⟨cv, c', vs, k, rfl, E, H', V, hk⟩
  have V' := hk c' w' cv H' maps0 V
  have hF : ∀ b, c'.F b ∨ c'.O b → b < w'.heap.size := fun b hb => hb.elim (H'.inF b) (H'.inO b)
  refine ⟨cv, only fun b => c'.F b ∨ c'.O b, rfl, ?_, HRel.only hF, VRel.noRef (c := nctx 0 π0 k c') (c' := only fun b => c'.F b ∨ c'.O b) (fun _ h => h.elim .inl fun h => .inr h.1) _ _ hv V'⟩
  refine ⟨E.os, E.tape, E.output, E.size, E.shape, E.keep, fun b g p hp => ?_, fun b hb => .inl (E.frz b hb), fun b hb => ?_, fun b hb => hb.elim⟩
  · rw [H.fresh b rfl g] at hp; cases hp
  · rcases hb with hb | hb
    · exact E.frzNew b hb
    · rcases E.own b hb with h1 | h1
      · exact .inr (.inl h1)
      · exact .inr (.inr h1)
theorem HSpec.of_W2 {f m : Nat} {sf : SFn} {args : List AV} {h h' : Heap} {v : AV} (hok : okFn P f sf = true) (hl : args.length ≤ sf.n) (hm : ∀ b, m ≤ b → h.get b = none)
    (hw : W2 P ⟨sf.n, m⟩ sf.body (fun e B => (e = .normal ∨ e = .ret) ∧ ∃ vs π, resV B.T B.h sf.res = some vs ∧ Maps m π B.h ∧ RH m π B.h h' ∧ RD m π B.h h' ∧ Rn m π B.h v (resOf vs)) ⟨argT 0 args, h⟩) : HSpec P f args h v h' := by
  obtain ⟨_, _, _, _, _, _, _, hc⟩ := okFn_spec hok
  refine ⟨hc, fun c w cargs H ha => (call_of_W2 (R := fun vs k => ∃ π, Maps m π k ∧ RH m π k h' ∧ RD m π k h' ∧ Rn m π k v (resOf vs)) hok hl (hw.mono fun e B ⟨h1, vs, π, h2, h3⟩ => ⟨h1, vs, h2, π, h3⟩) H ha).mono ?_⟩
  rintro e w' ⟨cv, c', vs, k, rfl, E, H', V, π, M, hb, hd, hk⟩
  have E2 := E.trans (nctx_evo (m := m) (π := π) (h := k) c' w')
  refine ⟨cv, nctx m π k c', rfl, ?_, hb.hrel hd M H', hk c' w' cv H' M V⟩
  refine ⟨E2.os, E2.tape, E2.output, E2.size, E2.shape, E2.keep, fun b g p hp => ?_, E2.frz, E2.frzNew, E2.own⟩
  rcases Nat.lt_or_ge b m with h1 | h1
  · exact E2.rho b g p h1 hp
  · rw [H.fresh b (hm b h1) g] at hp; cases hp
end Go.AM
set_option linter.unusedSimpArgs false
set_option linter.unusedVariables false
namespace Go.AM
variable {P : Program}
def wpOp (P : Program) (i : Nat) (s : SOp) (T : Tmps) (h : Heap) (K : AV → Heap → Prop) : Prop := ∃ v h1 f, StepX P i s T h v h1 f ∧ K v h1
def wpR (P : Program) : Nat → List SOper → Tmps → Heap → (Tmps → Heap → Nat → Prop) → Prop
  | n, [], T, h, K => K T h n
  | n, s :: r, T, h, K => ∃ v h1 f, StepV P n s T h v h1 f ∧ wpR P (n + 1) r (putD T s.dst v) h1 K
theorem wpR.toWR : ∀ {r : List SOper} {n i : Nat} {T : Tmps} {h : Heap} {K : Tmps → Heap → Nat → Prop}, wpR P (n + i) r T h K → WR P n i r T h fun T h => K T h (n + i + r.length)
  | [], n, i, T, h, K, hk => hk
  | s :: r, n, i, T, h, K, ⟨v, h1, f, hs, hr⟩ => by
    refine ⟨f, v, h1, hs, ?_⟩
    have := wpR.toWR (i := i + 1) hr
    have e : n + (i + 1) + r.length = n + i + (s :: r).length := by simp; omega
    rw [e] at this
    exact this
def wpRF (P : Program) : Nat → List SOper → Tmps → Heap → (List FP → Tmps → Heap → Nat → Prop) → Prop
  | n, [], T, h, K => K [] T h n
  | n, s :: r, T, h, K => ∃ v h1 f, StepV P n s T h v h1 f ∧ wpRF P (n + 1) r (putD T s.dst v) h1 fun fs T h n => K (f :: fs) T h n
theorem wpRF.toF : ∀ {r : List SOper} {n i : Nat} {T : Tmps} {h : Heap} {K : List FP → Tmps → Heap → Nat → Prop}, wpRF P (n + i) r T h K →
    ∃ fs T' h', RunF P n i r fs ⟨T, h⟩ ⟨T', h'⟩ ∧ K fs T' h' (n + i + r.length)
  | [], n, i, T, h, K, hk => ⟨[], T, h, ⟨rfl, rfl⟩, hk⟩
  | s :: r, n, i, T, h, K, ⟨v, h1, f, hs, hr⟩ => by
    obtain ⟨fs, T', h', h2, hk⟩ := wpRF.toF (i := i + 1) hr
    refine ⟨f :: fs, T', h', ⟨f, fs, v, h1, rfl, hs, h2⟩, ?_⟩
    have e : n + i + (s :: r).length = n + (i + 1) + r.length := by simp; omega
    rw [e]; exact hk
abbrev QC := SX → Tmps → Heap → Nat → Prop
def wpC (P : Program) (N : NM) : SCode → Nat → Tmps → Heap → QC → Prop
  | .skip, n, T, h, Q => Q .normal T h n
  | .ret, n, T, h, Q => Q .ret T h n
  | .exit i, n, T, h, Q => Q (.exit i) T h n
  | .bad, _, _, _, _ => False
  | .mloop pre x it nx ok en b1 b2 rest body, n, T, h, Q => W2 P N (.mloop pre x it nx ok en b1 b2 rest body) (fun e B => ∃ n, Q e B.T B.h n) ⟨T, h⟩
  | .region ops [] dead, n, T, h, Q => wpR P n ops T h fun T h n => Q .normal (rm T dead) h n
  | .region ops (p :: ps) dead, n, T, h, Q => wpRF P n ops T h fun fs T h n => ((p :: ps).all fun p => (fs.getD p.1 ⟨false, [], []⟩).apart (fs.getD p.2 ⟨false, [], []⟩)) = true ∧ Q .normal (rm T dead) h n
  | .seq a b, n, T, h, Q => wpC P N a n T h fun e T h n => match e with
    | .normal => wpC P N b n T h Q
    | e => Q e T h n
  | .cond x a b, n, T, h, Q => ∃ t, ev T x = .bool t ∧ if t = true then wpC P N a n T h Q else wpC P N b n T h Q
  | .block i b, n, T, h, Q => wpC P N b n T h fun e T h n => match e with
    | .exit j => if j = i then Q .normal T h n else Q (.exit j) T h n
    | e => Q e T h n
  | .loop b, n, T, h, Q => W2 P N (.loop b) (fun e B => ∃ n, Q e B.T B.h n) ⟨T, h⟩
theorem wpC.toW {N : NM} : ∀ {c : SCode} {n : Nat} {T : Tmps} {h : Heap} {Q : QC}, wpC P N c n T h Q → W2 P N c (fun e B => ∃ n, Q e B.T B.h n) ⟨T, h⟩
  | .skip, n, T, h, Q, hk => W2.skip ⟨n, hk⟩
  | .ret, n, T, h, Q, hk => W2.ret ⟨n, hk⟩
  | .exit i, n, T, h, Q, hk => W2.exit ⟨n, hk⟩
  | .bad, _, _, _, _, hk => hk.elim
  | .mloop .., n, T, h, Q, hk => hk
  | .region ops [] dead, n, T, h, Q, hk => by
    have := wpR.toWR (i := 0) hk
    exact W2.of_W <| W.regionR n (this |> fun h => by simpa using (show _ from (wr_mono h)))
  | .region ops (p :: ps) dead, n, T, h, Q, hk => by
    obtain ⟨fs, T', h', h1, h2, h3⟩ := wpRF.toF (i := 0) hk
    exact W2.of_W <| W.regionF n fs h1 h2 ⟨_, h3⟩
  | .seq a b, n, T, h, Q, hk => by
    simp only [wpC] at hk
    refine W2.seq ((wpC.toW (c := a) hk).mono ?_)
    rintro e B ⟨n', hq⟩
    cases e with
    | normal => exact wpC.toW hq
    | exit i => exact ⟨n', hq⟩
    | ret => exact ⟨n', hq⟩
  | .cond x a b, n, T, h, Q, ⟨t, hx, hk⟩ => by
    refine W2.cond hx ?_ ?_
    · intro e; rw [if_pos e] at hk; exact wpC.toW hk
    · intro e; rw [if_neg (by simp [e])] at hk; exact wpC.toW hk
  | .block i b, n, T, h, Q, hk => by
    simp only [wpC] at hk
    refine W2.block ((wpC.toW (c := b) hk).mono ?_)
    rintro e B ⟨n', hq⟩
    cases e with
    | normal => exact ⟨n', hq⟩
    | ret => exact ⟨n', hq⟩
    | exit j =>
      simp only at hq ⊢
      split
      · rename_i e; rw [if_pos e] at hq; exact ⟨n', hq⟩
      · rename_i e; rw [if_neg e] at hq; exact ⟨n', hq⟩
  | .loop b, n, T, h, Q, hk => hk
where
  wr_mono {ops : List SOper} {n : Nat} {T : Tmps} {h : Heap} {dead : List Nat} {Q : QC} {m : Nat} (hk : WR P n 0 ops T h fun T h => Q .normal (rm T dead) h m) : WR P n 0 ops T h fun T h => ∃ n, Q .normal (rm T dead) h n := by
    have : ∀ {r : List SOper} {i : Nat} {T : Tmps} {h : Heap} {K K' : Tmps → Heap → Prop}, WR P n i r T h K → (∀ T h, K T h → K' T h) → WR P n i r T h K' := by
      intro r
      induction r with
      | nil => intro i T h K K' hk hK; exact hK _ _ hk
      | cons s r ih =>
        intro i T h K K' ⟨f, v, h1, hs, hr⟩ hK
        exact ⟨f, v, h1, hs, ih hr hK⟩
    exact this hk fun T h hq => ⟨m, hq⟩
end Go.AM
set_option linter.unusedSimpArgs false
set_option linter.unusedVariables false
namespace Go.AM
variable {P : Program}
inductive Fr where
  | sq (b : SCode)
  | blk (i : Nat)
def ct (P : Program) (N : NM) : List Fr → QC → QC
  | [], Q => Q
  | .sq b :: fs, Q => fun e T h n => match e with
    | .normal => wpC P N b n T h (ct P N fs Q)
    | e => ct P N fs Q e T h n
  | .blk i :: fs, Q => fun e T h n => match e with
    | .exit j => if j = i then ct P N fs Q .normal T h n else ct P N fs Q (.exit j) T h n
    | e => ct P N fs Q e T h n
def wS (P : Program) (N : NM) (c : SCode) (fs : List Fr) (n : Nat) (T : Tmps) (h : Heap) (Q : QC) : Prop := wpC P N c n T h (ct P N fs Q)
def wR (P : Program) (N : NM) (ops : List SOper) (dead : List Nat) (fs : List Fr) (n : Nat) (T : Tmps) (h : Heap) (Q : QC) : Prop := wpR P n ops T h fun T h n => ct P N fs Q .normal (rm T dead) h n
def wX (P : Program) (N : NM) (e : SX) (fs : List Fr) (n : Nat) (T : Tmps) (h : Heap) (Q : QC) : Prop := ct P N fs Q e T h n
def wO (P : Program) (N : NM) (o : Option AV) (d : Option Nat) (ops : List SOper) (dead : List Nat) (fs : List Fr) (n : Nat) (T : Tmps) (h : Heap) (Q : QC) : Prop :=
  ∃ v, o = some v ∧ wR P N ops dead fs (n + 1) (putD T d v) h Q
def wM (P : Program) (N : NM) (m : HM AV) (d : Option Nat) (ops : List SOper) (dead : List Nat) (fs : List Fr) (n : Nat) (T : Tmps) (h : Heap) (Q : QC) : Prop :=
  ∃ v h1, m.run h = some (v, h1) ∧ wR P N ops dead fs (n + 1) (putD T d v) h1 Q
def wG (P : Program) (N : NM) (o : Option Bool) (d : Option Nat) (op : SOp) (ops : List SOper) (dead : List Nat) (fs : List Fr) (n : Nat) (T : Tmps) (h : Heap) (Q : QC) : Prop :=
  match o with
  | some true => wR P N (⟨d, op, [], none⟩ :: ops) dead fs n T h Q
  | some false => wR P N ops dead fs (n + 1) (putD T d (.tup [])) h Q
  | none => False
def wC (P : Program) (N : NM) (x : AV) (a b : SCode) (fs : List Fr) (n : Nat) (T : Tmps) (h : Heap) (Q : QC) : Prop :=
  ∃ t, x = .bool t ∧ if t = true then wS P N a fs n T h Q else wS P N b fs n T h Q
def wCall (P : Program) (N : NM) (m : CallM) (x : AV) (args : List AV) (d : Option Nat) (ops : List SOper) (dead : List Nat) (fs : List Fr) (n : Nat) (T : Tmps) (h : Heap) (Q : QC) : Prop :=
  match x with
  | .fn f a c => match m with
    | .pure => ∃ v, PSpec P f (a ++ args ++ c) v ∧ wR P N ops dead fs (n + 1) (putD T d v) h Q
    | .heap => ∃ v h1, HSpec P f (a ++ args ++ c) h v h1 ∧ wR P N ops dead fs (n + 1) (putD T d v) h1 Q
    | .borrow => ∃ asx h1 v, (mapH (frzH 4) (a ++ args ++ c)).run h = some (asx, h1) ∧ PSpec P f asx v ∧ flatV v = true ∧ wR P N ops dead fs (n + 1) (putD T d v) h1 Q
  | _ => False
section
variable {N : NM} {n : Nat} {T : Tmps} {h : Heap} {Q : QC} {fs : List Fr}
theorem wS_skip : wS P N .skip fs n T h Q = wX P N .normal fs n T h Q := rfl
theorem wS_ret : wS P N .ret fs n T h Q = wX P N .ret fs n T h Q := rfl
theorem wS_exit {i : Nat} : wS P N (.exit i) fs n T h Q = wX P N (.exit i) fs n T h Q := rfl
theorem wS_region {ops : List SOper} {dead : List Nat} : wS P N (.region ops [] dead) fs n T h Q = wR P N ops dead fs n T h Q := rfl
theorem wS_seq {a b : SCode} : wS P N (.seq a b) fs n T h Q = wS P N a (.sq b :: fs) n T h Q := rfl
theorem wS_cond {x : Opd} {a b : SCode} : wS P N (.cond x a b) fs n T h Q = wC P N (ev T x) a b fs n T h Q := rfl
theorem wS_block {i : Nat} {b : SCode} : wS P N (.block i b) fs n T h Q = wS P N b (.blk i :: fs) n T h Q := rfl
theorem wC_true {a b : SCode} : wC P N (.bool true) a b fs n T h Q = wS P N a fs n T h Q := by simp [wC]
theorem wC_false {a b : SCode} : wC P N (.bool false) a b fs n T h Q = wS P N b fs n T h Q := by simp [wC]
theorem wC_bool {t : Bool} {a b : SCode} : wC P N (.bool t) a b fs n T h Q = if t = true then wS P N a fs n T h Q else wS P N b fs n T h Q := by cases t <;> simp [wC]
theorem wX_nil {e : SX} : wX P N e [] n T h Q = Q e T h n := rfl
theorem wX_sq {b : SCode} : wX P N .normal (.sq b :: fs) n T h Q = wS P N b fs n T h Q := rfl
theorem wX_sq_ret {b : SCode} : wX P N .ret (.sq b :: fs) n T h Q = wX P N .ret fs n T h Q := rfl
theorem wX_sq_exit {b : SCode} {i : Nat} : wX P N (.exit i) (.sq b :: fs) n T h Q = wX P N (.exit i) fs n T h Q := rfl
theorem wX_blk {i : Nat} : wX P N .normal (.blk i :: fs) n T h Q = wX P N .normal fs n T h Q := rfl
theorem wX_blk_ret {i : Nat} : wX P N .ret (.blk i :: fs) n T h Q = wX P N .ret fs n T h Q := rfl
theorem wX_blk_exit {i j : Nat} : wX P N (.exit j) (.blk i :: fs) n T h Q = if j = i then wX P N .normal fs n T h Q else wX P N (.exit j) fs n T h Q := rfl
end
theorem ev_t (T : Tmps) (i : Nat) : ev T (.t i) = lk T i := rfl
theorem ev_c (T : Tmps) (v : AV) : ev T (.c v) = v := rfl
theorem ev_f (T : Tmps) (n : Nat) : ev T (.f n) = .fn n [] [] := rfl
theorem lk_nil (i : Nat) : lk [] i = .any := rfl
theorem lk_cons (j : Nat) (v : AV) (r : Tmps) (i : Nat) : lk ((j, v) :: r) i = if j = i then v else lk r i := by
  simp only [lk]; by_cases h : j = i
  · subst h; simp
  · have : Nat.beq j i = false := by rw [Bool.eq_false_iff]; simpa using h
    rw [this, if_neg h]; rfl
theorem up_cons (j : Nat) (u : AV) (r : Tmps) (i : Nat) (v : AV) : up ((j, u) :: r) i v = if j = i then (j, v) :: r else (j, u) :: up r i v := by
  simp only [up]; by_cases h : j = i
  · subst h; simp
  · have : Nat.beq j i = false := by rw [Bool.eq_false_iff]; simpa using h
    rw [this, if_neg h]; rfl
theorem up_nil (i : Nat) (v : AV) : up [] i v = [(i, v)] := rfl
theorem rm_nil (l : List Nat) : rm [] l = [] := rfl
theorem rm_no (T : Tmps) : rm T [] = T := by
  induction T with
  | nil => rfl
  | cons p T ih => obtain ⟨j, u⟩ := p; simp [rm, ih]
theorem rm_cons (j : Nat) (u : AV) (r : Tmps) (l : List Nat) : rm ((j, u) :: r) l = if l.elem j = true then rm r l else (j, u) :: rm r l := by
  simp only [rm]
  by_cases h : j ∈ l
  · have : l.any (Nat.beq j) = true := List.any_eq_true.2 ⟨j, h, by simp⟩
    rw [this, if_pos (by simpa using h)]; rfl
  · have : l.any (Nat.beq j) = false := by
      rw [Bool.eq_false_iff]; intro h'
      obtain ⟨x, hx, e⟩ := List.any_eq_true.1 h'
      have : j = x := by simpa using e
      exact h (this ▸ hx)
    rw [this, if_neg (by simpa using h)]; rfl
theorem putD_some (T : Tmps) (d : Nat) (v : AV) : putD T (some d) v = up T d v := rfl
theorem putD_none (T : Tmps) (v : AV) : putD T none v = T := rfl
theorem argT_nil (k : Nat) : argT k [] = [] := rfl
theorem argT_cons (k : Nat) (x : AV) (xs : List AV) : argT k (x :: xs) = (k, x) :: argT (k + 1) xs := rfl
theorem evs_nil (T : Tmps) : evs T [] = [] := rfl
theorem evs_cons (T : Tmps) (x : Opd) (r : List Opd) : evs T (x :: r) = ev T x :: evs T r := rfl
theorem evo_none (T : Tmps) : evo T none = none := rfl
theorem evo_some (T : Tmps) (x : Opd) : evo T (some x) = some (ev T x) := rfl
theorem evParts_nil (T : Tmps) : evParts T [] = [] := rfl
theorem evParts_cons (T : Tmps) (a b : Nat) (x : Opd) (r : List (Nat × Nat × Opd)) : evParts T ((a, b, x) :: r) = (a, b, ev T x) :: evParts T r := rfl
section
variable {N : NM} {n : Nat} {d : Option Nat} {af dead : List Nat} {r : List SOper} {T : Tmps} {h : Heap} {Q : QC} {fs : List Fr}
theorem wR_nil : wR P N [] dead fs n T h Q = wX P N .normal fs n (rm T dead) h Q := rfl
theorem wR_guard {op : SOp} {g : Nat} {w : Bool} : wR P N (⟨d, op, af, some (g, w)⟩ :: r) dead fs n T h Q = wG P N (wantedA (lk T g) w) d op r dead fs n T h Q := by
  apply propext
  unfold wG
  constructor
  · rintro ⟨v, h1, f, ⟨b, hw, hb⟩, hk⟩
    rw [hw]
    cases b with
    | true => rw [if_pos rfl] at hb; exact ⟨v, h1, f, hb, hk⟩
    | false =>
      rw [if_neg (by simp)] at hb
      obtain ⟨rfl, rfl, rfl⟩ := hb
      exact hk
  · intro hk
    cases hw : wantedA (lk T g) w with
    | none => rw [hw] at hk; exact hk.elim
    | some b =>
      rw [hw] at hk
      cases b with
      | true =>
        obtain ⟨v, h1, f, hs, hk⟩ := hk
        exact ⟨v, h1, f, ⟨true, hw, by rw [if_pos rfl]; exact hs⟩, hk⟩
      | false => exact ⟨.tup [], h, ⟨false, [], []⟩, ⟨false, hw, by simp⟩, hk⟩
theorem wG_bool {b w : Bool} {op : SOp} : wG P N (wantedA (.bool b) w) d op r dead fs n T h Q = if b = w then wR P N (⟨d, op, [], none⟩ :: r) dead fs n T h Q else wR P N r dead fs (n + 1) (putD T d (.tup [])) h Q := by
  cases b <;> cases w <;> simp [wG, wantedA]
theorem wG_skip {w : Bool} {op : SOp} : wG P N (wantedA (.tup []) w) d op r dead fs n T h Q = wR P N r dead fs (n + 1) (putD T d (.tup [])) h Q := by simp [wG, wantedA]
theorem wR_lift {op : SOp} {o : Option AV} (e : aop n T op = lift o) : wR P N (⟨d, op, af, none⟩ :: r) dead fs n T h Q = wO P N o d r dead fs n T h Q := by
  apply propext
  constructor
  · rintro ⟨v, h1, f, ⟨out, h2, hm, ho⟩, hk⟩
    rw [e] at hm
    obtain ⟨u, hu, he⟩ := run_lift hm
    cases he
    obtain ⟨rfl, rfl, _⟩ := ho
    exact ⟨_, hu, hk⟩
  · rintro ⟨v, hv, hk⟩
    refine ⟨v, h, _, ⟨.val v, h, ?_, rfl, rfl, rfl⟩, hk⟩
    rw [e, hv]; rfl
theorem run_hval' {v : AV} {h1 : Heap} : ∀ (m : HM AV) (h : Heap), m.run h = some (v, h1) → (hval m).run h = some (.val v, h1) := by
  intro m
  induction m with
  | ret a => intro h hm; simp only [HM.run, Option.some.injEq, Prod.mk.injEq] at hm; obtain ⟨rfl, rfl⟩ := hm; rfl
  | fail => intro h hm; simp [HM.run] at hm
  | look b k ih => intro h hm; exact ih _ h hm
  | put b x k ih =>
    intro h hm
    obtain ⟨hl, hm⟩ := run_put hm
    have := ih _ hm
    simp only [hval, HM.bind, HM.run]
    have hl' : Nat.blt b lim = true := by simp [Nat.blt]; omega
    rw [hl']; exact this
theorem wR_hval {op : SOp} {m : HM AV} (e : aop n T op = hval m) : wR P N (⟨d, op, af, none⟩ :: r) dead fs n T h Q = wM P N m d r dead fs n T h Q := by
  apply propext
  constructor
  · rintro ⟨v, h1, f, ⟨out, h2, hm, ho⟩, hk⟩
    rw [e] at hm
    obtain ⟨u, h3, hu, he⟩ := run_hval hm
    cases he
    obtain ⟨rfl, rfl, _⟩ := ho
    exact ⟨_, _, hu, hk⟩
  · rintro ⟨v, h1, hv, hk⟩
    exact ⟨v, h1, _, ⟨.val v, h1, by rw [e]; exact run_hval' m h hv, rfl, rfl, rfl⟩, hk⟩
theorem wR_mov {x : Opd} : wR P N (⟨d, .mov x, af, none⟩ :: r) dead fs n T h Q = wR P N r dead fs (n + 1) (putD T d (ev T x)) h Q := by
  rw [wR_lift (o := some (ev T x)) rfl]; simp [wO]
theorem wR_mkfn {f : Nat} {xs ys : List Opd} : wR P N (⟨d, .mkfn f xs ys, af, none⟩ :: r) dead fs n T h Q = wR P N r dead fs (n + 1) (putD T d (.fn f (evs T xs) (evs T ys))) h Q := by
  rw [wR_lift (o := some (.fn f (evs T xs) (evs T ys))) rfl]; simp [wO]
theorem wR_pick {c a b : Opd} : wR P N (⟨d, .pick c a b, af, none⟩ :: r) dead fs n T h Q = wO P N (aPick (ev T c) (ev T a) (ev T b)) d r dead fs n T h Q := wR_lift rfl
theorem wR_build {z : List AV} {ps : List (Nat × Nat × Opd)} : wR P N (⟨d, .build z ps, af, none⟩ :: r) dead fs n T h Q = wO P N (aBuild z (evParts T ps)) d r dead fs n T h Q := wR_lift rfl
theorem wR_nilchk {x : Opd} : wR P N (⟨d, .nilchk x, af, none⟩ :: r) dead fs n T h Q = wO P N (aNil (ev T x)) d r dead fs n T h Q := wR_lift rfl
theorem wR_bin {op : BinOp} {x y : Opd} : wR P N (⟨d, .bin op x y, af, none⟩ :: r) dead fs n T h Q = wO P N (aBin op (ev T x) (ev T y)) d r dead fs n T h Q := wR_lift rfl
theorem wR_eq {k : EqK} {neg : Bool} {x y : Opd} : wR P N (⟨d, .eq k neg x y, af, none⟩ :: r) dead fs n T h Q = wO P N (aEq k neg (ev T x) (ev T y)) d r dead fs n T h Q := wR_lift rfl
theorem wR_un {op : UnOp} {x : Opd} : wR P N (⟨d, .un op x, af, none⟩ :: r) dead fs n T h Q = wO P N (aUn op (ev T x)) d r dead fs n T h Q := wR_lift rfl
theorem wR_conv {k : IntKind} {x : Opd} : wR P N (⟨d, .conv k x, af, none⟩ :: r) dead fs n T h Q = wO P N (aConv k (ev T x)) d r dead fs n T h Q := wR_lift rfl
theorem wR_convS {x : Opd} : wR P N (⟨d, .convS x, af, none⟩ :: r) dead fs n T h Q = wO P N (aConvS (ev T x)) d r dead fs n T h Q := wR_lift rfl
theorem wR_ext {k f : Nat} {xs : List Opd} : wR P N (⟨d, .ext k f xs, af, none⟩ :: r) dead fs n T h Q = wO P N (aExt k (evs T xs)) d r dead fs n T h Q := wR_lift rfl
theorem wR_slice {sz : Option Nat} {x : Opd} {l hh m : Option Opd} : wR P N (⟨d, .slice sz x l hh m, af, none⟩ :: r) dead fs n T h Q = wO P N (aSliceC sz (ev T x) (evo T l) (evo T hh) (evo T m)) d r dead fs n T h Q := wR_lift rfl
theorem wR_faddr {o : Nat} {x : Opd} : wR P N (⟨d, .faddr o x, af, none⟩ :: r) dead fs n T h Q = wO P N (aFAddr o (ev T x)) d r dead fs n T h Q := wR_lift rfl
theorem wR_field {k : Option Nat} {o : Nat} {x : Opd} : wR P N (⟨d, .field k o x, af, none⟩ :: r) dead fs n T h Q = wO P N (aField k o (ev T x)) d r dead fs n T h Q := wR_lift rfl
theorem wR_iaddr {a : Option Nat} {sz : Nat} {x j : Opd} : wR P N (⟨d, .iaddr a sz x j, af, none⟩ :: r) dead fs n T h Q = wO P N (aIAddr a sz (ev T x) (ev T j)) d r dead fs n T h Q := wR_lift rfl
theorem wR_index {a : Option (Nat × Nat × Bool)} {x j : Opd} : wR P N (⟨d, .index a x j, af, none⟩ :: r) dead fs n T h Q = wO P N (aIndex a (ev T x) (ev T j)) d r dead fs n T h Q := wR_lift rfl
theorem wR_extract {j : Nat} {x : Opd} : wR P N (⟨d, .extract j x, af, none⟩ :: r) dead fs n T h Q = wO P N (aExtract j (ev T x)) d r dead fs n T h Q := wR_lift rfl
theorem wR_maxmin {mn : Bool} {xs : List Opd} : wR P N (⟨d, .maxmin mn xs, af, none⟩ :: r) dead fs n T h Q = wO P N (aMax mn (evs T xs)) d r dead fs n T h Q := wR_lift rfl
theorem wR_alloc {s : Site} {z : AV} : wR P N (⟨d, .alloc s z, af, none⟩ :: r) dead fs n T h Q = wM P N (aBox s n z) d r dead fs n T h Q := wR_hval rfl
theorem wR_box {s : Site} {x : Opd} : wR P N (⟨d, .box s x, af, none⟩ :: r) dead fs n T h Q = wM P N (aBox s n (ev T x)) d r dead fs n T h Q := wR_hval rfl
theorem wR_bslice {fz : Bool} {s : Site} {sz len : Nat} {z : List AV} {ps : List (Nat × Nat × Opd)} : wR P N (⟨d, .bslice fz s sz len z ps, af, none⟩ :: r) dead fs n T h Q = wM P N (aBuildSlice fz s n sz len z (evParts T ps)) d r dead fs n T h Q := wR_hval rfl
theorem wR_load {k : Option Nat} {x : Opd} : wR P N (⟨d, .load k x, af, none⟩ :: r) dead fs n T h Q = wM P N (aLoad k (ev T x)) d r dead fs n T h Q := wR_hval rfl
theorem wR_store {k : Nat} {x v : Opd} : wR P N (⟨d, .store k x v, af, none⟩ :: r) dead fs n T h Q = wM P N (aStore k (ev T x) (ev T v)) d r dead fs n T h Q := wR_hval rfl
theorem wR_mkmap {s : Site} : wR P N (⟨d, .mkmap s, af, none⟩ :: r) dead fs n T h Q = wM P N (aMakeMap s n) d r dead fs n T h Q := wR_hval rfl
theorem wR_mkslice {s : Site} {sz b : Nat} {z : List AV} {l c : Opd} : wR P N (⟨d, .mkslice s sz b z l c, af, none⟩ :: r) dead fs n T h Q = wM P N (aMakeSlice s n sz b z (ev T l) (ev T c)) d r dead fs n T h Q := wR_hval rfl
theorem wR_lookup {row : Bool} {ks : List LK} {z : AV} {ok : Bool} {x k : Opd} : wR P N (⟨d, .lookup row ks z ok x k, af, none⟩ :: r) dead fs n T h Q = wM P N (aLookup row ks z ok (ev T x) (ev T k)) d r dead fs n T h Q := wR_hval rfl
theorem wR_mupd {row : Bool} {ks : List LK} {x k v : Opd} : wR P N (⟨d, .mupd row ks x k v, af, none⟩ :: r) dead fs n T h Q = wM P N (aMapUpd row ks (ev T x) (ev T k) (ev T v)) d r dead fs n T h Q := wR_hval rfl
theorem wR_len {k : Nat} {x : Opd} : wR P N (⟨d, .len k x, af, none⟩ :: r) dead fs n T h Q = wM P N (aLenC k (ev T x)) d r dead fs n T h Q := wR_hval rfl
theorem wR_append {s : Site} {sz b : Nat} {x y : Opd} : wR P N (⟨d, .append s sz b x y, af, none⟩ :: r) dead fs n T h Q = wM P N (aAppend s n sz b (ev T x) (ev T y)) d r dead fs n T h Q := wR_hval rfl
theorem wR_copy {sz : Nat} {x y : Opd} : wR P N (⟨d, .copy sz x y, af, none⟩ :: r) dead fs n T h Q = wM P N (aCopy sz (ev T x) (ev T y)) d r dead fs n T h Q := wR_hval rfl
theorem wR_call {m : CallM} {x : Opd} {args : List Opd} : wR P N (⟨d, .call m x args, af, none⟩ :: r) dead fs n T h Q = wCall P N m (ev T x) (evs T args) d r dead fs n T h Q := by
  apply propext
  have e : aop n T (.call m x args) = aCall m (ev T x) (evs T args) := rfl
  constructor
  · rintro ⟨v, h1, f, ⟨out, h2, hm, ho⟩, hk⟩
    rw [e] at hm
    unfold aCall at hm
    unfold wCall
    cases hx : ev T x <;> rw [hx] at hm <;> first | (simp [HM.run] at hm; done) | skip
    simp only at hm
    rename_i g a c
    cases m
    · simp only [HM.run, Option.some.injEq, Prod.mk.injEq] at hm
      obtain ⟨rfl, rfl⟩ := hm
      exact ⟨_, _, ho.1, hk⟩
    · simp only [HM.run, Option.some.injEq, Prod.mk.injEq] at hm
      obtain ⟨rfl, rfl⟩ := hm
      obtain ⟨hp, rfl, _⟩ := ho
      exact ⟨_, hp, hk⟩
    · obtain ⟨asx, h3, k1, k2⟩ := run_bind hm
      simp only [HM.run, Option.some.injEq, Prod.mk.injEq] at k2
      obtain ⟨rfl, rfl⟩ := k2
      obtain ⟨hp, hf, rfl, _⟩ := ho
      exact ⟨_, _, _, k1, hp, hf, hk⟩
  · intro hk
    unfold wCall at hk
    cases hx : ev T x <;> rw [hx] at hk <;> first | exact hk.elim | skip
    rename_i g a c
    cases m
    · obtain ⟨v, h1, hs, hk⟩ := hk
      exact ⟨v, h1, _, ⟨.call .heap g (a ++ evs T args ++ c), h, by rw [e, hx]; rfl, hs, rfl⟩, hk⟩
    · obtain ⟨v, hs, hk⟩ := hk
      exact ⟨v, h, _, ⟨.call .pure g (a ++ evs T args ++ c), h, by rw [e, hx]; rfl, hs, rfl, rfl⟩, hk⟩
    · obtain ⟨asx, h1, v, hm, hs, hf, hk⟩ := hk
      refine ⟨v, h1, _, ⟨.call .borrow g asx, h1, ?_, hs, hf, rfl, rfl⟩, hk⟩
      rw [e, hx]
      have : ∀ (m : HM (List AV)) (h : Heap) (k : List AV → AOut), m.run h = some (asx, h1) → (m.bind fun asx => .ret (k asx)).run h = some (k asx, h1) := by
        intro m
        induction m with
        | ret a => intro h k hm; simp only [HM.run, Option.some.injEq, Prod.mk.injEq] at hm; obtain ⟨rfl, rfl⟩ := hm; rfl
        | fail => intro h k hm; simp [HM.run] at hm
        | look b k' ih => intro h k hm; exact ih _ h k hm
        | put b x k' ih =>
          intro h k hm
          obtain ⟨hl, hm⟩ := run_put hm
          have := ih _ k hm
          simp only [HM.bind, HM.run]
          have hl' : Nat.blt b lim = true := by simp [Nat.blt]; omega
          rw [hl']; exact this
      exact this _ h (fun asx => .call .borrow g asx) hm
theorem wO_some {v : AV} : wO P N (some v) d r dead fs n T h Q = wR P N r dead fs (n + 1) (putD T d v) h Q := by simp [wO]
theorem wO_none : wO P N none d r dead fs n T h Q = False := by simp [wO]
theorem wO_pos {c : Prop} [Decidable c] {a b : Option AV} (hc : c) : wO P N (if c then a else b) d r dead fs n T h Q = wO P N a d r dead fs n T h Q := by rw [if_pos hc]
theorem wO_neg {c : Prop} [Decidable c] {a b : Option AV} (hc : ¬ c) : wO P N (if c then a else b) d r dead fs n T h Q = wO P N b d r dead fs n T h Q := by rw [if_neg hc]
theorem wO_ite {c : Prop} [Decidable c] {a : Option AV} : wO P N (if c then a else none) d r dead fs n T h Q = (c ∧ wO P N a d r dead fs n T h Q) := by by_cases hc : c <;> simp [hc, wO_none]
theorem call_pure {f : Nat} {a c args : List AV} {v : AV} (hp : PSpec P f (a ++ args ++ c) v) (k : wR P N r dead fs (n + 1) (putD T d v) h Q) : wCall P N .pure (.fn f a c) args d r dead fs n T h Q := ⟨v, hp, k⟩
theorem cp {f : Nat} {args : List AV} {v : AV} (hp : PSpec P f args v) (k : wR P N r dead fs (n + 1) (putD T d v) h Q) : wCall P N .pure (.fn f [] []) args d r dead fs n T h Q := ⟨v, by simpa using hp, k⟩
theorem ch {f : Nat} {args : List AV} {v : AV} {h1 : Heap} (hp : HSpec P f args h v h1) (k : wR P N r dead fs (n + 1) (putD T d v) h1 Q) : wCall P N .heap (.fn f [] []) args d r dead fs n T h Q := ⟨v, h1, by simpa using hp, k⟩
theorem call_heap {f : Nat} {a c args : List AV} {v : AV} {h1 : Heap} (hp : HSpec P f (a ++ args ++ c) h v h1) (k : wR P N r dead fs (n + 1) (putD T d v) h1 Q) : wCall P N .heap (.fn f a c) args d r dead fs n T h Q := ⟨v, h1, hp, k⟩
theorem call_borrow {f : Nat} {a c args asx : List AV} {v : AV} (hm : (mapH (frzH 4) (a ++ args ++ c)).run h = some (asx, h)) (hp : PSpec P f asx v) (hf : flatV v = true) (k : wR P N r dead fs (n + 1) (putD T d v) h Q) :
    wCall P N .borrow (.fn f a c) args d r dead fs n T h Q := ⟨asx, h, v, hm, hp, hf, k⟩
def ldB (o : Option Blk) (g off : Nat) (m : Option Nat) : Option AV :=
  match o with
  | some (.cells g' cs) => if g' = g then (match m with | none => cs[off]? | some m => if off + m ≤ cs.length then some (.agg ((cs.drop off).take m)) else none) else none
  | _ => none
def stB (o : Option Blk) (g off m : Nat) (v : AV) : Option Blk :=
  match o with
  | some (.cells g' cs) => if g' = g ∧ v.cells.length = m ∧ off + m ≤ cs.length ∧ v.cells.all AV.one = true then some (.cells g (putR cs off v.cells)) else none
  | _ => none
def wB (P : Program) (N : NM) (o : Option Blk) (b : Nat) (v : AV) (d : Option Nat) (ops : List SOper) (dead : List Nat) (fs : List Fr) (n : Nat) (T : Tmps) (h : Heap) (Q : QC) : Prop :=
  ∃ x, o = some x ∧ b < lim ∧ wR P N ops dead fs (n + 1) (putD T d v) (h.set b x) Q
def wN (P : Program) (N : NM) (x : List AV) (v : AV) (d : Option Nat) (ops : List SOper) (dead : List Nat) (fs : List Fr) (n : Nat) (T : Tmps) (h : Heap) (Q : QC) : Prop :=
  h.get n = none ∧ n < lim ∧ wR P N ops dead fs (n + 1) (putD T d v) (h.set n (.cells 0 x)) Q
theorem wM_ret {v : AV} : wM P N (.ret v) d r dead fs n T h Q = wR P N r dead fs (n + 1) (putD T d v) h Q := by
  apply propext; constructor
  · rintro ⟨v', h1, hm, k⟩; simp only [HM.run, Option.some.injEq, Prod.mk.injEq] at hm; obtain ⟨rfl, rfl⟩ := hm; exact k
  · intro k; exact ⟨v, h, rfl, k⟩
theorem wM_fail : wM P N .fail d r dead fs n T h Q = False := by simp [wM, HM.run]
theorem wM_opt {o : Option AV} : wM P N (.opt o) d r dead fs n T h Q = wO P N o d r dead fs n T h Q := by
  cases o with
  | none => simp [HM.opt, wM_fail, wO_none]
  | some v => simp [HM.opt, wM_ret, wO_some]
theorem wM_ite {c : Prop} [Decidable c] {m : HM AV} : wM P N (if c then m else .fail) d r dead fs n T h Q = (c ∧ wM P N m d r dead fs n T h Q) := by
  by_cases hc : c <;> simp [hc, wM_fail]
theorem wM_put {b : Nat} {x : Blk} {v : AV} : wM P N (.put b x (.ret v)) d r dead fs n T h Q = wB P N (some x) b v d r dead fs n T h Q := by
  apply propext; constructor
  · rintro ⟨v', h1, hm, k⟩
    obtain ⟨hl, hm⟩ := run_put hm
    simp only [HM.run, Option.some.injEq, Prod.mk.injEq] at hm
    obtain ⟨rfl, rfl⟩ := hm
    exact ⟨x, rfl, hl, k⟩
  · rintro ⟨x', hx, hl, k⟩
    cases hx
    refine ⟨v, _, ?_, k⟩
    simp only [HM.run]
    have hl' : Nat.blt b lim = true := by simp [Nat.blt]; omega
    rw [hl']; rfl
theorem wB_some {x : Blk} {b : Nat} {v : AV} (hl : b < lim) : wB P N (some x) b v d r dead fs n T h Q = wR P N r dead fs (n + 1) (putD T d v) (h.set b x) Q := by simp [wB, hl]
theorem wM_cells {b g : Nat} {k : List AV → HM AV} : wM P N (.cells b g k) d r dead fs n T h Q = ∃ cs, h.get b = some (.cells g cs) ∧ wM P N (k cs) d r dead fs n T h Q := by
  apply propext; constructor
  · rintro ⟨v', h1, hm, hk⟩
    obtain ⟨cs, hb, hm⟩ := run_cells hm
    exact ⟨cs, hb, v', h1, hm, hk⟩
  · rintro ⟨cs, hb, v', h1, hm, hk⟩
    refine ⟨v', h1, ?_, hk⟩
    unfold HM.cells
    simp only [HM.run, hb]
    have : Nat.beq g g = true := by simp
    rw [this]; exact hm
theorem ldB_some1 {g g' off : Nat} {cs : List AV} : ldB (some (.cells g' cs)) g off none = if g' = g then cs[off]? else none := rfl
theorem ldB_someN {g g' off m : Nat} {cs : List AV} : ldB (some (.cells g' cs)) g off (some m) = if g' = g then (if off + m ≤ cs.length then some (.agg ((cs.drop off).take m)) else none) else none := rfl
theorem aLoad_ptr {m : Option Nat} {b g off : Nat} : wM P N (aLoad m (.ptr b g off)) d r dead fs n T h Q = wO P N (ldB (h.get b) g off m) d r dead fs n T h Q := by
  simp only [aLoad, wM_cells]
  apply propext; constructor
  · rintro ⟨cs, hb, hk⟩
    rw [hb]
    cases m with
    | none => simpa [ldB, wM_opt] using hk
    | some m =>
      simp only [wM_ite, wM_ret] at hk
      simp only [ldB, if_true]
      rw [wO_pos hk.1, wO_some]; exact hk.2
  · rintro ⟨v, hv, hk⟩
    unfold ldB at hv
    split at hv
    · rename_i g' cs hb
      split at hv
      · rename_i e
        subst e
        refine ⟨cs, hb, ?_⟩
        cases m with
        | none => simp only at hv; simp only [wM_opt, hv, wO_some]; exact hk
        | some m =>
          simp only at hv
          split at hv
          · rename_i hl
            cases hv
            simp only [wM_ite, wM_ret]
            exact ⟨hl, hk⟩
          · cases hv
      · cases hv
    · cases hv
theorem aLoad_fptr1 {cs : List AV} : wM P N (aLoad none (.fptr cs)) d r dead fs n T h Q = wO P N cs.head? d r dead fs n T h Q := by simp only [aLoad, wM_opt]
theorem aLoad_fptrN {m : Nat} {cs : List AV} : wM P N (aLoad (some m) (.fptr cs)) d r dead fs n T h Q = wO P N (if m ≤ cs.length then some (.agg (cs.take m)) else none) d r dead fs n T h Q := by
  simp only [aLoad, wM_ite, wM_ret, wO_ite, wO_some]
theorem stB_some {g g' off m : Nat} {cs : List AV} {v : AV} : stB (some (.cells g' cs)) g off m v = if g' = g ∧ v.cells.length = m ∧ off + m ≤ cs.length ∧ v.cells.all AV.one = true then some (.cells g (putR cs off v.cells)) else none := rfl
theorem aStore_ptr {m b g off : Nat} {v : AV} : wM P N (aStore m (.ptr b g off) v) d r dead fs n T h Q = wB P N (stB (h.get b) g off m v) b .any d r dead fs n T h Q := by
  simp only [aStore, wM_cells]
  apply propext; constructor
  · rintro ⟨cs, hb, hk⟩
    simp only [wM_ite, wM_put] at hk
    rw [hb, stB_some, if_pos ⟨rfl, hk.1⟩]
    exact hk.2
  · rintro ⟨x, hx, hl, hk⟩
    unfold stB at hx
    split at hx
    · rename_i g' cs hb
      split at hx
      · rename_i e
        obtain ⟨rfl, e⟩ := e
        cases hx
        refine ⟨cs, hb, ?_⟩
        simp only [wM_ite, wM_put]
        exact ⟨e, _, rfl, hl, hk⟩
      · cases hx
    · cases hx
theorem aBox_dyn {x : AV} (hx : x.boxable = true) : wM P N (aBox .dyn n x) d r dead fs n T h Q = wN P N x.cells (.ptr n 0 0) d r dead fs n T h Q := by
  simp only [aBox, if_pos hx]
  apply propext; constructor
  · rintro ⟨v', h1, hm, hk⟩
    unfold HM.new at hm
    simp only [HM.run] at hm
    cases hn : h.get n with
    | none =>
      rw [hn] at hm
      obtain ⟨hl, hm⟩ := run_put hm
      simp only [HM.run, Option.some.injEq, Prod.mk.injEq] at hm
      obtain ⟨rfl, rfl⟩ := hm
      exact ⟨hn, hl, hk⟩
    | some z => rw [hn] at hm; cases hm
  · rintro ⟨hn, hl, hk⟩
    refine ⟨_, _, ?_, hk⟩
    unfold HM.new
    simp only [HM.run, hn]
    have hl' : Nat.blt n lim = true := by simp [Nat.blt]; omega
    rw [hl']; rfl
theorem wN_new {x : List AV} {v : AV} (hn : h.get n = none) (hl : n < lim) : wN P N x v d r dead fs n T h Q = wR P N r dead fs (n + 1) (putD T d v) (h.set n (.cells 0 x)) Q := by simp [wN, hn, hl]
theorem aLenC_str {s : List UInt8} : wM P N (aLenC 0 (.str s)) d r dead fs n T h Q = wR P N r dead fs (n + 1) (putD T d (.int .i64 s.length)) h Q := by simp [aLenC, lenKind, aLen, wM_ret]
theorem aLenC_sl {b g off len sz : Nat} : wM P N (aLenC 1 (.sl b g off len sz)) d r dead fs n T h Q = wR P N r dead fs (n + 1) (putD T d (.int .i64 len)) h Q := by simp [aLenC, lenKind, aLen, wM_ret]
theorem aLenC_fsl {cs : List AV} {len sz : Nat} : wM P N (aLenC 1 (.fsl cs len sz)) d r dead fs n T h Q = wR P N r dead fs (n + 1) (putD T d (.int .i64 len)) h Q := by simp [aLenC, lenKind, aLen, wM_ret]
theorem aLenC_nilsl : wM P N (aLenC 1 .nilsl) d r dead fs n T h Q = wR P N r dead fs (n + 1) (putD T d (.int .i64 0)) h Q := by simp [aLenC, lenKind, aLen, wM_ret]
theorem aLenC_esl : wM P N (aLenC 1 .esl) d r dead fs n T h Q = wR P N r dead fs (n + 1) (putD T d (.int .i64 0)) h Q := by simp [aLenC, lenKind, aLen, wM_ret]
end
section
variable {k : IntKind} {a b : Int}
theorem aBin_add : aBin .add (.int k a) (.int k b) = some (.int k (wr k (a + b))) := by simp [aBin]
theorem aBin_sub : aBin .sub (.int k a) (.int k b) = some (.int k (wr k (a - b))) := by simp [aBin]
theorem aBin_mul : aBin .mul (.int k a) (.int k b) = some (.int k (wr k (a * b))) := by simp [aBin]
theorem aBin_quo : aBin .quo (.int k a) (.int k b) = if b = 0 then none else some (.int k (wr k (a.tdiv b))) := by simp [aBin]
theorem aBin_rem : aBin .rem (.int k a) (.int k b) = if b = 0 then none else some (.int k (a.tmod b)) := by simp [aBin]
theorem aBin_eql : aBin .eql (.int k a) (.int k b) = some (.bool (decide (a = b))) := by simp [aBin]
theorem aBin_neq : aBin .neq (.int k a) (.int k b) = some (.bool (!decide (a = b))) := by simp [aBin]
theorem aBin_lss : aBin .lss (.int k a) (.int k b) = some (.bool (decide (a < b))) := by simp [aBin]
theorem aBin_leq : aBin .leq (.int k a) (.int k b) = some (.bool (decide (a ≤ b))) := by simp [aBin]
theorem aBin_gtr : aBin .gtr (.int k a) (.int k b) = some (.bool (decide (b < a))) := by simp [aBin]
theorem aBin_geq : aBin .geq (.int k a) (.int k b) = some (.bool (decide (b ≤ a))) := by simp [aBin]
theorem aUn_not {b : Bool} : aUn .not (.bool b) = some (.bool (!b)) := rfl
theorem aUn_neg : aUn .neg (.int k a) = some (.int k (wr k (0 - a))) := rfl
theorem aConv_int {k' : IntKind} : aConv k (.int k' a) = some (.int k (wr k a)) := rfl
theorem aPick_bool {t : Bool} {x y : AV} : aPick (.bool t) x y = some (if t then x else y) := rfl
theorem aPick_true {x y : AV} : aPick (.bool true) x y = some x := rfl
theorem aPick_false {x y : AV} : aPick (.bool false) x y = some y := rfl
theorem aExtract_tup {j : Nat} {vs : List AV} : aExtract j (.tup vs) = vs[j]? := rfl
theorem get_zero {v : AV} {vs : List AV} : (v :: vs)[0]? = some v := rfl
theorem get_succ {v : AV} {vs : List AV} {j : Nat} : (v :: vs)[j + 1]? = vs[j]? := rfl
theorem wr_i64 {n : Int} (h1 : -9223372036854775808 ≤ n) (h2 : n ≤ 9223372036854775807) : wr .i64 n = n := wr_of h1 h2
theorem wr_u64 {n : Int} (h1 : 0 ≤ n) (h2 : n ≤ 18446744073709551615) : wr .u64 n = n := wr_of h1 h2
theorem wr_u8 {n : Int} (h1 : 0 ≤ n) (h2 : n ≤ 255) : wr .u8 n = n := wr_of h1 h2
theorem wr_u16 {n : Int} (h1 : 0 ≤ n) (h2 : n ≤ 65535) : wr .u16 n = n := wr_of h1 h2
theorem wr_u32 {n : Int} (h1 : 0 ≤ n) (h2 : n ≤ 4294967295) : wr .u32 n = n := wr_of h1 h2
theorem wr_i32 {n : Int} (h1 : -2147483648 ≤ n) (h2 : n ≤ 2147483647) : wr .i32 n = n := wr_of h1 h2
theorem aIAddr_fsl {sz len s : Nat} {cs : List AV} : aIAddr none sz (.fsl cs len s) (.int k a) = if 0 ≤ a ∧ a < len ∧ s = sz then some (.fptr (cs.drop (a.toNat * sz))) else none := rfl
theorem aIAddr_sl {sz len s b g off : Nat} : aIAddr none sz (.sl b g off len s) (.int k a) = if 0 ≤ a ∧ a < len ∧ s = sz then some (.ptr b g (off + a.toNat * sz)) else none := rfl
theorem aIAddr_ptr {m sz b g off : Nat} : aIAddr (some m) sz (.ptr b g off) (.int k a) = if 0 ≤ a ∧ a < m then some (.ptr b g (off + a.toNat * sz)) else none := rfl
theorem aIAddr_fptr {m sz : Nat} {cs : List AV} : aIAddr (some m) sz (.fptr cs) (.int k a) = if 0 ≤ a ∧ a < m then some (.fptr (cs.drop (a.toNat * sz))) else none := rfl
theorem aFAddr_ptr {o off b g : Nat} : aFAddr off (.ptr b g o) = some (.ptr b g (o + off)) := rfl
theorem aFAddr_fptr {off : Nat} {cs : List AV} : aFAddr off (.fptr cs) = some (.fptr (cs.drop off)) := rfl
theorem aIndex_arr {m sz : Nat} {cs : List AV} : aIndex (some (m, sz, false)) (.agg cs) (.int k a) = if 0 ≤ a ∧ a < m then cs[a.toNat * sz]? else none := by simp [aIndex]
theorem aField_none {off : Nat} {cs : List AV} : aField none off (.agg cs) = cs[off]? := rfl
theorem aField_some {m off : Nat} {cs : List AV} : aField (some m) off (.agg cs) = if off + m ≤ cs.length then some (.agg ((cs.drop off).take m)) else none := rfl
end
def Sub (L T : Tmps) : Prop := ∀ i, lk L i = .any ∨ lk L i = lk T i
theorem Sub.nil {T : Tmps} : Sub [] T := fun _ => .inl rfl
theorem Sub.cons {T L : Tmps} {j : Nat} {v : AV} (hv : lk T j = v) (h : Sub L T) : Sub ((j, v) :: L) T := by
  intro i
  rw [lk_cons]
  split
  · rename_i e; subst e; exact .inr hv.symm
  · exact h i
theorem W2.weak {N : NM} {c : SCode} {Q : SX → St → Prop} {T L : Tmps} {h : Heap} (hT : Sub L T) (hw : W2 P N c Q ⟨L, h⟩) : W2 P N c Q ⟨T, h⟩ := by
  intro code hok ctx a w S Q' hQ
  refine hw code hok ctx a w ⟨S.heap, fun i => ?_, S.size, S.defers⟩ Q' hQ
  rcases hT i with e | e
  · show VRel ctx w (lk L i) _
    rw [e]; simp [VRel]
  · show VRel ctx w (lk L i) _
    rw [e]; exact S.tmps i
def loopQ (P : Program) (N : NM) {α : Type} (env : α → Tmps) (H : α → Heap → Nat → Prop) (μ : α → Nat) (a : α) (fs : List Fr) (Q : QC) : QC := fun e T h n =>
  match e with
  | .normal => ∃ a', μ a' < μ a ∧ Sub (env a') T ∧ H a' h n
  | e => wX P N e fs n T h Q
section
variable {N : NM} {n : Nat} {T : Tmps} {h : Heap} {Q : QC} {fs : List Fr} {α : Type} {env : α → Tmps} {H : α → Heap → Nat → Prop} {μ : α → Nat} {a : α}
theorem loopQ_normal : loopQ P N env H μ a fs Q .normal T h n = ∃ a', μ a' < μ a ∧ Sub (env a') T ∧ H a' h n := rfl
theorem loopQ_exit {i : Nat} : loopQ P N env H μ a fs Q (.exit i) T h n = wX P N (.exit i) fs n T h Q := rfl
theorem loopQ_ret : loopQ P N env H μ a fs Q .ret T h n = wX P N .ret fs n T h Q := rfl
end
theorem wS_loop {N : NM} {n : Nat} {T : Tmps} {h : Heap} {Q : QC} {fs : List Fr} {b : SCode} {α : Type} (env : α → Tmps) (H : α → Heap → Nat → Prop) (μ : α → Nat) (a0 : α)
    (hT : Sub (env a0) T) (hH : H a0 h n) (round : ∀ a h n, H a h n → wS P N b [] n (env a) h (loopQ P N env H μ a fs Q)) : wS P N (.loop b) fs n T h Q := by
  show W2 P N (.loop b) (fun e B => ∃ n, ct P N fs Q e B.T B.h n) ⟨T, h⟩
  refine W2.loop (fun m B => ∃ a n, μ a = m ∧ Sub (env a) B.T ∧ H a B.h n) (μ a0) ⟨a0, n, rfl, hT, hH⟩ ?_
  rintro m B ⟨a, n', rfl, hS, hh⟩
  refine W2.weak hS ((wpC.toW (round a B.h n' hh)).mono ?_)
  rintro e C ⟨n2, hq⟩
  cases e with
  | normal =>
    obtain ⟨a', h1, h2, h3⟩ := hq
    exact ⟨μ a', h1, a', n2, rfl, h2, h3⟩
  | exit i => exact ⟨n2, hq⟩
  | ret => exact ⟨n2, hq⟩
def wLp (P : Program) (N : NM) (b : SCode) (fs : List Fr) (n : Nat) (T : Tmps) (h : Heap) (Q : QC) : Prop := WL2 P N b (fun e B => ∃ n, ct P N fs Q e B.T B.h n) ⟨T, h⟩
def unQ (P : Program) (N : NM) (b : SCode) (fs : List Fr) (Q : QC) : QC := fun e T h n =>
  match e with
  | .normal => wLp P N b fs n T h Q
  | e => wX P N e fs n T h Q
section
variable {N : NM} {n : Nat} {T : Tmps} {h : Heap} {Q : QC} {fs : List Fr} {b : SCode}
theorem unQ_normal : unQ P N b fs Q .normal T h n = wLp P N b fs n T h Q := rfl
theorem unQ_exit {i : Nat} : unQ P N b fs Q (.exit i) T h n = wX P N (.exit i) fs n T h Q := rfl
theorem unQ_ret : unQ P N b fs Q .ret T h n = wX P N .ret fs n T h Q := rfl
theorem wS_unroll (hw : wLp P N b fs n T h Q) : wS P N (.loop b) fs n T h Q := WL2.loop hw
theorem wLp_round (hw : wS P N b [] n T h (unQ P N b fs Q)) : wLp P N b fs n T h Q := by
  refine WL2.round ((wpC.toW hw).mono ?_)
  rintro e B ⟨m, hq⟩
  cases e with
  | normal => exact hq
  | exit i => exact ⟨m, hq⟩
  | ret => exact ⟨m, hq⟩
end
theorem PSpec.of_wS {f : Nat} {sf : SFn} {args : List AV} {v : AV} (d n : Nat) (hok : okFn P f sf = true) (hl : Nat.ble args.length sf.n = true) (ha : noRefs args = true) (hv : noRef v = true)
    (hw : wS P ⟨sf.n, 0⟩ sf.body [] n (argT 0 args) .e fun e T h _ => (e = .normal ∨ e = .ret) ∧ ∃ vs, resV T h sf.res = some vs ∧ ∃ k, (frzH d (resOf vs)).run h = some (v, k)) : PSpec P f args v :=
  PSpec.of_W2 hok (Nat.le_of_ble_eq_true hl) ha hv ((wpC.toW hw).mono fun e B ⟨_, h1, vs, h2, k, h3⟩ => ⟨h1, vs, h2, Rn.of_frz hv fun c w u H hu => (frz_sound H d _ _ _ _ hu h3).2⟩)
theorem PSpec.of_rn {f : Nat} {sf : SFn} {args : List AV} {v : AV} (n : Nat) (hok : okFn P f sf = true) (hl : Nat.ble args.length sf.n = true) (ha : noRefs args = true) (hv : noRef v = true)
    (hw : wS P ⟨sf.n, 0⟩ sf.body [] n (argT 0 args) .e fun e T h _ => (e = .normal ∨ e = .ret) ∧ ∃ vs, resV T h sf.res = some vs ∧ Rn 0 π0 h v (resOf vs)) : PSpec P f args v :=
  PSpec.of_W2 hok (Nat.le_of_ble_eq_true hl) ha hv ((wpC.toW hw).mono fun e B ⟨_, h⟩ => h)
theorem HSpec.of_wS {f m : Nat} {sf : SFn} {args : List AV} {h h' : Heap} {v : AV} (n : Nat) (hok : okFn P f sf = true) (hl : Nat.ble args.length sf.n = true) (hm : ∀ b, m ≤ b → h.get b = none)
    (hw : wS P ⟨sf.n, m⟩ sf.body [] n (argT 0 args) h fun e T k _ => (e = .normal ∨ e = .ret) ∧ ∃ vs π, resV T k sf.res = some vs ∧ Maps m π k ∧ RH m π k h' ∧ RD m π k h' ∧ Rn m π k v (resOf vs)) : HSpec P f args h v h' :=
  HSpec.of_W2 hok (Nat.le_of_ble_eq_true hl) hm ((wpC.toW hw).mono fun e B ⟨_, h⟩ => h)
open Go.RowKit in
theorem below_of_evo2 {F : Nat → Prop} {m : Nat} {c' : Ctx} {w w' : World} (E : Evo2 m (only F) w c' w') : Go.RowKit.Below w.heap.size w w' :=
  ⟨E.os, E.tape, E.output, E.size, fun k hk => E.keep k hk (fun h => h)⟩
open Go.RowKit in
theorem law_of_W2 {f : Nat} {sf : SFn} {args : List AV} (hok : okFn P f sf = true) (hl : Nat.ble args.length sf.n = true)
    (hw : W2 P ⟨sf.n, 0⟩ sf.body (fun e B => (e = .normal ∨ e = .ret) ∧ resV B.T B.h sf.res = some [.bool true]) ⟨argT 0 args, .e⟩)
    {F : Nat → Prop} {w : World} {cargs : Array Value} (hF : ∀ k, F k → k < w.heap.size) (ha : VRels (only F) w args cargs.toList) :
    Calls P f cargs w fun e w' => e = .returned (.bool true) ∧ Below w.heap.size w w' := by
  refine (call_of_W2 (R := fun vs _ => vs = [.bool true]) hok (Nat.le_of_ble_eq_true hl) (hw.mono ?_) (HRel.only hF) ha).mono ?_
  · rintro e B ⟨h1, h2⟩
    exact ⟨h1, _, h2, rfl⟩
  · rintro e w' ⟨cv, c', vs, h', rfl, E, H, V, rfl⟩
    simp only [resOf, VRel] at V
    subst V
    exact ⟨rfl, below_of_evo2 E⟩
theorem PSpec.of_flat {f : Nat} {sf : SFn} {args : List AV} {v : AV} (n : Nat) (hok : okFn P f sf = true) (hl : Nat.ble args.length sf.n = true) (ha : noRefs args = true) (hv : noRef v = true)
    (hw : wS P ⟨sf.n, 0⟩ sf.body [] n (argT 0 args) .e fun e T h _ => (e = .normal ∨ e = .ret) ∧ ∃ vs, resV T h sf.res = some vs ∧ resOf vs = v) : PSpec P f args v :=
  PSpec.of_W2 hok (Nat.le_of_ble_eq_true hl) ha hv ((wpC.toW hw).mono fun e B ⟨_, he, vs, h1, h2⟩ => ⟨he, vs, h1, by rw [h2]; exact Rn.same hv⟩)
end Go.AM
set_option linter.unusedSimpArgs false
set_option linter.unusedVariables false
namespace Go.AM
variable {P : Program}
section
variable {N : NM} {n : Nat} {d : Option Nat} {af dead : List Nat} {r : List SOper} {T : Tmps} {h : Heap} {Q : QC} {fs : List Fr}
def wL (P : Program) (N : NM) (o : Option (List AV)) (len : Nat) (v : AV) (d : Option Nat) (ops : List SOper) (dead : List Nat) (fs : List Fr) (n : Nat) (T : Tmps) (h : Heap) (Q : QC) : Prop :=
  ∃ cs, o = some cs ∧ cs.length = len ∧ wN P N cs v d ops dead fs n T h Q
theorem wL_some {cs : List AV} {len : Nat} {v : AV} : wL P N (some cs) len v d r dead fs n T h Q = if cs.length = len then wN P N cs v d r dead fs n T h Q else False := by
  by_cases hl : cs.length = len <;> simp [wL, hl]
theorem wN_free {x : List AV} {v : AV} (hn : h.get n = none) (hl : n < 1099511627775) : wN P N x v d r dead fs n T h Q = wR P N r dead fs (n + 1) (putD T d v) (h.set n (.cells 0 x)) Q := wN_new hn hl
theorem wN_go {x : List AV} {v : AV} (hl : n < 1099511627775) : wN P N x v d r dead fs n T h Q = if h.get n = none then wR P N r dead fs (n + 1) (putD T d v) (h.set n (.cells 0 x)) Q else False := by
  split
  · rename_i hn; exact wN_new hn hl
  · rename_i hn; simp [wN, hn]
theorem wB_go {x : Blk} {b : Nat} {v : AV} (hl : b < 1099511627775) : wB P N (some x) b v d r dead fs n T h Q = wR P N r dead fs (n + 1) (putD T d v) (h.set b x) Q := wB_some hl
theorem get_same {k : Nat} {x : Blk} (hk : k < 1099511627775) : (h.set k x).get k = some x := by rw [Tr.get_set h hk]; simp
theorem get_ne {j k : Nat} {x : Blk} (hk : k < 1099511627775) (hj : j ≠ k) : (h.set k x).get j = h.get j := by rw [Tr.get_set h hk]; simp [hj]
theorem wM_new {x : Nat → Blk} {y : List AV} (hx : x 0 = .cells 0 y) {w : Nat → Nat → AV} : wM P N (HM.new .dyn n x fun b g => .ret (w b g)) d r dead fs n T h Q = wN P N y (w n 0) d r dead fs n T h Q := by
  apply propext; constructor
  · rintro ⟨v', h1, hm, hk⟩
    unfold HM.new at hm
    simp only [HM.run] at hm
    cases hn : h.get n with
    | none =>
      rw [hn] at hm
      obtain ⟨hl, hm⟩ := run_put hm
      simp only [HM.run, Option.some.injEq, Prod.mk.injEq] at hm
      obtain ⟨rfl, rfl⟩ := hm
      rw [hx] at hk
      exact ⟨hn, hl, hk⟩
    | some z => rw [hn] at hm; cases hm
  · rintro ⟨hn, hl, hk⟩
    refine ⟨_, _, ?_, by rw [← hx] at hk; exact hk⟩
    unfold HM.new
    simp only [HM.run, hn]
    have hl' : Nat.blt n lim = true := by simp [Nat.blt]; omega
    rw [hl']; rfl
theorem aBox_new {x : AV} : wM P N (aBox .dyn n x) d r dead fs n T h Q = if x.boxable = true then wN P N x.cells (.ptr n 0 0) d r dead fs n T h Q else False := by
  split
  · rename_i hb; exact aBox_dyn hb
  · rename_i hb; simp only [aBox, if_neg hb, wM_fail]
theorem aBuildSlice_new {sz len : Nat} {z : List AV} {ps : List (Nat × Nat × AV)} : wM P N (aBuildSlice false .dyn n sz len z ps) d r dead fs n T h Q = wL P N (fillA z ps) (len * sz) (.sl n 0 0 len sz) d r dead fs n T h Q := by
  unfold aBuildSlice
  cases fillA z ps with
  | none => simp [wM_fail, wL]
  | some cs =>
    simp only [wL_some, Bool.false_eq_true, if_false]
    split
    · exact wM_new rfl
    · exact wM_fail
theorem aMakeSlice_new {sz bytes : Nat} {z : List AV} {k1 k2 : IntKind} {l c : Int} : wM P N (aMakeSlice .dyn n sz bytes z (.int k1 l) (.int k2 c)) d r dead fs n T h Q =
    if 0 ≤ l ∧ l ≤ c ∧ bytes * c ≤ 1099511627776 ∧ c ≤ 1099511627776 then wN P N (List.replicate c.toNat z).flatten (.sl n 0 0 l.toNat sz) d r dead fs n T h Q else False := by
  by_cases hc : 0 ≤ l ∧ l ≤ c ∧ bytes * c ≤ 1099511627776 ∧ c ≤ 1099511627776
  · simp only [aMakeSlice, if_pos hc]; exact wM_new (x := fun g => .cells g (List.replicate c.toNat z).flatten) rfl
  · simp only [aMakeSlice, if_neg hc]; exact wM_fail
theorem fillA_nil {cs : List AV} : fillA cs [] = some cs := rfl
theorem fillA_cons {cs : List AV} {off size : Nat} {v : AV} {r : List (Nat × Nat × AV)} : fillA cs ((off, size, v) :: r) = if v.cells.length = size ∧ off + size ≤ cs.length ∧ v.boxable = true then fillA (putR cs off v.cells) r else none := rfl
theorem aBuild_eq {z : List AV} {ps : List (Nat × Nat × AV)} : aBuild z ps = (fillA z ps).map AV.agg := by unfold aBuild; cases fillA z ps <;> rfl
theorem cells_int {k : IntKind} {a : Int} : (AV.int k a).cells = [.int k a] := rfl
theorem cells_agg {cs : List AV} : (AV.agg cs).cells = cs := rfl
theorem cells_sl {b g off len sz : Nat} : (AV.sl b g off len sz).cells = [.sl b g off len sz] := rfl
theorem cells_fsl {cs : List AV} {len sz : Nat} : (AV.fsl cs len sz).cells = [.fsl cs len sz] := rfl
theorem cells_nilsl : AV.nilsl.cells = [.nilsl] := rfl
theorem box_int {k : IntKind} {a : Int} : (AV.int k a).boxable = true := rfl
theorem box_agg {cs : List AV} : (AV.agg cs).boxable = true := rfl
theorem box_sl {b g off len sz : Nat} : (AV.sl b g off len sz).boxable = true := rfl
theorem box_fsl {cs : List AV} {len sz : Nat} : (AV.fsl cs len sz).boxable = true := rfl
theorem box_nilsl : AV.nilsl.boxable = true := rfl
theorem one_int {k : IntKind} {a : Int} : (AV.int k a).one = true := rfl
theorem one_sl {b g off len sz : Nat} : (AV.sl b g off len sz).one = true := rfl
theorem one_fsl {cs : List AV} {len sz : Nat} : (AV.fsl cs len sz).one = true := rfl
theorem one_nilsl : AV.nilsl.one = true := rfl
theorem putR_one {cs : List AV} {off : Nat} {v : AV} : putR cs off [v] = cs.set off v := rfl
theorem putR_many {cs : List AV} {off : Nat} {v w : AV} {vs : List AV} : putR cs off (v :: w :: vs) = cs.take off ++ (v :: w :: vs) ++ cs.drop (off + (v :: w :: vs).length) := rfl
def srcB (o : Option Blk) (g off len sz : Nat) : Option (List AV) :=
  match o with
  | some (.cells g' cs) => if g' = g ∧ off + len * sz ≤ cs.length then some ((cs.drop off).take (len * sz)) else none
  | _ => none
theorem srcB_some {g g' off len sz : Nat} {cs : List AV} : srcB (some (.cells g' cs)) g off len sz = if g' = g ∧ off + len * sz ≤ cs.length then some ((cs.drop off).take (len * sz)) else none := rfl
theorem aAppend_nil {sz bytes b g off len : Nat} : wM P N (aAppend .dyn n sz bytes .nilsl (.sl b g off (len + 1) sz)) d r dead fs n T h Q =
    ∃ ys, srcB (h.get b) g off (len + 1) sz = some ys ∧ ((len + 1) * bytes ≤ 1099511627776 ∧ len + 1 ≤ 1099511627776) ∧ ys.all AV.one = true ∧ wN P N ys (.sl n 0 0 (len + 1) sz) d r dead fs n T h Q := by
  simp only [aAppend, aSrc, if_true, slLen, Nat.zero_add, wM_cells, wM_ite]
  apply propext; constructor
  · rintro ⟨cs, hb, h1, h2, h3⟩
    rw [hb, srcB_some, if_pos ⟨rfl, h1⟩]
    exact ⟨_, rfl, ⟨h2.1, h2.2.1⟩, h2.2.2, by rw [wM_new rfl] at h3; exact h3⟩
  · rintro ⟨ys, hy, h2, h3, h4⟩
    unfold srcB at hy
    split at hy
    · rename_i g' cs hb
      split at hy
      · rename_i e
        obtain ⟨rfl, e⟩ := e
        cases hy
        exact ⟨cs, hb, e, ⟨h2.1, h2.2, h3⟩, by rw [wM_new rfl]; exact h4⟩
      · cases hy
    · cases hy
theorem aAppend_sl {sz bytes b g off len b2 g2 off2 len2 : Nat} : wM P N (aAppend .dyn n sz bytes (.sl b2 g2 off2 len2 sz) (.sl b g off len sz)) d r dead fs n T h Q =
    ∃ ys zs, srcB (h.get b) g off len sz = some ys ∧ srcB (h.get b2) g2 off2 len2 sz = some zs ∧ ((len2 + len) * bytes ≤ 1099511627776 ∧ len2 + len ≤ 1099511627776) ∧ ys.all AV.one = true ∧
      wB P N (some (.cells (g2 + 1) (zs ++ ys))) b2 (.sl b2 (g2 + 1) 0 (len2 + len) sz) d r dead fs n T h Q := by
  simp only [aAppend, aSrc, if_true, slLen, wM_cells, wM_ite, wM_put]
  apply propext; constructor
  · rintro ⟨cs, hb, h1, h2, cs2, hb2, h3, h4⟩
    rw [hb, hb2, srcB_some, srcB_some, if_pos ⟨rfl, h1⟩, if_pos ⟨rfl, h3⟩]
    exact ⟨_, _, rfl, rfl, ⟨h2.1, h2.2.1⟩, h2.2.2, h4⟩
  · rintro ⟨ys, zs, hy, hz, h2, h3, h4⟩
    unfold srcB at hy hz
    split at hy
    · rename_i g' cs hb
      split at hy
      · rename_i e
        obtain ⟨rfl, e⟩ := e
        cases hy
        split at hz
        · rename_i g3 cs2 hb2
          split at hz
          · rename_i e2
            obtain ⟨rfl, e2⟩ := e2
            cases hz
            exact ⟨cs, hb, e, ⟨h2.1, h2.2, h3⟩, cs2, hb2, e2, h4⟩
          · cases hz
        · cases hz
      · cases hy
    · cases hy
end
def Fresh (n : Nat) (h : Heap) : Prop := ∀ b, n ≤ b → h.get b = none
theorem Fresh.e {n : Nat} : Fresh n .e := fun b _ => by simp [Tr.get]
theorem Fresh.le {n m : Nat} {h : Heap} (hf : Fresh n h) (hl : n ≤ m) : Fresh m h := fun b hb => hf b (Nat.le_trans hl hb)
theorem Fresh.set {n k : Nat} {h : Heap} {x : Blk} (hf : Fresh n h) (hk : k < 1099511627775) (hl : k < n) : Fresh n (h.set k x) := fun b hb => by
  rw [get_ne hk (by omega)]; exact hf b hb
end Go.AM
set_option linter.unusedSimpArgs false
set_option linter.unusedVariables false
namespace Go.AM
variable {P : Program}
def FrzTo (h : Heap) (x y : AV) : Prop := ∀ (c : Ctx) (w : World) (v : Value), HRel c h w → VRel c w x v → VRel (lent c) w y v
def FrzL (h : Heap) : List AV → List AV → Prop
  | [], [] => True
  | x :: xs, y :: ys => FrzTo h x y ∧ FrzL h xs ys
  | _, _ => False
variable {h : Heap}
theorem FrzTo.same (x : AV) : FrzTo h x x := fun c w v _ hv => VRel.mono (lent_ext c w) _ _ hv
theorem FrzL.same : ∀ (xs : List AV), FrzL h xs xs
  | [] => trivial
  | x :: xs => ⟨.same x, FrzL.same xs⟩
theorem FrzL.length : ∀ {xs ys : List AV}, FrzL h xs ys → ys.length = xs.length
  | [], [], _ => rfl
  | [], _ :: _, hh => hh.elim
  | _ :: _, [], hh => hh.elim
  | x :: xs, y :: ys, hh => by simp [FrzL.length hh.2]
theorem FrzL.append : ∀ {xs ys us vs : List AV}, FrzL h xs ys → FrzL h us vs → FrzL h (xs ++ us) (ys ++ vs)
  | [], [], _, _, _, h2 => h2
  | [], _ :: _, _, _, hh, _ => hh.elim
  | _ :: _, [], _, _, hh, _ => hh.elim
  | x :: xs, y :: ys, _, _, hh, h2 => ⟨hh.1, FrzL.append hh.2 h2⟩
theorem FrzL.pre {c : Ctx} {w : World} (H : HRel c h w) : ∀ {xs ys : List AV} {vs : List Value}, FrzL h xs ys → VPre c w xs vs → VPre (lent c) w ys vs
  | [], [], _, _, _ => by simp [VPre]
  | [], _ :: _, _, hh, _ => hh.elim
  | _ :: _, [], _, hh, _ => hh.elim
  | x :: xs, y :: ys, vs, hh, hv => by
    simp only [VPre] at hv ⊢
    obtain ⟨v, vs', rfl, g1, g2⟩ := hv
    exact ⟨v, vs', rfl, hh.1 c w v H g1, FrzL.pre H hh.2 g2⟩
theorem FrzL.rels {c : Ctx} {w : World} (H : HRel c h w) : ∀ {xs ys : List AV} {vs : List Value}, FrzL h xs ys → VRels c w xs vs → VRels (lent c) w ys vs
  | [], [], _, _, hv => by simpa [VRels] using hv
  | [], _ :: _, _, hh, _ => hh.elim
  | _ :: _, [], _, hh, _ => hh.elim
  | x :: xs, y :: ys, vs, hh, hv => by
    simp only [VRels] at hv ⊢
    obtain ⟨v, vs', rfl, g1, g2⟩ := hv
    exact ⟨v, vs', rfl, hh.1 c w v H g1, FrzL.rels H hh.2 g2⟩
theorem FrzTo.nil {sz : Nat} : FrzTo h .nilsl (.fsl [] 0 sz) := fun c w v _ hv => by
  simp only [VRel] at hv ⊢
  exact .inl ⟨⟨none, hv⟩, by simp⟩
theorem FrzTo.agg {xs ys : List AV} (hL : FrzL h xs ys) : FrzTo h (.agg xs) (.agg ys) := fun c w v H hv => by
  simp only [VRel] at hv ⊢
  obtain ⟨vs, rfl, hv⟩ := hv
  exact ⟨vs, rfl, hL.rels H hv⟩
theorem FrzTo.tup {xs ys : List AV} (hL : FrzL h xs ys) : FrzTo h (.tup xs) (.tup ys) := fun c w v H hv => by
  simp only [VRel] at hv ⊢
  obtain ⟨vs, rfl, hv⟩ := hv
  exact ⟨vs, rfl, hL.rels H hv⟩
theorem FrzTo.sl {b g off len sz : Nat} {cs ys : List AV} (hb : h.get b = some (.cells g cs)) (hl : off + len * sz ≤ cs.length) (hL : FrzL h ((cs.drop off).take (len * sz)) ys) :
    FrzTo h (.sl b g off len sz) (.fsl ys len sz) := fun c w v H hv => by
  have hlen := hL.length
  simp only [VRel] at hv
  rcases hv with ⟨hp, rfl, rfl, rfl⟩ | ⟨cb, base, o, cap, C, e, fr, hp, rfl, hlc, hC, hcap⟩
  · have hys : ys = [] := by
      apply List.eq_nil_of_length_eq_zero
      rw [hlen]; simp
    subst hys
    simp only [VRel]; exact .inl (by simp)
  · obtain ⟨C', e', fr', hO, hC', hfr, hbs, hpre⟩ := H.here hb hp
    rw [hC] at hC'; cases hC'
    by_cases h0 : cap = 0
    · have hl0 : len = 0 := by omega
      subst hl0
      have hys : ys = [] := by
        apply List.eq_nil_of_length_eq_zero
        rw [hlen]; simp
      subst hys
      simp only [VRel]
      exact .inr ⟨cb, o, cap, C, e, fr, rfl, hlc, by simp, .inr hO, hC, by simp [VPre]⟩
    · obtain ⟨rfl, hbd⟩ := hcap.resolve_left h0
      have hp2 := VPre_take (len * sz) (VPre_drop off hpre)
      rw [List.drop_drop] at hp2
      simp only [VRel]
      exact .inr ⟨cb, base + off, cap, C, e, fr, rfl, hlc, by rw [hlen]; simp; omega, .inr hO, hC, hL.pre H hp2⟩
theorem PSpec.of_frz {f : Nat} {sf : SFn} {args : List AV} {v : AV} (n : Nat) (hok : okFn P f sf = true) (hl : Nat.ble args.length sf.n = true) (ha : noRefs args = true) (hv : noRef v = true)
    (hw : wS P ⟨sf.n, 0⟩ sf.body [] n (argT 0 args) .e fun e T h _ => (e = .normal ∨ e = .ret) ∧ ∃ vs, resV T h sf.res = some vs ∧ FrzTo h (resOf vs) v) : PSpec P f args v :=
  PSpec.of_W2 hok (Nat.le_of_ble_eq_true hl) ha hv ((wpC.toW hw).mono fun e B ⟨_, h1, vs, h2, h3⟩ => ⟨h1, vs, h2, Rn.of_frz hv h3⟩)
def Row (h : Heap) (ok : Nat → Prop) (v : AV) (cs : List AV) (len sz : Nat) : Prop :=
  (v = .nilsl ∧ cs = [] ∧ len = 0) ∨ ∃ b g, v = .sl b g 0 len sz ∧ h.get b = some (.cells g cs) ∧ cs.length = len * sz ∧ ok b
theorem Row.nil {ok : Nat → Prop} {sz : Nat} : Row h ok .nilsl [] 0 sz := .inl ⟨rfl, rfl, rfl⟩
theorem Row.keep {h h' : Heap} {ok ok' : Nat → Prop} {v : AV} {cs : List AV} {len sz : Nat} (hr : Row h ok v cs len sz) (hk : ∀ b, ok b → h.get b ≠ none → h'.get b = h.get b ∧ ok' b) : Row h' ok' v cs len sz := by
  rcases hr with hr | ⟨b, g, h1, h2, h3, h4⟩
  · exact .inl hr
  · obtain ⟨k1, k2⟩ := hk b h4 (by rw [h2]; simp)
    exact .inr ⟨b, g, h1, by rw [k1]; exact h2, h3, k2⟩
theorem Row.frz {ok : Nat → Prop} {v : AV} {cs ys : List AV} {len sz : Nat} (hr : Row h ok v cs len sz) (hL : FrzL h cs ys) : FrzTo h v (.fsl ys len sz) := by
  rcases hr with ⟨rfl, rfl, rfl⟩ | ⟨b, g, rfl, h2, h3, h4⟩
  · cases ys with
    | nil => exact FrzTo.nil
    | cons y ys => exact hL.elim
  · refine FrzTo.sl h2 (by omega) ?_
    rw [List.drop_zero, ← h3, List.take_length]; exact hL
theorem Row.len {ok : Nat → Prop} {v : AV} {cs : List AV} {len sz : Nat} (hr : Row h ok v cs len sz) : cs.length = len * sz := by
  rcases hr with ⟨_, rfl, rfl⟩ | ⟨_, _, _, _, h3, _⟩
  · simp
  · exact h3
section
variable {N : NM} {n : Nat} {d : Option Nat} {af dead : List Nat} {r : List SOper} {T : Tmps} {Q : QC} {fs : List Fr}
theorem app_row {ok : Nat → Prop} {v : AV} {cs ys : List AV} {len sz bytes k : Nat} (hr : Row h ok v cs len sz) (hk : h.get k = some (.cells 0 ys)) (hy : ys.length = sz) (ho : ys.all AV.one = true) (hf : Fresh n h)
    (hn : n < 1099511627775) (hb : (len + 1) * bytes ≤ 1099511627776) (hl : len + 1 ≤ 1099511627776)
    (K : ∀ v' h', Row h' (fun b => ok b ∨ b = n) v' (cs ++ ys) (len + 1) sz → Fresh (n + 1) h' → (∀ b, ¬ ok b → b ≠ n → h'.get b = h.get b) → wR P N r dead fs (n + 1) (putD T d v') h' Q) :
    wM P N (aAppend .dyn n sz bytes v (.sl k 0 0 1 sz)) d r dead fs n T h Q := by
  have hs : srcB (h.get k) 0 0 1 sz = some ys := by
    rw [hk, srcB_some, if_pos ⟨rfl, by omega⟩, List.drop_zero, Nat.one_mul, ← hy, List.take_length]
  rcases hr with ⟨rfl, rfl, rfl⟩ | ⟨b, g, rfl, h2, h3, h4⟩
  · rw [show (AV.sl k 0 0 1 sz) = .sl k 0 0 (0 + 1) sz from rfl, aAppend_nil]
    refine ⟨ys, hs, ⟨hb, hl⟩, ho, ?_⟩
    rw [wN_free (hf n (Nat.le_refl _)) hn]
    refine K _ _ (.inr ⟨n, 0, rfl, get_same hn, by simp [hy], .inr rfl⟩) (fun b hb => ?_) fun b _ hb => get_ne hn hb
    rw [get_ne hn (by omega)]; exact hf b (by omega)
  · have hbn : b < n := by
      rcases Nat.lt_or_ge b n with h | h
      · exact h
      · rw [hf b h] at h2; cases h2
    rw [aAppend_sl]
    refine ⟨ys, cs, hs, ?_, ⟨hb, hl⟩, ho, ?_⟩
    · rw [h2, srcB_some, if_pos ⟨rfl, by omega⟩, List.drop_zero, ← h3, List.take_length]
    · rw [wB_some (show b < lim by unfold lim; omega)]
      refine K _ _ (.inr ⟨b, g + 1, rfl, get_same (by omega), by simp [hy, h3, Nat.succ_mul], .inl h4⟩) (fun b' hb' => ?_) fun b' hb' _ => get_ne (by omega) (fun e => hb' (e ▸ h4))
      rw [get_ne (by omega) (by omega)]; exact hf b' (by omega)
theorem app_set {ok : Nat → Prop} {v : AV} {cs ys : List AV} {len sz bytes k : Nat} (hr : Row h ok v cs len sz) (hf : Fresh k h) (hk : k < n) (hn : n < 1099511627775)
    (hy : ys.length = sz) (ho : ys.all AV.one = true) (hb : (len + 1) * bytes ≤ 1099511627776) (hl : len + 1 ≤ 1099511627776)
    (K : ∀ v' h', Row h' (fun b => ok b ∨ b = n) v' (cs ++ ys) (len + 1) sz → Fresh (n + 1) h' → (∀ b, ¬ ok b → b < k → h'.get b = h.get b) → wR P N r dead fs (n + 1) (putD T d v') h' Q) :
    wM P N (aAppend .dyn n sz bytes v (.sl k 0 0 1 sz)) d r dead fs n T (h.set k (.cells 0 ys)) Q := by
  have hkk : k < 1099511627775 := by omega
  have hr' : Row (h.set k (.cells 0 ys)) ok v cs len sz := hr.keep fun b hb hne => ⟨get_ne hkk (fun e => hne (hf b (by omega))), hb⟩
  refine app_row hr' (get_same hkk) hy ho ((hf.le (by omega)).set hkk hk) hn hb hl fun v' h' h1 h2 h3 => K v' h' h1 h2 fun b hb hbk => ?_
  rw [h3 b hb (by omega), get_ne hkk (by omega)]
end
end Go.AM
set_option linter.unusedSimpArgs false
set_option linter.unusedVariables false
namespace Go.AM
variable {P : Program}
def blkOf : AV → Option Nat
  | .sl b _ _ _ _ => some b
  | _ => none
structure Mat (h : Heap) (n lo : Nat) (v : AV) (rows : List AV) (L : List (List Int)) : Prop where
  len : rows.length = L.length
  out : Row h (fun b => blkOf v = some b ∧ lo < b ∧ b < n) v rows rows.length 1
  row : ∀ (j : Nat) (r : AV) (l : List Int), rows[j]? = some r → L[j]? = some l → Row h (fun b => lo < b ∧ b < n ∧ blkOf v ≠ some b) r (l.map (.int .i64)) l.length 1
theorem Mat.nil {h : Heap} {n lo : Nat} : Mat h n lo .nilsl [] [] := ⟨rfl, .nil, fun j r l hr => by simp at hr⟩
theorem Mat.keep {h h' : Heap} {n n' lo : Nat} {v : AV} {rows : List AV} {L : List (List Int)} (m : Mat h n lo v rows L) (hn : n ≤ n') (hk : ∀ b, lo < b → b < n → h'.get b = h.get b) : Mat h' n' lo v rows L :=
  ⟨m.len, m.out.keep fun b hb _ => ⟨hk b hb.2.1 hb.2.2, hb.1, hb.2.1, by omega⟩, fun j r l h1 h2 => (m.row j r l h1 h2).keep fun b hb _ => ⟨hk b hb.1 hb.2.1, hb.1, by omega, hb.2.2⟩⟩
theorem Mat.frzL {h : Heap} {n lo : Nat} {v : AV} {rows : List AV} {L : List (List Int)} (m : Mat h n lo v rows L) : FrzL h rows (L.map fun l => .fsl (l.map (.int .i64)) l.length 1) := by
  have key : ∀ (rows : List AV) (L : List (List Int)), rows.length = L.length → (∀ (j : Nat) (r : AV) (l : List Int), rows[j]? = some r → L[j]? = some l → FrzTo h r (.fsl (l.map (.int .i64)) l.length 1)) →
      FrzL h rows (L.map fun l => .fsl (l.map (.int .i64)) l.length 1) := by
    intro rows
    induction rows with
    | nil => intro L hl _; cases L with | nil => trivial | cons a L => simp at hl
    | cons r rows ih =>
      intro L hl hh
      cases L with
      | nil => simp at hl
      | cons a L => exact ⟨hh 0 r a rfl rfl, ih L (by simpa using hl) fun j r l h1 h2 => hh (j + 1) r l (by simpa using h1) (by simpa using h2)⟩
  exact key rows L m.len fun j r l h1 h2 => (m.row j r l h1 h2).frz (FrzL.same _)
theorem Mat.frz {h : Heap} {n lo : Nat} {v : AV} {rows : List AV} {L : List (List Int)} (m : Mat h n lo v rows L) : FrzTo h v (.fsl (L.map fun l => .fsl (l.map (.int .i64)) l.length 1) L.length 1) := by
  have := m.out.frz m.frzL
  rwa [m.len] at this
theorem Row.one {h : Heap} {ok : Nat → Prop} {v : AV} {cs : List AV} {len sz : Nat} (hr : Row h ok v cs len sz) : v.one = true := by
  rcases hr with ⟨rfl, _⟩ | ⟨_, _, rfl, _⟩ <;> rfl
theorem Row.boxable {h : Heap} {ok : Nat → Prop} {v : AV} {cs : List AV} {len sz : Nat} (hr : Row h ok v cs len sz) : v.boxable = true := by
  rcases hr with ⟨rfl, _⟩ | ⟨_, _, rfl, _⟩ <;> rfl
theorem Row.cells1 {h : Heap} {ok : Nat → Prop} {v : AV} {cs : List AV} {len sz : Nat} (hr : Row h ok v cs len sz) : v.cells = [v] := by
  rcases hr with ⟨rfl, _⟩ | ⟨_, _, rfl, _⟩ <;> rfl
section
variable {N : NM} {n : Nat} {d : Option Nat} {dead : List Nat} {r : List SOper} {T : Tmps} {Q : QC} {fs : List Fr}
theorem mat_app {h h2 : Heap} {n0 lo k bytes : Nat} {v u : AV} {rows : List AV} {L : List (List Int)} {l : List Int} (m : Mat h n0 lo v rows L) (hag : ∀ b, b < n0 → h2.get b = h.get b)
    (hu : Row h2 (fun b => n0 ≤ b ∧ b < k) u (l.map (.int .i64)) l.length 1) (hf : Fresh k h2) (hlo : lo < n0) (h0 : n0 ≤ k) (hk : k < n) (hn : n < 1099511627775) (hb : (L.length + 1) * bytes ≤ 1099511627776) (hl : L.length + 1 ≤ 1099511627776)
    (K : ∀ v' h' rows', Mat h' (n + 1) lo v' rows' (L ++ [l]) → Fresh (n + 1) h' → (∀ b, b ≤ lo → h'.get b = h.get b) → wR P N r dead fs (n + 1) (putD T d v') h' Q) :
    wM P N (aAppend .dyn n 1 bytes v (.sl k 0 0 1 1)) d r dead fs n T (h2.set k (.cells 0 [u])) Q := by
  have hml := m.len
  have ho : Row h2 (fun b => blkOf v = some b ∧ lo < b ∧ b < n0) v rows rows.length 1 := m.out.keep fun b hb _ => ⟨hag b hb.2.2, hb⟩
  refine app_set ho hf hk hn rfl (by simp [hu.one]) (by rw [hml]; exact hb) (by rw [hml]; exact hl) ?_
  intro v' h' hr hf' hsame
  have hvv : ∀ b, blkOf v' = some b → (blkOf v = some b ∧ lo < b ∧ b < n0) ∨ b = n := by
    intro b hb'
    rcases hr with ⟨rfl, _⟩ | ⟨b', g, rfl, _, _, hok⟩
    · cases hb'
    · cases hb'; exact hok
  refine K v' h' (rows ++ [u]) ⟨by simp [hml], ?_, ?_⟩ hf' fun b hb => ?_
  · rw [List.length_append]
    rcases hr with ⟨_, h1, _⟩ | ⟨b', g, rfl, h1, h3, hok⟩
    · simp at h1
    · refine .inr ⟨b', g, rfl, h1, h3, rfl, ?_⟩
      rcases hok with hok | rfl
      · exact ⟨hok.2.1, by omega⟩
      · exact ⟨by omega, by omega⟩
  · intro j rr l' h1 h2'
    by_cases hj : j < rows.length
    · rw [List.getElem?_append_left hj] at h1
      rw [List.getElem?_append_left (by omega)] at h2'
      refine (m.row j rr l' h1 h2').keep fun b hb _ => ?_
      have e1 : h'.get b = h2.get b := hsame b (fun hc => hb.2.2 hc.1) (by omega)
      refine ⟨by rw [e1, hag b hb.2.1], hb.1, by omega, fun hc => ?_⟩
      rcases hvv b hc with hc | hc
      · exact hb.2.2 hc.1
      · omega
    · have hj' : j = rows.length := by
        have := (List.getElem?_eq_some_iff.1 h1).1
        simp at this; omega
      subst hj'
      have e1 : rr = u := by simpa using h1.symm
      have e2 : l' = l := by rw [hml] at h2'; simpa using h2'.symm
      subst e1; subst e2
      refine hu.keep fun b hb _ => ?_
      refine ⟨hsame b (fun hc => by omega) (by omega), by omega, by omega, fun hc => ?_⟩
      rcases hvv b hc with hc | hc <;> omega
  · rw [hsame b (fun hc => by omega) (by omega), hag b (by omega)]
end
end Go.AM
set_option linter.unusedSimpArgs false
set_option linter.unusedVariables false
namespace Go.AM
variable {P : Program}
abbrev HL := List (Nat × Blk)
def hp : HL → Heap
  | [] => .e
  | p :: r => (hp r).set p.1 p.2
theorem hp_nil : hp [] = .e := rfl
theorem hp_cons {b : Nat} {x : Blk} {r : HL} : hp ((b, x) :: r) = (hp r).set b x := rfl
theorem get_e {b : Nat} : Tr.get (α := Blk) .e b = none := by simp [Tr.get]
def lkS : List (Nat × Src) → Nat → Option Src
  | [], _ => none
  | (b, s) :: r, k => if k = b then some s else lkS r k
def srcNew (s : Src) : List (Nat × Src) → Bool
  | [] => true
  | (_, t) :: r => (match s, t with | .blk b _, .blk b' _ => !Nat.beq b b' | _, _ => true) && srcNew s r
def okPs (m : Nat) : List (Nat × Src) → HL → Bool
  | [], [] => true
  | (b, s) :: r, (b', _) :: l => Nat.beq b b' && Nat.blt b 1099511627775 && (Nat.blt b m || ((match s with | .blk k _ => Nat.ble m k | .nil => true) && srcNew s r)) && (r.all fun p => !Nat.beq p.1 b) && okPs m r l
  | _, _ => false
def ow (m : Nat) (ps : List (Nat × Src)) : Nat → Option Src := fun b => if b < m then none else lkS ps b
def RB (m : Nat) (π : Nat → Option Src) (h : Heap) : HL → Prop
  | [] => True
  | (b', x) :: r => ((b' < m ∧ BRn m π h (some (.blk b' x.gen)) x) ∨ (m ≤ b' ∧ x.gen = 0 ∧ (∀ g, x ≠ .dead g) ∧ BRn m π h (π b') x)) ∧ RB m π h r
section
variable {m : Nat} {π : Nat → Option Src} {h : Heap}
theorem hp_get : ∀ {L : HL} {ps : List (Nat × Src)}, okPs m ps L = true → ∀ {b : Nat} {x : Blk}, (hp L).get b = some x → (b, x) ∈ L
  | [], [], _, b, x, hx => by simp [hp, Tr.get] at hx
  | [], _ :: _, hh, _, _, _ => by simp [okPs] at hh
  | (b', x') :: L, [], hh, _, _, _ => by simp [okPs] at hh
  | (b', x') :: L, (k, s) :: ps, hh, b, x, hx => by
    simp only [okPs, Bool.and_eq_true, Nat.blt_eq, Nat.beq_eq] at hh
    obtain ⟨⟨⟨⟨rfl, h3⟩, _⟩, _⟩, h4⟩ := hh
    simp only [hp] at hx
    by_cases e : b = k
    · subst e
      rw [get_same h3] at hx; cases hx
      simp
    · rw [get_ne h3 e] at hx
      simp [hp_get h4 hx]
theorem hp_none : ∀ {L : HL} {ps : List (Nat × Src)}, okPs m ps L = true → ∀ {b : Nat}, (hp L).get b = none → lkS ps b = none
  | [], [], _, b, _ => rfl
  | [], _ :: _, hh, _, _ => by simp [okPs] at hh
  | (b', x') :: L, [], hh, _, _ => by simp [okPs] at hh
  | (b', x') :: L, (k, s) :: ps, hh, b, hx => by
    simp only [okPs, Bool.and_eq_true, Nat.blt_eq, Nat.beq_eq] at hh
    obtain ⟨⟨⟨⟨rfl, h3⟩, _⟩, _⟩, h4⟩ := hh
    simp only [hp] at hx
    by_cases e : b = k
    · subst e
      rw [get_same h3] at hx; cases hx
    · rw [get_ne h3 e] at hx
      simp only [lkS, if_neg e]
      exact hp_none h4 hx
theorem RB.mem : ∀ {L : HL}, RB m π h L → ∀ {b : Nat} {x : Blk}, (b, x) ∈ L → (b < m ∧ BRn m π h (some (.blk b x.gen)) x) ∨ (m ≤ b ∧ x.gen = 0 ∧ (∀ g, x ≠ .dead g) ∧ BRn m π h (π b) x)
  | [], _, _, _, hm => by cases hm
  | (b', x') :: L, hh, b, x, hm => by
    rcases List.mem_cons.1 hm with e | hm
    · cases e; exact hh.1
    · exact RB.mem hh.2 hm
theorem okPs_src : ∀ {ps : List (Nat × Src)} {L : HL}, okPs m ps L = true → ∀ {b b1 g : Nat}, m ≤ b → lkS ps b = some (.blk b1 g) → m ≤ b1
  | [], _, _, _, _, _, _, hs => by simp [lkS] at hs
  | _ :: _, [], hh, _, _, _, _, _ => by simp [okPs] at hh
  | (k, s) :: ps, (b', x') :: L, hh, b, b1, g, hb, hs => by
    simp only [okPs, Bool.and_eq_true, Bool.or_eq_true, Nat.blt_eq] at hh
    obtain ⟨⟨⟨_, h3⟩, _⟩, h4⟩ := hh
    simp only [lkS] at hs
    split at hs
    · rename_i e
      cases hs
      rcases h3 with h3 | h3
      · omega
      · simpa using h3.1
    · exact okPs_src h4 hb hs
theorem srcNew_ne : ∀ {ps : List (Nat × Src)} {b g b' g' k : Nat}, srcNew (.blk b g) ps = true → lkS ps k = some (.blk b' g') → b ≠ b'
  | [], _, _, _, _, _, _, hs => by simp [lkS] at hs
  | (j, s) :: ps, b, g, b', g', k, hh, hs => by
    simp only [srcNew, Bool.and_eq_true] at hh
    simp only [lkS] at hs
    split at hs
    · cases hs
      have := hh.1
      simp only [Bool.not_eq_true'] at this
      intro e; subst e; simp at this
    · exact srcNew_ne hh.2 hs
theorem okPs_inj : ∀ {ps : List (Nat × Src)} {L : HL}, okPs m ps L = true → ∀ {b1 b2 b g g2 : Nat}, m ≤ b1 → m ≤ b2 → lkS ps b1 = some (.blk b g) → lkS ps b2 = some (.blk b g2) → b1 = b2
  | [], _, _, _, _, _, _, _, _, _, hs, _ => by simp [lkS] at hs
  | _ :: _, [], hh, _, _, _, _, _, _, _, _, _ => by simp [okPs] at hh
  | (k, s) :: ps, (b', x') :: L, hh, b1, b2, b, g, g2, m1, m2, h1, h2 => by
    simp only [okPs, Bool.and_eq_true, Bool.or_eq_true, Nat.blt_eq] at hh
    obtain ⟨⟨⟨_, hn⟩, _⟩, h4⟩ := hh
    simp only [lkS] at h1 h2
    split at h1 <;> split at h2
    · rename_i e1 e2; rw [e1, e2]
    · rename_i e1 e2
      cases h1
      rcases hn with hn | hn
      · omega
      · exact absurd rfl (srcNew_ne hn.2 h2)
    · rename_i e1 e2
      cases h2
      rcases hn with hn | hn
      · omega
      · exact absurd rfl (srcNew_ne hn.2 h1)
    · exact okPs_inj h4 m1 m2 h1 h2
theorem lkS_mem : ∀ {ps : List (Nat × Src)} {L : HL}, okPs m ps L = true → ∀ {b : Nat} {s : Src}, lkS ps b = some s → ∃ x, (b, x) ∈ L
  | [], _, _, _, _, hs => by simp [lkS] at hs
  | _ :: _, [], hh, _, _, _ => by simp [okPs] at hh
  | (k, t) :: ps, (b', x') :: L, hh, b, s, hs => by
    simp only [okPs, Bool.and_eq_true, Nat.beq_eq] at hh
    obtain ⟨⟨⟨⟨rfl, _⟩, _⟩, _⟩, h4⟩ := hh
    simp only [lkS] at hs
    split at hs
    · rename_i e; subst e; exact ⟨x', by simp⟩
    · obtain ⟨x, hx⟩ := lkS_mem h4 hs
      exact ⟨x, by simp [hx]⟩
def RO (m : Nat) (L : HL) (h : Heap) : Prop := ∀ b, b < m → (∀ p ∈ L, p.1 ≠ b) → h.get b = none
theorem RO.zero {L : HL} : RO 0 L h := fun b hb => absurd hb (Nat.not_lt_zero _)
theorem RO.e {L : HL} : RO m L .e := fun b _ _ => get_e
theorem RO.set {L : HL} {k : Nat} {x : Blk} (hk : (Nat.blt k 1099511627775 && (Nat.ble m k || L.any fun p => Nat.beq p.1 k)) = true) (hr : RO m L h) : RO m L (h.set k x) := fun b hb hn => by
  simp only [Bool.and_eq_true, Bool.or_eq_true, Nat.blt_eq, Nat.ble_eq, List.any_eq_true, Nat.beq_eq] at hk
  obtain ⟨h1, h2⟩ := hk
  have : b ≠ k := by
    rintro rfl
    rcases h2 with h2 | ⟨p, hp, h2⟩
    · omega
    · exact hn p hp h2
  rw [get_ne h1 this]; exact hr b hb hn
def Rec (m : Nat) (T' : Tmps) (L : HL) (T : Tmps) (h : Heap) : Prop := ∃ ps, okPs m ps L = true ∧ RO m L h ∧ RB m (ow m ps) h L ∧ RT m (ow m ps) h T' T
theorem ow_ge {ps : List (Nat × Src)} {b : Nat} (hb : m ≤ b) : ow m ps b = lkS ps b := if_neg (by omega)
theorem Rec.maps {ps : List (Nat × Src)} {L : HL} (ho : okPs m ps L = true) (hb : RB m (ow m ps) h L) : Maps m (ow m ps) h := by
  refine ⟨fun b' b g hm hs => ?_, fun b1 b2 b g g2 m1 m2 h1 h2 => okPs_inj ho m1 m2 (by rw [← ow_ge m1]; exact h1) (by rw [← ow_ge m2]; exact h2)⟩
  rw [ow_ge hm] at hs
  refine ⟨?_, okPs_src ho hm hs⟩
  obtain ⟨x, hx⟩ := lkS_mem ho hs
  rcases hb.mem hx with ⟨q0, _⟩ | ⟨_, q1, q2, q3⟩
  · omega
  rw [ow_ge hm, hs] at q3
  cases x with
  | cells g' cs => obtain ⟨ds, _, k1, _⟩ := q3; exact ⟨_, k1, rfl, fun k => by simp⟩
  | map g' es => obtain ⟨ds, k1, _⟩ := q3; exact ⟨_, k1, rfl, fun k => by simp⟩
  | dead g' => exact absurd rfl (q2 g')
theorem Rec.heap {ps : List (Nat × Src)} {L : HL} (ho : okPs m ps L = true) (hb : RB m (ow m ps) h L) : RH m (ow m ps) h (hp L) := fun b' x' hx => hb.mem (hp_get ho hx)
theorem hp_mem : ∀ {L : HL} {ps : List (Nat × Src)}, okPs m ps L = true → ∀ {b : Nat}, (hp L).get b = none → ∀ p ∈ L, p.1 ≠ b
  | [], _, _, _, _, p, hp => by cases hp
  | (b', x') :: L, [], hh, _, _, _, _ => by simp [okPs] at hh
  | (b', x') :: L, (k, s) :: ps, hh, b, hx, p, hpm => by
    simp only [okPs, Bool.and_eq_true, Nat.blt_eq, Nat.beq_eq] at hh
    obtain ⟨⟨⟨⟨rfl, h3⟩, _⟩, _⟩, h4⟩ := hh
    simp only [hp] at hx
    by_cases e : b = k
    · subst e; rw [get_same h3] at hx; cases hx
    · rw [get_ne h3 e] at hx
      rcases List.mem_cons.1 hpm with rfl | hpm
      · exact fun e2 => e e2.symm
      · exact hp_mem h4 hx p hpm
theorem Rec.dom {ps : List (Nat × Src)} {L : HL} (ho : okPs m ps L = true) (hr : RO m L h) : RD m (ow m ps) h (hp L) := fun b' hx =>
  ⟨fun hlt => hr b' hlt (hp_mem ho hx), fun hge => by rw [ow_ge hge]; exact hp_none ho hx⟩
theorem W2.recL {sc : SCode} {n : Nat} {Q : SX → St → Prop} {T T' : Tmps} {L : HL} (hr : Rec m T' L T h) (hw : W2 P ⟨n, m⟩ sc Q ⟨T', hp L⟩) : W2 P ⟨n, m⟩ sc Q ⟨T, h⟩ := by
  obtain ⟨ps, ho, hro, hb, ht⟩ := hr
  exact W2.recast (N := ⟨n, m⟩) (Rec.maps ho hb) (Rec.heap ho hb) (Rec.dom ho hro) ht hw
theorem W2.post {sc : SCode} {k : Nat} {Q : SX → St → Prop} {A : St} (hw : W2 P ⟨k, m⟩ sc (fun e B => Q e B ∨ ∃ T' L, Rec m T' L B.T B.h ∧ Q e ⟨T', hp L⟩) A) : W2 P ⟨k, m⟩ sc Q A := by
  intro code hok c a w S Q' hQ
  refine hw code hok c a w S Q' ?_
  rintro e B c' a' w' (hq | ⟨T', L, ⟨ps, ho, hro, hb, ht⟩, hq⟩) S' E'
  · exact hQ e B c' a' w' hq S' E'
  · have M := Rec.maps ho hb
    exact hQ e ⟨T', hp L⟩ (nctx m (ow m ps) B.h c') a' w' hq ⟨(Rec.heap ho hb).hrel (Rec.dom ho hro) M S'.heap, fun i => ht i c' w' _ S'.heap M (S'.tmps i), S'.size, S'.defers⟩ (E'.trans (nctx_evo c' w'))
theorem RT.nil {T : Tmps} : RT m π h [] T := fun _ => Rn.any
theorem RT.cons {T' T : Tmps} {j : Nat} {v : AV} (hv : Rn m π h v (lk T j)) (hr : RT m π h T' T) : RT m π h ((j, v) :: T') T := by
  intro i
  rw [lk_cons]
  split
  · rename_i e; subst e; exact hv
  · exact hr i
theorem RT.cons' {T' T : Tmps} {j : Nat} {v u : AV} (hu : lk T j = u) (hv : Rn m π h v u) (hr : RT m π h T' T) : RT m π h ((j, v) :: T') T := RT.cons (hu ▸ hv) hr
theorem RB.nil : RB m π h [] := trivial
theorem RB.cells {b b' g : Nat} {cs ds : List AV} {r : HL} (hm : Nat.ble m b' = true) (hp : π b' = some (.blk b g)) (hg : h.get b = some (.cells g ds)) (hc : RnL m π h cs ds) (hr : RB m π h r) : RB m π h ((b', .cells 0 cs) :: r) :=
  ⟨.inr ⟨Nat.le_of_ble_eq_true hm, rfl, fun _ => by simp, by rw [hp]; exact ⟨ds, ds.length, hg, by rw [List.take_length]; exact hc⟩⟩, hr⟩
theorem RB.pre {b b' g : Nat} {cs ds : List AV} {r : HL} (k : Nat) (hm : Nat.ble m b' = true) (hp : π b' = some (.blk b g)) (hg : h.get b = some (.cells g ds)) (hc : RnL m π h cs (ds.take k)) (hr : RB m π h r) : RB m π h ((b', .cells 0 cs) :: r) :=
  ⟨.inr ⟨Nat.le_of_ble_eq_true hm, rfl, fun _ => by simp, by rw [hp]; exact ⟨ds, k, hg, hc⟩⟩, hr⟩
theorem RB.newnil {b' : Nat} {r : HL} (hm : Nat.ble m b' = true) (hp : π b' = some .nil) (hr : RB m π h r) : RB m π h ((b', .cells 0 []) :: r) := ⟨.inr ⟨Nat.le_of_ble_eq_true hm, rfl, fun _ => by simp, by rw [hp]; rfl⟩, hr⟩
theorem RB.map {b b' g : Nat} {es fs : List (AV × AV)} {r : HL} (hm : Nat.ble m b' = true) (hp : π b' = some (.blk b g)) (hg : h.get b = some (.map g fs)) (hc : RnM m π h es fs) (hr : RB m π h r) : RB m π h ((b', .map 0 es) :: r) :=
  ⟨.inr ⟨Nat.le_of_ble_eq_true hm, rfl, fun _ => by simp, by rw [hp]; exact ⟨fs, hg, hc⟩⟩, hr⟩
theorem RB.cellsB {b g : Nat} {cs ds : List AV} {r : HL} (hm : Nat.blt b m = true) (hg : h.get b = some (.cells g ds)) (hc : RnL m π h cs ds) (hr : RB m π h r) : RB m π h ((b, .cells g cs) :: r) :=
  ⟨.inl ⟨by simpa using hm, ds, ds.length, hg, by rw [List.take_length]; exact hc⟩, hr⟩
theorem RB.mapB {b g : Nat} {es fs : List (AV × AV)} {r : HL} (hm : Nat.blt b m = true) (hg : h.get b = some (.map g fs)) (hc : RnM m π h es fs) (hr : RB m π h r) : RB m π h ((b, .map g es) :: r) :=
  ⟨.inl ⟨by simpa using hm, fs, hg, hc⟩, hr⟩
theorem lkS_new {s : Src} : ∀ {ps : List (Nat × Src)}, srcNew s ps = true → ∀ b' g', lkS ps b' = some g' → (match s, g' with | .blk b _, .blk b2 _ => b ≠ b2 | _, _ => True)
  | [], _, b', g', hs => by simp [lkS] at hs
  | (j, t) :: ps, hh, b', g', hs => by
    simp only [srcNew, Bool.and_eq_true] at hh
    simp only [lkS] at hs
    split at hs
    · cases hs
      have := hh.1
      cases s <;> cases t <;> simp_all
      intro e; subst e; simp at this
    · exact lkS_new hh.2 b' g' hs
theorem RnL.nil {m : Nat} {π : Nat → Option Src} {h : Heap} : RnL m π h [] [] := trivial
theorem RnL.cons {m : Nat} {π : Nat → Option Src} {h : Heap} {x y : AV} {xs ys : List AV} (h1 : Rn m π h x y) (h2 : RnL m π h xs ys) : RnL m π h (x :: xs) (y :: ys) := ⟨h1, h2⟩
theorem Rn.fz {ps : List (Nat × Src)} {b g len sz : Nat} {cs ds : List AV} (hb : h.get b = some (.cells g ds)) (hn : srcNew (.blk b g) ps = true) (hm : Nat.ble m b = true) (hl : ds.length = len * sz)
    (hL : RnL m (ow m ps) h cs ds) : Rn m (ow m ps) h (.fsl cs len sz) (.sl b g 0 len sz) := by
  refine Rn.frz hb (by simpa using hm) (fun b' g' hb' e => ?_) (by omega) ?_
  · rw [ow_ge hb'] at e; exact lkS_new hn b' _ e rfl
  · rw [List.drop_zero, ← hl, List.take_length]; exact hL
theorem Rn.fzm {ps : List (Nat × Src)} {b g len sz k : Nat} {cs ds : List AV} (hb : h.get b = some (.cells g ds)) (hn : srcNew (.blk b g) ps = true) (hm : Nat.ble m b = true) (hk : k = len) (hl : ds.length = len * sz)
    (hL : RnL m (ow m ps) h cs ds) : Rn m (ow m ps) h (.fsl cs k sz) (.sl b g 0 len sz) := by subst hk; exact Rn.fz hb hn hm hl hL
theorem Rn.fz0 {b g len sz : Nat} {cs ds : List AV} (hb : h.get b = some (.cells g ds)) (hl : ds.length = len * sz)
    (hL : RnL 0 π0 h cs ds) : Rn 0 π0 h (.fsl cs len sz) (.sl b g 0 len sz) := by
  refine Rn.frz hb (Nat.zero_le _) (fun b' g' _ e => by simp [π0] at e) (by omega) ?_
  rw [List.drop_zero, ← hl, List.take_length]; exact hL
end
theorem Rn.slot {m : Nat} {π : Nat → Option Src} {h : Heap} {T : Tmps} {j : Nat} {v : AV} (hv : lk T j = v) (hn : noRef v = true) : Rn m π h v (lk T j) := by rw [hv]; exact Rn.same hn
section
variable {m : Nat} {π : Nat → Option Src} {h : Heap}
theorem Rn.x1 {b' b g off len sz : Nat} (hm : Nat.ble m b' = true) (hp : π b' = some (.blk b g)) : Rn m π h (.sl b' 0 off len sz) (.sl b g off len sz) := Rn.sl (Nat.le_of_ble_eq_true hm) hp
theorem Rn.x2 {b' b g off : Nat} (hm : Nat.ble m b' = true) (hp : π b' = some (.blk b g)) : Rn m π h (.ptr b' 0 off) (.ptr b g off) := Rn.ptr (Nat.le_of_ble_eq_true hm) hp
theorem Rn.x3 {b' b g : Nat} (hm : Nat.ble m b' = true) (hp : π b' = some (.blk b g)) : Rn m π h (.map b' 0) (.map b g) := Rn.map (Nat.le_of_ble_eq_true hm) hp
theorem Rn.x4 {b' sz : Nat} (hm : Nat.ble m b' = true) (hp : π b' = some .nil) : Rn m π h (.sl b' 0 0 0 sz) .nilsl := Rn.slnil (Nat.le_of_ble_eq_true hm) hp
theorem Rn.x5 {b g off len sz : Nat} (hm : Nat.ble (b + 1) m = true) : Rn m π h (.sl b g off len sz) (.sl b g off len sz) := Rn.slB (Nat.le_of_ble_eq_true hm)
theorem Rn.x6 {b g off : Nat} (hm : Nat.ble (b + 1) m = true) : Rn m π h (.ptr b g off) (.ptr b g off) := Rn.ptrB (Nat.le_of_ble_eq_true hm)
theorem Rn.x7 {b g : Nat} (hm : Nat.ble (b + 1) m = true) : Rn m π h (.map b g) (.map b g) := Rn.mapB (Nat.le_of_ble_eq_true hm)
end
section
variable {k m n : Nat} {T : Tmps} {h : Heap} {Q : QC} {fs : List Fr} {α : Type} {env : α → Tmps} {H : α → HL} {I : α → Prop} {μ : α → Nat} {a : α}
def loopR (P : Program) (k m : Nat) {α : Type} (env : α → Tmps) (H : α → HL) (I : α → Prop) (μ : α → Nat) (a : α) (fs : List Fr) (Q : QC) : QC := fun e T h n =>
  match e with
  | .normal => ∃ a', μ a' < μ a ∧ I a' ∧ Rec m (env a') (H a') T h
  | e => wX P ⟨k, m⟩ e fs n T h Q
theorem loopR_normal : loopR P k m env H I μ a fs Q .normal T h n = ∃ a', μ a' < μ a ∧ I a' ∧ Rec m (env a') (H a') T h := rfl
theorem loopR_exit {i : Nat} : loopR P k m env H I μ a fs Q (.exit i) T h n = wX P ⟨k, m⟩ (.exit i) fs n T h Q := rfl
theorem loopR_ret : loopR P k m env H I μ a fs Q .ret T h n = wX P ⟨k, m⟩ .ret fs n T h Q := rfl
theorem wS_loopR {b : SCode} (n0 : Nat) (env : α → Tmps) (H : α → HL) (I : α → Prop) (μ : α → Nat) (a0 : α)
    (h0 : Rec m (env a0) (H a0) T h) (hI : I a0) (round : ∀ a, I a → wS P ⟨k, m⟩ b [] n0 (env a) (hp (H a)) (loopR P k m env H I μ a fs Q)) : wS P ⟨k, m⟩ (.loop b) fs n T h Q := by
  show W2 P ⟨k, m⟩ (.loop b) (fun e B => ∃ n, ct P ⟨k, m⟩ fs Q e B.T B.h n) ⟨T, h⟩
  refine W2.loop (fun q B => ∃ a, μ a = q ∧ I a ∧ Rec m (env a) (H a) B.T B.h) (μ a0) ⟨a0, rfl, hI, h0⟩ ?_
  rintro q B ⟨a, rfl, hi, hr⟩
  refine W2.recL hr ((wpC.toW (round a hi)).mono ?_)
  rintro e C ⟨n2, hq⟩
  cases e with
  | normal => obtain ⟨a', h1, h2, h3⟩ := hq; exact ⟨μ a', h1, a', rfl, h2, h3⟩
  | exit i => exact ⟨n2, hq⟩
  | ret => exact ⟨n2, hq⟩
def loopX (P : Program) (k m : Nat) {α β : Type} (env : α → Tmps) (H : α → HL) (I : α → Prop) (μ : α → Nat) (i : Nat) (T1 : β → Tmps) (L1 : β → HL) (J : β → Prop) (a : α) (fs : List Fr) (Q : QC) : QC := fun e T h n =>
  match e with
  | .normal => ∃ a', μ a' < μ a ∧ I a' ∧ Rec m (env a') (H a') T h
  | .exit j => if j = i then ∃ b, J b ∧ Rec m (T1 b) (L1 b) T h else wX P ⟨k, m⟩ (.exit j) fs n T h Q
  | .ret => wX P ⟨k, m⟩ .ret fs n T h Q
section
variable {β : Type} {i : Nat} {T1 : β → Tmps} {L1 : β → HL} {J : β → Prop}
theorem loopX_normal : loopX P k m env H I μ i T1 L1 J a fs Q .normal T h n = ∃ a', μ a' < μ a ∧ I a' ∧ Rec m (env a') (H a') T h := rfl
theorem loopX_exit {j : Nat} : loopX P k m env H I μ i T1 L1 J a fs Q (.exit j) T h n = if j = i then ∃ b, J b ∧ Rec m (T1 b) (L1 b) T h else wX P ⟨k, m⟩ (.exit j) fs n T h Q := rfl
theorem loopX_ret : loopX P k m env H I μ i T1 L1 J a fs Q .ret T h n = wX P ⟨k, m⟩ .ret fs n T h Q := rfl
end
theorem wS_loopX {b : SCode} {β : Type} (n0 : Nat) (env : α → Tmps) (H : α → HL) (I : α → Prop) (μ : α → Nat) (a0 : α) (i n1 : Nat) (T1 : β → Tmps) (L1 : β → HL) (J : β → Prop)
    (h0 : Rec m (env a0) (H a0) T h) (hI : I a0) (round : ∀ a, I a → wS P ⟨k, m⟩ b [] n0 (env a) (hp (H a)) (loopX P k m env H I μ i T1 L1 J a fs Q))
    (cont : ∀ b, J b → wX P ⟨k, m⟩ (.exit i) fs n1 (T1 b) (hp (L1 b)) Q) : wS P ⟨k, m⟩ (.loop b) fs n T h Q := by
  show W2 P ⟨k, m⟩ (.loop b) (fun e B => ∃ n, ct P ⟨k, m⟩ fs Q e B.T B.h n) ⟨T, h⟩
  refine W2.post ?_
  refine W2.loop (fun q B => ∃ a, μ a = q ∧ I a ∧ Rec m (env a) (H a) B.T B.h) (μ a0) ⟨a0, rfl, hI, h0⟩ ?_
  rintro q B ⟨a, rfl, hi, hr⟩
  refine W2.recL hr ((wpC.toW (round a hi)).mono ?_)
  rintro e C ⟨n2, hq⟩
  cases e with
  | normal => obtain ⟨a', h1, h2, h3⟩ := hq; exact ⟨μ a', h1, a', rfl, h2, h3⟩
  | exit j =>
    replace hq : loopX P k m env H I μ i T1 L1 J a fs Q (.exit j) C.T C.h n2 := hq
    rw [loopX_exit] at hq
    split at hq
    · rename_i e; subst e
      obtain ⟨b, hJ, hr⟩ := hq
      exact .inr ⟨_, _, hr, n1, cont b hJ⟩
    · exact .inl ⟨n2, hq⟩
  | ret => exact .inl ⟨n2, hq⟩
end
section
variable {N : NM} {n : Nat} {d : Option Nat} {af dead : List Nat} {r : List SOper} {T : Tmps} {h : Heap} {Q : QC} {fs : List Fr}
def wA (P : Program) (N : NM) (zs ys : Option (List AV)) (g len2 len sz bytes b : Nat) (d : Option Nat) (ops : List SOper) (dead : List Nat) (fs : List Fr) (n : Nat) (T : Tmps) (h : Heap) (Q : QC) : Prop :=
  ∃ y z, ys = some y ∧ zs = some z ∧ ((len2 + len) * bytes ≤ 1099511627776 ∧ len2 + len ≤ 1099511627776) ∧ y.all AV.one = true ∧
      wB P N (some (.cells (g + 1) (z ++ y))) b (.sl b (g + 1) 0 (len2 + len) sz) d ops dead fs n T h Q
theorem aAppend_slW {sz bytes b g off len b2 g2 off2 len2 : Nat} : wM P N (aAppend .dyn n sz bytes (.sl b2 g2 off2 len2 sz) (.sl b g off len sz)) d r dead fs n T h Q =
    wA P N (srcB (h.get b2) g2 off2 len2 sz) (srcB (h.get b) g off len sz) g2 len2 len sz bytes b2 d r dead fs n T h Q := by
  rw [aAppend_sl]
  apply propext; constructor
  · rintro ⟨ys, zs, h1, h2, h3, h4, h5⟩; exact ⟨ys, zs, h1, h2, h3, h4, h5⟩
  · rintro ⟨ys, zs, h1, h2, h3, h4, h5⟩; exact ⟨ys, zs, h1, h2, h3, h4, h5⟩
theorem wA_some {zs ys : List AV} {g len2 len sz bytes b : Nat} (h1 : (len2 + len) * bytes ≤ 1099511627776) (h2 : len2 + len ≤ 1099511627776) :
    wA P N (some zs) (some ys) g len2 len sz bytes b d r dead fs n T h Q = if ys.all AV.one = true then wB P N (some (.cells (g + 1) (zs ++ ys))) b (.sl b (g + 1) 0 (len2 + len) sz) d r dead fs n T h Q else False := by
  by_cases ho : ys.all AV.one = true
  · rw [if_pos ho]; apply propext; constructor
    · rintro ⟨y, z, e1, e2, _, _, h5⟩; cases e1; cases e2; exact h5
    · intro h5; exact ⟨ys, zs, rfl, rfl, ⟨h1, h2⟩, ho, h5⟩
  · rw [if_neg ho]; apply propext; constructor
    · rintro ⟨y, z, e1, e2, _, h4, h5⟩; cases e1; exact ho h4
    · exact fun h => h.elim
theorem srcB_all {g len sz : Nat} {cs : List AV} (hl : cs.length = len * sz) : srcB (some (.cells g cs)) g 0 len sz = some cs := by
  rw [srcB_some, if_pos ⟨rfl, by omega⟩, List.drop_zero, ← hl, List.take_length]
end
end Go.AM
set_option linter.unusedVariables false
namespace Go.AM
theorem words : type_of% @wS_skip ∧ type_of% @wS_ret ∧ type_of% @wS_exit ∧ type_of% @wS_region ∧ type_of% @wS_seq ∧ type_of% @wS_cond ∧ type_of% @wS_block ∧ type_of% @wC_true ∧ type_of% @wC_false ∧ type_of% @wC_bool ∧ type_of% @wX_nil ∧ type_of% @wX_sq ∧ type_of% @wX_sq_ret ∧ type_of% @wX_sq_exit ∧ type_of% @wX_blk ∧ type_of% @wX_blk_ret ∧ type_of% @wX_blk_exit ∧ type_of% @loopQ_normal ∧ type_of% @loopQ_exit ∧ type_of% @loopQ_ret ∧ type_of% @ev_t ∧ type_of% @ev_c ∧ type_of% @ev_f ∧ type_of% @lk_nil ∧ type_of% @lk_cons ∧ type_of% @up_cons ∧ type_of% @up_nil ∧ type_of% @rm_nil ∧ type_of% @rm_no ∧ type_of% @rm_cons ∧ type_of% @putD_some ∧ type_of% @putD_none ∧ type_of% @argT_nil ∧ type_of% @argT_cons ∧ type_of% @evs_nil ∧ type_of% @evs_cons ∧ type_of% @evo_none ∧ type_of% @evo_some ∧ type_of% @evParts_nil ∧ type_of% @evParts_cons ∧ type_of% @wR_nil ∧ type_of% @wR_guard ∧ type_of% @wG_bool ∧ type_of% @wG_skip ∧ type_of% @wR_mov ∧ type_of% @wR_mkfn ∧ type_of% @wR_pick ∧ type_of% @wR_build ∧ type_of% @wR_nilchk ∧ type_of% @wR_bin ∧ type_of% @wR_eq ∧ type_of% @wR_un ∧ type_of% @wR_conv ∧ type_of% @wR_convS ∧ type_of% @wR_slice ∧ type_of% @wR_faddr ∧ type_of% @wR_field ∧ type_of% @wR_iaddr ∧ type_of% @wR_index ∧ type_of% @wR_extract ∧ type_of% @wR_maxmin ∧ type_of% @wR_alloc ∧ type_of% @wR_box ∧ type_of% @wR_bslice ∧ type_of% @wR_load ∧ type_of% @wR_store ∧ type_of% @wR_mkmap ∧ type_of% @wR_mkslice ∧ type_of% @wR_lookup ∧ type_of% @wR_mupd ∧ type_of% @wR_len ∧ type_of% @wR_append ∧ type_of% @wR_copy ∧ type_of% @wR_call ∧ type_of% @wO_some ∧ type_of% @wO_pos ∧ type_of% @wO_neg ∧ type_of% @wM_ret ∧ type_of% @wB_some ∧ type_of% @aLoad_ptr ∧ type_of% @aLoad_fptr1 ∧ type_of% @aLoad_fptrN ∧ type_of% @aStore_ptr ∧ type_of% @aLenC_str ∧ type_of% @aLenC_sl ∧ type_of% @aLenC_fsl ∧ type_of% @aLenC_nilsl ∧ type_of% @aLenC_esl ∧ type_of% @ldB_some1 ∧ type_of% @ldB_someN ∧ type_of% @stB_some ∧ type_of% @aBin_add ∧ type_of% @aBin_sub ∧ type_of% @aBin_mul ∧ type_of% @aBin_quo ∧ type_of% @aBin_rem ∧ type_of% @aBin_eql ∧ type_of% @aBin_neq ∧ type_of% @aBin_lss ∧ type_of% @aBin_leq ∧ type_of% @aBin_gtr ∧ type_of% @aBin_geq ∧ type_of% @aUn_not ∧ type_of% @aUn_neg ∧ type_of% @aConv_int ∧ type_of% @aPick_true ∧ type_of% @aPick_false ∧ type_of% @aPick_bool ∧ type_of% @aExtract_tup ∧ type_of% @get_zero ∧ type_of% @get_succ ∧ type_of% @wr_i64 ∧ type_of% @wr_u8 ∧ type_of% @wr_u16 ∧ type_of% @wr_u32 ∧ type_of% @wr_u64 ∧ type_of% @wr_i32 ∧ type_of% @aIAddr_fsl ∧ type_of% @aIAddr_sl ∧ type_of% @aIAddr_ptr ∧ type_of% @aIAddr_fptr ∧ type_of% @aFAddr_ptr ∧ type_of% @aFAddr_fptr ∧ type_of% @aField_none ∧ type_of% @aField_some ∧ type_of% @List.elem_cons.{0} ∧ type_of% @List.elem_nil.{0} ∧ type_of% @Bool.false_eq_true ∧ type_of% @Bool.true_eq_false ∧ type_of% @List.getElem?_cons_zero.{0} ∧ type_of% @List.getElem?_cons_succ.{0} ∧ type_of% @decide_eq_true_eq ∧ type_of% @decide_eq_false_iff_not ∧ type_of% @decide_true ∧ type_of% @decide_false ∧ type_of% @Bool.not_true ∧ type_of% @Bool.not_false ∧ type_of% @Bool.not_eq_true' ∧ type_of% @Bool.not_eq_eq_eq_not ∧ type_of% @List.nil_append.{0} ∧ type_of% @List.append_nil.{0} ∧ type_of% @List.cons_append.{0} ∧ type_of% @and_true ∧ type_of% @true_and ∧ type_of% @Int.natCast_nonneg ∧ type_of% @Int.toNat_natCast ∧ type_of% @Nat.mul_one ∧ type_of% @Nat.zero_add ∧ type_of% @Int.toNat_zero ∧ type_of% @unQ_normal ∧ type_of% @unQ_exit ∧ type_of% @unQ_ret ∧ type_of% @aIndex_arr :=
  ⟨@wS_skip, @wS_ret, @wS_exit, @wS_region, @wS_seq, @wS_cond, @wS_block, @wC_true, @wC_false, @wC_bool, @wX_nil, @wX_sq, @wX_sq_ret, @wX_sq_exit, @wX_blk, @wX_blk_ret, @wX_blk_exit, @loopQ_normal, @loopQ_exit, @loopQ_ret, @ev_t, @ev_c, @ev_f, @lk_nil, @lk_cons, @up_cons, @up_nil, @rm_nil, @rm_no, @rm_cons, @putD_some, @putD_none, @argT_nil, @argT_cons, @evs_nil, @evs_cons, @evo_none, @evo_some, @evParts_nil, @evParts_cons, @wR_nil, @wR_guard, @wG_bool, @wG_skip, @wR_mov, @wR_mkfn, @wR_pick, @wR_build, @wR_nilchk, @wR_bin, @wR_eq, @wR_un, @wR_conv, @wR_convS, @wR_slice, @wR_faddr, @wR_field, @wR_iaddr, @wR_index, @wR_extract, @wR_maxmin, @wR_alloc, @wR_box, @wR_bslice, @wR_load, @wR_store, @wR_mkmap, @wR_mkslice, @wR_lookup, @wR_mupd, @wR_len, @wR_append, @wR_copy, @wR_call, @wO_some, @wO_pos, @wO_neg, @wM_ret, @wB_some, @aLoad_ptr, @aLoad_fptr1, @aLoad_fptrN, @aStore_ptr, @aLenC_str, @aLenC_sl, @aLenC_fsl, @aLenC_nilsl, @aLenC_esl, @ldB_some1, @ldB_someN, @stB_some, @aBin_add, @aBin_sub, @aBin_mul, @aBin_quo, @aBin_rem, @aBin_eql, @aBin_neq, @aBin_lss, @aBin_leq, @aBin_gtr, @aBin_geq, @aUn_not, @aUn_neg, @aConv_int, @aPick_true, @aPick_false, @aPick_bool, @aExtract_tup, @get_zero, @get_succ, @wr_i64, @wr_u8, @wr_u16, @wr_u32, @wr_u64, @wr_i32, @aIAddr_fsl, @aIAddr_sl, @aIAddr_ptr, @aIAddr_fptr, @aFAddr_ptr, @aFAddr_fptr, @aField_none, @aField_some, @List.elem_cons.{0}, @List.elem_nil.{0}, @Bool.false_eq_true, @Bool.true_eq_false, @List.getElem?_cons_zero.{0}, @List.getElem?_cons_succ.{0}, @decide_eq_true_eq, @decide_eq_false_iff_not, @decide_true, @decide_false, @Bool.not_true, @Bool.not_false, @Bool.not_eq_true', @Bool.not_eq_eq_eq_not, @List.nil_append.{0}, @List.append_nil.{0}, @List.cons_append.{0}, @and_true, @true_and, @Int.natCast_nonneg, @Int.toNat_natCast, @Nat.mul_one, @Nat.zero_add, @Int.toNat_zero, @unQ_normal, @unQ_exit, @unQ_ret, @aIndex_arr⟩
theorem wordsN : type_of% @aBox_new ∧ type_of% @aMakeSlice_new ∧ type_of% @aBuildSlice_new ∧ type_of% @aBuild_eq ∧ type_of% @Option.map_some.{0, 0} ∧ type_of% @wL_some ∧ type_of% @wN_go ∧ type_of% @wB_go ∧ type_of% @get_same ∧ type_of% @get_ne ∧ type_of% @fillA_nil ∧ type_of% @fillA_cons ∧ type_of% @cells_int ∧ type_of% @cells_agg ∧ type_of% @cells_sl ∧ type_of% @cells_fsl ∧ type_of% @cells_nilsl ∧ type_of% @box_int ∧ type_of% @box_agg ∧ type_of% @box_sl ∧ type_of% @box_fsl ∧ type_of% @box_nilsl ∧ type_of% @one_int ∧ type_of% @one_sl ∧ type_of% @one_fsl ∧ type_of% @one_nilsl ∧ type_of% @putR_one ∧ type_of% @List.set_cons_zero.{0} ∧ type_of% @List.set_cons_succ.{0} ∧ type_of% @List.length_cons.{0} ∧ type_of% @List.length_nil.{0} ∧ type_of% @List.all_cons.{0} ∧ type_of% @List.all_nil.{0} ∧ type_of% @Bool.and_true ∧ type_of% @Bool.true_and ∧ type_of% @List.drop_zero.{0} ∧ type_of% @List.drop_succ_cons.{0} ∧ type_of% @List.take_succ_cons.{0} ∧ type_of% @List.take_zero.{0} ∧ type_of% @List.head?_cons.{0} ∧ type_of% @putR_many ∧ type_of% @Nat.le_refl ∧ type_of% @Int.cast_ofNat_Int ∧ type_of% @Int.natCast_zero ∧ type_of% @Int.natCast_one :=
  ⟨@aBox_new, @aMakeSlice_new, @aBuildSlice_new, @aBuild_eq, @Option.map_some.{0, 0}, @wL_some, @wN_go, @wB_go, @get_same, @get_ne, @fillA_nil, @fillA_cons, @cells_int, @cells_agg, @cells_sl, @cells_fsl, @cells_nilsl, @box_int, @box_agg, @box_sl, @box_fsl, @box_nilsl, @one_int, @one_sl, @one_fsl, @one_nilsl, @putR_one, @List.set_cons_zero.{0}, @List.set_cons_succ.{0}, @List.length_cons.{0}, @List.length_nil.{0}, @List.all_cons.{0}, @List.all_nil.{0}, @Bool.and_true, @Bool.true_and, @List.drop_zero.{0}, @List.drop_succ_cons.{0}, @List.take_succ_cons.{0}, @List.take_zero.{0}, @List.head?_cons.{0}, @putR_many, @Nat.le_refl, @Int.cast_ofNat_Int, @Int.natCast_zero, @Int.natCast_one⟩
theorem wordsR : type_of% @hp_nil ∧ type_of% @hp_cons ∧ type_of% @get_e ∧ type_of% @loopR_normal ∧ type_of% @loopR_exit ∧ type_of% @loopR_ret ∧ type_of% @loopX_normal ∧ type_of% @loopX_exit ∧ type_of% @loopX_ret ∧ type_of% @aAppend_slW ∧ type_of% @wA_some ∧ type_of% @srcB_all ∧ type_of% @Int.ofNat_lt ∧ type_of% @Int.ofNat_le ∧ type_of% @Int.ofNat_inj ∧ type_of% @Int.natCast_pos ∧ type_of% @Int.natCast_add ∧ type_of% @List.length_map.{0, 0} ∧ type_of% @List.length_append.{0} ∧ type_of% @List.take_length.{0} ∧ type_of% @Nat.zero_mul ∧ type_of% @Nat.one_mul ∧ type_of% @Nat.add_zero ∧ type_of% @Int.zero_add ∧ type_of% @Nat.not_lt_zero ∧ type_of% @Int.le_refl ∧ type_of% @not_true ∧ type_of% @not_false_iff ∧ type_of% @Nat.lt_irrefl ∧ type_of% @Int.lt_irrefl :=
  ⟨@hp_nil, @hp_cons, @get_e, @loopR_normal, @loopR_exit, @loopR_ret, @loopX_normal, @loopX_exit, @loopX_ret, @aAppend_slW, @wA_some, @srcB_all, @Int.ofNat_lt, @Int.ofNat_le, @Int.ofNat_inj, @Int.natCast_pos, @Int.natCast_add, @List.length_map.{0, 0}, @List.length_append.{0}, @List.take_length.{0}, @Nat.zero_mul, @Nat.one_mul, @Nat.add_zero, @Int.zero_add, @Nat.not_lt_zero, @Int.le_refl, @not_true, @not_false_iff, @Nat.lt_irrefl, @Int.lt_irrefl⟩
end Go.AM
namespace Go.AM.SN
open Go.Proofs
set_option maxRecDepth 100000
set_option linter.unusedSimpArgs false
set_option linter.unusedVariables false
def ints (l : List Int) : List AV := l.map (.int .i64)
abbrev sli (l : List Int) : AV := .fsl (ints l) l.length 1
theorem noRefs_ints (l : List Int) : noRefs (ints l) = true := by
  induction l with
  | nil => rfl
  | cons x l ih => simp only [ints, List.map_cons, noRefs, noRef, Bool.true_and]; exact ih
theorem head_ints {l : List Int} {i : Nat} {x : Int} (h : l[i]? = some x) : ((ints l).drop i).head? = some (.int .i64 x) := by
  rw [List.head?_drop]; simp [ints, h]
theorem get_ex {α : Type} {l : List α} {i : Nat} (h : i < l.length) : ∃ x, l[i]? = some x := ⟨l[i], List.getElem?_eq_getElem h⟩
theorem mem_at {α : Type} {l : List α} {x : α} (h : x ∈ l) : ∃ j, l[j]? = some x ∧ j < l.length := by
  obtain ⟨j, hj⟩ := List.mem_iff_getElem?.1 h
  exact ⟨j, hj, (List.getElem?_eq_some_iff.1 hj).1⟩
theorem noRefs_append {a b : List AV} : noRefs (a ++ b) = (noRefs a && noRefs b) := by
  induction a with
  | nil => simp [noRefs]
  | cons x a ih => simp [noRefs, ih, Bool.and_assoc]
theorem noRefs_flat {α : Type} {f : α → List AV} {l : List α} (h : ∀ x, noRefs (f x) = true) : noRefs (l.flatMap f) = true := by
  induction l with
  | nil => rfl
  | cons x l ih => simp [List.flatMap_cons, noRefs_append, h, ih]
theorem noRefs_map {α : Type} {f : α → AV} {l : List α} (h : ∀ x, noRef (f x) = true) : noRefs (l.map f) = true := by
  induction l with
  | nil => rfl
  | cons x l ih => simp [noRefs, h, ih]
theorem drop_flat {α : Type} {f : α → List AV} {k : Nat} (hf : ∀ x, (f x).length = k) : ∀ {l : List α} {i : Nat} {x : α}, l[i]? = some x → (l.flatMap f).drop (i * k) = f x ++ (l.drop (i + 1)).flatMap f
  | [], i, x, h => by simp at h
  | a :: l, 0, x, h => by simp at h; subst h; simp
  | a :: l, i + 1, x, h => by
    simp at h
    have := drop_flat hf h
    simp only [List.flatMap_cons, List.drop_succ_cons]
    rw [← this, show (i + 1) * k = (f a).length + i * k by rw [hf, Nat.succ_mul, Nat.add_comm], List.drop_append, List.drop_eq_nil_of_le (by omega), Nat.add_sub_cancel_left, List.nil_append]
abbrev lsts (ls : List (List Int)) : AV := .fsl (ls.map sli) ls.length 1
theorem head_lsts {ls : List (List Int)} {i : Nat} {x : List Int} (h : ls[i]? = some x) : ((ls.map sli).drop i).head? = some (sli x) := by
  rw [List.head?_drop]; simp [h]
theorem noRef_sli (l : List Int) : noRef (sli l) = true := by simp only [noRef]; exact noRefs_ints l
theorem noRefs_lsts (ls : List (List Int)) : noRefs (ls.map sli) = true := noRefs_map noRef_sli
def arcC (a : Int × Int) : List AV := [.int .i64 a.1, .int .i64 a.2]
abbrev arcs (l : List (Int × Int)) : AV := .fsl (l.flatMap arcC) l.length 2
theorem noRef_arcs (l : List (Int × Int)) : noRef (arcs l) = true := by simp only [noRef]; exact noRefs_flat fun x => rfl
theorem drop_arcs {l : List (Int × Int)} {i : Nat} {a : Int × Int} (h : l[i]? = some a) : (l.flatMap arcC).drop (i * 2) = .int .i64 a.1 :: .int .i64 a.2 :: (l.drop (i + 1)).flatMap arcC := drop_flat (f := arcC) (k := 2) (fun _ => rfl) h
structure Tn where
  ev : Int
  inn : List (Int × Int)
  out : List (Int × Int)
def tnC (t : Tn) : List AV := [.int .i64 t.ev, arcs t.inn, arcs t.out]
abbrev tns (l : List Tn) : AV := .fsl (l.flatMap tnC) l.length 3
theorem noRef_tns (l : List Tn) : noRef (tns l) = true := by
  simp only [noRef]; exact noRefs_flat fun t => by simp only [tnC, noRefs, noRef_arcs, Bool.and_true]; rfl
theorem drop_tns {l : List Tn} {i : Nat} {t : Tn} (h : l[i]? = some t) : (l.flatMap tnC).drop (i * 3) = .int .i64 t.ev :: arcs t.inn :: arcs t.out :: (l.drop (i + 1)).flatMap tnC := drop_flat (f := tnC) (k := 3) (fun _ => rfl) h
structure Nt where
  ini : List Int
  tr : List Tn
abbrev netV (x : Nt) : AV := .agg [sli x.ini, tns x.tr]
theorem noRef_net (x : Nt) : noRef (netV x) = true := by rw [netV, noRef, noRefs, noRefs, noRef_sli, noRef_tns]; rfl
theorem zero (l : List Int) (hl : l.length ≤ 1099511627776) : PSpec Try.prog 20 [sli l] (.bool (l.all (· == 0))) := by
  refine PSpec.of_flat 64 ok20 rfl (by simp [noRefs, noRef, noRefs_ints]) rfl ?_
  simp (maxSteps := 1000000) (disch := omega) only [s20, words, Nat.reduceAdd, Nat.reduceEqDiff, Nat.reduceBEq, ↓reduceIte, reduceCtorEq, SX.exit.injEq, if_true, if_false, Int.reduceAdd, Int.reduceSub, Int.reduceMul, Int.reduceLT, Int.reduceLE, Int.reduceEq, Int.reduceNe, Int.reduceNeg, Int.reduceToNat, Nat.reduceMul, Nat.reduceLT, Nat.reduceSub, Nat.reduceLeDiff]
  refine wS_loop (fun i : Nat => [(0, sli l), (3, .int .i64 i)]) (fun i h _ => h = .e ∧ i ≤ l.length ∧ ∀ j y, j < i → l[j]? = some y → y = 0) (fun i => l.length - i) 0 (by repeat (first | exact Sub.nil | refine Sub.cons (by first | rfl | (rw [Int.natCast_add]; rfl)) ?_)) ⟨rfl, Nat.zero_le _, fun j y hj => absurd hj (Nat.not_lt_zero _)⟩ ?_
  rintro i h n ⟨rfl, hi, hb⟩
  by_cases hlt : i < l.length
  · obtain ⟨x, hx⟩ := get_ex hlt
    have hlt' : (i : Int) < (l.length : Int) := by omega
    by_cases h0 : x = 0
    · simp (maxSteps := 1000000) (disch := omega) only [hlt', head_ints hx, h0, words, Nat.reduceAdd, Nat.reduceEqDiff, Nat.reduceBEq, ↓reduceIte, reduceCtorEq, SX.exit.injEq, if_true, if_false, Int.reduceAdd, Int.reduceSub, Int.reduceMul, Int.reduceLT, Int.reduceLE, Int.reduceEq, Int.reduceNe, Int.reduceNeg, Int.reduceToNat, Nat.reduceMul, Nat.reduceLT, Nat.reduceSub, Nat.reduceLeDiff]
      refine ⟨i + 1, by omega, by repeat (first | exact Sub.nil | refine Sub.cons (by first | rfl | (rw [Int.natCast_add]; rfl)) ?_), by omega, fun j y hj hy => ?_⟩
      by_cases e : j = i
      · subst e; rw [hx] at hy; cases hy; exact h0
      · exact hb j y (by omega) hy
    · simp (maxSteps := 1000000) (disch := omega) only [hlt', head_ints hx, h0, words, Nat.reduceAdd, Nat.reduceEqDiff, Nat.reduceBEq, ↓reduceIte, reduceCtorEq, SX.exit.injEq, if_true, if_false, Int.reduceAdd, Int.reduceSub, Int.reduceMul, Int.reduceLT, Int.reduceLE, Int.reduceEq, Int.reduceNe, Int.reduceNeg, Int.reduceToNat, Nat.reduceMul, Nat.reduceLT, Nat.reduceSub, Nat.reduceLeDiff]
      refine ⟨by simp, _, rfl, ?_⟩
      have : l.all (· == 0) = false := by
        rw [List.all_eq_false]; exact ⟨x, List.mem_of_getElem? hx, by simp [h0]⟩
      simp [resOf, lk_cons, this]
  · have hlt' : ¬ (i : Int) < (l.length : Int) := by omega
    simp (maxSteps := 1000000) (disch := omega) only [hlt', words, Nat.reduceAdd, Nat.reduceEqDiff, Nat.reduceBEq, ↓reduceIte, reduceCtorEq, SX.exit.injEq, if_true, if_false, Int.reduceAdd, Int.reduceSub, Int.reduceMul, Int.reduceLT, Int.reduceLE, Int.reduceEq, Int.reduceNe, Int.reduceNeg, Int.reduceToNat, Nat.reduceMul, Nat.reduceLT, Nat.reduceSub, Nat.reduceLeDiff]
    refine ⟨by simp, _, rfl, ?_⟩
    have : l.all (· == 0) = true := by
      rw [List.all_eq_true]
      intro x hx
      obtain ⟨j, hj, hjl⟩ := mem_at hx
      simp [hb j x (by omega) hj]
    simp [resOf, lk_cons, this]
theorem same (a b : List Int) (hl : a.length ≤ 1099511627776) : PSpec Try.prog 29 [sli a, sli b] (.bool (decide (a = b))) := by
  refine PSpec.of_flat 64 ok29 rfl (by simp [noRefs, noRef, noRefs_ints]) rfl ?_
  by_cases hab : a.length = b.length
  · have hab' : (a.length : Int) = (b.length : Int) := by omega
    simp (maxSteps := 1000000) (disch := omega) only [s29, hab', words, Nat.reduceAdd, Nat.reduceEqDiff, Nat.reduceBEq, ↓reduceIte, reduceCtorEq, SX.exit.injEq, if_true, if_false, Int.reduceAdd, Int.reduceSub, Int.reduceMul, Int.reduceLT, Int.reduceLE, Int.reduceEq, Int.reduceNe, Int.reduceNeg, Int.reduceToNat, Nat.reduceMul, Nat.reduceLT, Nat.reduceSub, Nat.reduceLeDiff]
    refine wS_loop (fun i : Nat => [(0, sli a), (1, sli b), (5, .int .i64 i)]) (fun i h _ => h = .e ∧ i ≤ a.length ∧ ∀ j, j < i → a[j]? = b[j]?) (fun i => a.length - i) 0 (by repeat (first | exact Sub.nil | refine Sub.cons (by first | rfl | (rw [Int.natCast_add]; rfl)) ?_)) ⟨rfl, Nat.zero_le _, fun j hj => absurd hj (Nat.not_lt_zero _)⟩ ?_
    rintro i h n ⟨rfl, hi, hb⟩
    by_cases hlt : i < a.length
    · obtain ⟨x, hx⟩ := get_ex hlt
      obtain ⟨y, hy⟩ := get_ex (l := b) (i := i) (by omega)
      have hlt' : (i : Int) < (a.length : Int) := by omega
      have hlt2 : (i : Int) < (b.length : Int) := by omega
      by_cases h0 : x = y
      · simp (maxSteps := 1000000) (disch := omega) only [hlt', hlt2, hab, head_ints hx, head_ints hy, h0, words, Nat.reduceAdd, Nat.reduceEqDiff, Nat.reduceBEq, ↓reduceIte, reduceCtorEq, SX.exit.injEq, if_true, if_false, Int.reduceAdd, Int.reduceSub, Int.reduceMul, Int.reduceLT, Int.reduceLE, Int.reduceEq, Int.reduceNe, Int.reduceNeg, Int.reduceToNat, Nat.reduceMul, Nat.reduceLT, Nat.reduceSub, Nat.reduceLeDiff]
        refine ⟨i + 1, by omega, by repeat (first | exact Sub.nil | refine Sub.cons (by first | rfl | (rw [Int.natCast_add]; rfl)) ?_), by omega, fun j hj => ?_⟩
        by_cases e : j = i
        · subst e; rw [hx, hy, h0]
        · exact hb j (by omega)
      · simp (maxSteps := 1000000) (disch := omega) only [hlt', hlt2, hab, head_ints hx, head_ints hy, h0, words, Nat.reduceAdd, Nat.reduceEqDiff, Nat.reduceBEq, ↓reduceIte, reduceCtorEq, SX.exit.injEq, if_true, if_false, Int.reduceAdd, Int.reduceSub, Int.reduceMul, Int.reduceLT, Int.reduceLE, Int.reduceEq, Int.reduceNe, Int.reduceNeg, Int.reduceToNat, Nat.reduceMul, Nat.reduceLT, Nat.reduceSub, Nat.reduceLeDiff]
        refine ⟨by simp, _, rfl, ?_⟩
        have : a ≠ b := fun e => by subst e; rw [hx] at hy; cases hy; exact h0 rfl
        simp [resOf, lk_cons, this]
    · have hlt' : ¬ (i : Int) < (a.length : Int) := by omega
      have : a = b := List.ext_getElem? fun j => by
        by_cases hj : j < i
        · exact hb j hj
        · rw [List.getElem?_eq_none (by omega), List.getElem?_eq_none (by omega)]
      simp (maxSteps := 1000000) (disch := omega) only [hlt', words, Nat.reduceAdd, Nat.reduceEqDiff, Nat.reduceBEq, ↓reduceIte, reduceCtorEq, SX.exit.injEq, if_true, if_false, Int.reduceAdd, Int.reduceSub, Int.reduceMul, Int.reduceLT, Int.reduceLE, Int.reduceEq, Int.reduceNe, Int.reduceNeg, Int.reduceToNat, Nat.reduceMul, Nat.reduceLT, Nat.reduceSub, Nat.reduceLeDiff]
      exact ⟨by simp, _, rfl, by simp [resOf, lk_cons, this]⟩
  · have hab' : ¬ (a.length : Int) = (b.length : Int) := by omega
    simp (maxSteps := 1000000) (disch := omega) only [s29, hab', words, Nat.reduceAdd, Nat.reduceEqDiff, Nat.reduceBEq, ↓reduceIte, reduceCtorEq, SX.exit.injEq, if_true, if_false, Int.reduceAdd, Int.reduceSub, Int.reduceMul, Int.reduceLT, Int.reduceLE, Int.reduceEq, Int.reduceNe, Int.reduceNeg, Int.reduceToNat, Nat.reduceMul, Nat.reduceLT, Nat.reduceSub, Nat.reduceLeDiff]
    have : a ≠ b := fun e => hab (by rw [e])
    exact ⟨by simp, _, rfl, by simp [resOf, lk_cons, this]⟩
end Go.AM.SN
namespace Go.AM.SN
open Go.Proofs
set_option maxRecDepth 100000
set_option linter.unusedSimpArgs false
set_option linter.unusedVariables false
def weightR : List (Int × Int) → Int → Int
  | [], _ => 0
  | a :: l, p => if a.1 = p then a.2 else weightR l p
theorem weightR_drop {l : List (Int × Int)} {i : Nat} {a : Int × Int} {p : Int} (h : l[i]? = some a) : weightR (l.drop i) p = if a.1 = p then a.2 else weightR (l.drop (i + 1)) p := by
  obtain ⟨hl, e⟩ := List.getElem?_eq_some_iff.1 h
  rw [List.drop_eq_getElem_cons hl, e]; rfl
theorem weight (l : List (Int × Int)) (p : Int) (hl : l.length ≤ 1099511627776) : PSpec Try.prog 26 [arcs l, .int .i64 p] (.int .i64 (weightR l p)) := by
  refine PSpec.of_flat 64 ok26 rfl (by simp only [noRefs, noRef_arcs]; rfl) rfl ?_
  simp (maxSteps := 1000000) (disch := omega) only [s26, words, Nat.reduceAdd, Nat.reduceEqDiff, Nat.reduceBEq, ↓reduceIte, reduceCtorEq, SX.exit.injEq, if_true, if_false, Int.reduceAdd, Int.reduceSub, Int.reduceMul, Int.reduceLT, Int.reduceLE, Int.reduceEq, Int.reduceNe, Int.reduceNeg, Int.reduceToNat, Nat.reduceMul, Nat.reduceLT, Nat.reduceSub, Nat.reduceLeDiff]
  refine wS_loop (fun i : Nat => [(0, arcs l), (1, .int .i64 p), (5, .int .i64 i)]) (fun i h _ => h = .e ∧ i ≤ l.length ∧ weightR l p = weightR (l.drop i) p) (fun i => l.length - i) 0 (by repeat (first | exact Sub.nil | refine Sub.cons (by first | rfl | (rw [Int.natCast_add]; rfl)) ?_)) ⟨rfl, Nat.zero_le _, rfl⟩ ?_
  rintro i h n ⟨rfl, hi, hb⟩
  by_cases hlt : i < l.length
  · obtain ⟨a, ha⟩ := get_ex hlt
    have hlt' : (i : Int) < (l.length : Int) := by omega
    by_cases h0 : a.1 = p
    · have hd := drop_arcs ha
      simp (maxSteps := 1000000) (disch := omega) only [hlt', hd, h0, List.drop_zero, List.drop_succ_cons, List.head?_cons, words, Nat.reduceAdd, Nat.reduceEqDiff, Nat.reduceBEq, ↓reduceIte, reduceCtorEq, SX.exit.injEq, if_true, if_false, Int.reduceAdd, Int.reduceSub, Int.reduceMul, Int.reduceLT, Int.reduceLE, Int.reduceEq, Int.reduceNe, Int.reduceNeg, Int.reduceToNat, Nat.reduceMul, Nat.reduceLT, Nat.reduceSub, Nat.reduceLeDiff]
      refine ⟨by simp, _, rfl, ?_⟩
      rw [hb, weightR_drop ha, if_pos h0]; simp [resOf, lk_cons]
    · have hd := drop_arcs ha
      simp (maxSteps := 1000000) (disch := omega) only [hlt', hd, h0, List.drop_zero, List.drop_succ_cons, List.head?_cons, words, Nat.reduceAdd, Nat.reduceEqDiff, Nat.reduceBEq, ↓reduceIte, reduceCtorEq, SX.exit.injEq, if_true, if_false, Int.reduceAdd, Int.reduceSub, Int.reduceMul, Int.reduceLT, Int.reduceLE, Int.reduceEq, Int.reduceNe, Int.reduceNeg, Int.reduceToNat, Nat.reduceMul, Nat.reduceLT, Nat.reduceSub, Nat.reduceLeDiff]
      refine ⟨i + 1, by omega, by repeat (first | exact Sub.nil | refine Sub.cons (by first | rfl | (rw [Int.natCast_add]; rfl)) ?_), by omega, ?_⟩
      rw [hb, weightR_drop ha, if_neg h0]
  · have hlt' : ¬ (i : Int) < (l.length : Int) := by omega
    simp (maxSteps := 1000000) (disch := omega) only [hlt', words, Nat.reduceAdd, Nat.reduceEqDiff, Nat.reduceBEq, ↓reduceIte, reduceCtorEq, SX.exit.injEq, if_true, if_false, Int.reduceAdd, Int.reduceSub, Int.reduceMul, Int.reduceLT, Int.reduceLE, Int.reduceEq, Int.reduceNe, Int.reduceNeg, Int.reduceToNat, Nat.reduceMul, Nat.reduceLT, Nat.reduceSub, Nat.reduceLeDiff]
    refine ⟨by simp, _, rfl, ?_⟩
    have : l.drop i = [] := List.drop_of_length_le (by omega)
    rw [hb, this]; simp [resOf, lk_cons, weightR]
theorem sameLists (a b : List (List Int)) (hl : a.length ≤ 1099511627776) (hla : ∀ x ∈ a, x.length ≤ 1099511627776) : PSpec Try.prog 18 [lsts a, lsts b] (.bool (decide (a = b))) := by
  refine PSpec.of_flat 64 ok18 rfl (by simp [noRefs, noRef, noRefs_lsts]) rfl ?_
  by_cases hab : a.length = b.length
  · have hab' : (a.length : Int) = (b.length : Int) := by omega
    simp (maxSteps := 1000000) (disch := omega) only [s18, hab', words, Nat.reduceAdd, Nat.reduceEqDiff, Nat.reduceBEq, ↓reduceIte, reduceCtorEq, SX.exit.injEq, if_true, if_false, Int.reduceAdd, Int.reduceSub, Int.reduceMul, Int.reduceLT, Int.reduceLE, Int.reduceEq, Int.reduceNe, Int.reduceNeg, Int.reduceToNat, Nat.reduceMul, Nat.reduceLT, Nat.reduceSub, Nat.reduceLeDiff]
    refine wS_loop (fun i : Nat => [(0, lsts a), (1, lsts b), (5, .int .i64 i)]) (fun i h _ => h = .e ∧ i ≤ a.length ∧ ∀ j, j < i → a[j]? = b[j]?) (fun i => a.length - i) 0 (by repeat (first | exact Sub.nil | refine Sub.cons (by first | rfl | (rw [Int.natCast_add]; rfl)) ?_)) ⟨rfl, Nat.zero_le _, fun j hj => absurd hj (Nat.not_lt_zero _)⟩ ?_
    rintro i h n ⟨rfl, hi, hb⟩
    by_cases hlt : i < a.length
    · obtain ⟨x, hx⟩ := get_ex hlt
      obtain ⟨y, hy⟩ := get_ex (l := b) (i := i) (by omega)
      have hlt' : (i : Int) < (a.length : Int) := by omega
      have hlt2 : (i : Int) < (b.length : Int) := by omega
      simp (maxSteps := 1000000) (disch := omega) only [hlt', hlt2, hab, head_lsts hx, head_lsts hy, words, Nat.reduceAdd, Nat.reduceEqDiff, Nat.reduceBEq, ↓reduceIte, reduceCtorEq, SX.exit.injEq, if_true, if_false, Int.reduceAdd, Int.reduceSub, Int.reduceMul, Int.reduceLT, Int.reduceLE, Int.reduceEq, Int.reduceNe, Int.reduceNeg, Int.reduceToNat, Nat.reduceMul, Nat.reduceLT, Nat.reduceSub, Nat.reduceLeDiff]
      refine cp (same x y (hla x (List.mem_of_getElem? hx))) ?_
      by_cases h0 : x = y
      · simp (maxSteps := 1000000) (disch := omega) only [h0, words, Nat.reduceAdd, Nat.reduceEqDiff, Nat.reduceBEq, ↓reduceIte, reduceCtorEq, SX.exit.injEq, if_true, if_false, Int.reduceAdd, Int.reduceSub, Int.reduceMul, Int.reduceLT, Int.reduceLE, Int.reduceEq, Int.reduceNe, Int.reduceNeg, Int.reduceToNat, Nat.reduceMul, Nat.reduceLT, Nat.reduceSub, Nat.reduceLeDiff]
        refine ⟨i + 1, by omega, by repeat (first | exact Sub.nil | refine Sub.cons (by first | rfl | (rw [Int.natCast_add]; rfl)) ?_), by omega, fun j hj => ?_⟩
        by_cases e : j = i
        · subst e; rw [hx, hy, h0]
        · exact hb j (by omega)
      · simp (maxSteps := 1000000) (disch := omega) only [h0, words, Nat.reduceAdd, Nat.reduceEqDiff, Nat.reduceBEq, ↓reduceIte, reduceCtorEq, SX.exit.injEq, if_true, if_false, Int.reduceAdd, Int.reduceSub, Int.reduceMul, Int.reduceLT, Int.reduceLE, Int.reduceEq, Int.reduceNe, Int.reduceNeg, Int.reduceToNat, Nat.reduceMul, Nat.reduceLT, Nat.reduceSub, Nat.reduceLeDiff]
        refine ⟨by simp, _, rfl, ?_⟩
        have : a ≠ b := fun e => by subst e; rw [hx] at hy; cases hy; exact h0 rfl
        simp [resOf, lk_cons, this]
    · have hlt' : ¬ (i : Int) < (a.length : Int) := by omega
      have : a = b := List.ext_getElem? fun j => by
        by_cases hj : j < i
        · exact hb j hj
        · rw [List.getElem?_eq_none (by omega), List.getElem?_eq_none (by omega)]
      simp (maxSteps := 1000000) (disch := omega) only [hlt', words, Nat.reduceAdd, Nat.reduceEqDiff, Nat.reduceBEq, ↓reduceIte, reduceCtorEq, SX.exit.injEq, if_true, if_false, Int.reduceAdd, Int.reduceSub, Int.reduceMul, Int.reduceLT, Int.reduceLE, Int.reduceEq, Int.reduceNe, Int.reduceNeg, Int.reduceToNat, Nat.reduceMul, Nat.reduceLT, Nat.reduceSub, Nat.reduceLeDiff]
      exact ⟨by simp, _, rfl, by simp [resOf, lk_cons, this]⟩
  · have hab' : ¬ (a.length : Int) = (b.length : Int) := by omega
    simp (maxSteps := 1000000) (disch := omega) only [s18, hab', words, Nat.reduceAdd, Nat.reduceEqDiff, Nat.reduceBEq, ↓reduceIte, reduceCtorEq, SX.exit.injEq, if_true, if_false, Int.reduceAdd, Int.reduceSub, Int.reduceMul, Int.reduceLT, Int.reduceLE, Int.reduceEq, Int.reduceNe, Int.reduceNeg, Int.reduceToNat, Nat.reduceMul, Nat.reduceLT, Nat.reduceSub, Nat.reduceLeDiff]
    have : a ≠ b := fun e => hab (by rw [e])
    exact ⟨by simp, _, rfl, by simp [resOf, lk_cons, this]⟩
def sm (n : Int) : Prop := -65536 ≤ n ∧ n ≤ 65536
theorem mul_sm {x y : Int} (hx : sm x) (hy : sm y) : -4294967296 ≤ x * y ∧ x * y ≤ 4294967296 := by
  obtain ⟨h1, h2⟩ := hx
  obtain ⟨h3, h4⟩ := hy
  have hn : (x * y).natAbs ≤ 65536 * 65536 := by
    rw [Int.natAbs_mul]
    exact Nat.mul_le_mul (by omega) (by omega)
  omega
end Go.AM.SN
namespace Go.AM.SN
open Go.Proofs
set_option maxRecDepth 100000
set_option linter.unusedSimpArgs false
set_option linter.unusedVariables false
def suppR (w : List Int) (i : Nat) : List Int := ((List.range i).filter fun j => !decide (w.getD j 0 = 0)).map Int.ofNat
theorem suppR_len (w : List Int) (i : Nat) : (suppR w i).length ≤ i := by
  unfold suppR
  rw [List.length_map]
  exact Nat.le_trans (List.length_filter_le _ _) (by simp)
theorem suppR_succ (w : List Int) (i : Nat) : suppR w (i + 1) = suppR w i ++ (if w.getD i 0 = 0 then [] else [(i : Int)]) := by
  unfold suppR
  rw [List.range_succ, List.filter_append, List.map_append]
  congr 1
  by_cases h : w.getD i 0 = 0
  · rw [if_pos h]; simp only [List.filter_cons, h, decide_true, Bool.not_true, Bool.false_eq_true, if_false, List.filter_nil, List.map_nil]
  · rw [if_neg h]; simp only [List.filter_cons, h, decide_false, Bool.not_false, if_true, List.filter_nil, List.map_cons, List.map_nil]; rfl
theorem ints_append (a b : List Int) : ints (a ++ b) = ints a ++ ints b := by simp [ints]
theorem support (w : List Int) (hl : w.length ≤ 1000000) : PSpec Try.prog 30 [sli w] (sli (suppR w w.length)) := by
  refine PSpec.of_frz 64 ok30 rfl (by simp [noRefs, noRef, noRefs_ints]) (noRef_sli _) ?_
  simp (maxSteps := 1000000) (disch := omega) only [s30, words, Nat.reduceAdd, Nat.reduceEqDiff, Nat.reduceBEq, ↓reduceIte, reduceCtorEq, SX.exit.injEq, if_true, if_false, Int.reduceAdd, Int.reduceSub, Int.reduceMul, Int.reduceLT, Int.reduceLE, Int.reduceEq, Int.reduceNe, Int.reduceNeg, Int.reduceToNat, Nat.reduceMul, Nat.reduceLT, Nat.reduceSub, Nat.reduceLeDiff]
  refine wS_loop (fun a : Nat × AV => [(3, a.2), (6, sli w), (7, .int .i64 w.length), (8, .int .i64 a.1)]) (fun a h n => a.1 ≤ w.length ∧ Row h (fun b => b < n) a.2 (ints (suppR w a.1)) (suppR w a.1).length 1 ∧ Fresh n h ∧ n ≤ 1000 + a.1 * 40) (fun a => w.length - a.1) (0, .nilsl) (by repeat (first | exact Sub.nil | refine Sub.cons (by first | rfl | (rw [Int.natCast_add]; rfl)) ?_)) ⟨Nat.zero_le _, .nil, .e, by omega⟩ ?_
  rintro ⟨i, v⟩ h n ⟨hi, hr, hf, hn⟩
  dsimp only at hi hr hn ⊢
  by_cases hlt : i < w.length
  · obtain ⟨x, hx⟩ := get_ex hlt
    have hlt' : (i : Int) < (w.length : Int) := by omega
    have hD : w.getD i 0 = x := by rw [List.getD_eq_getElem?_getD, hx]; rfl
    have hs := suppR_succ w i
    rw [hD] at hs
    by_cases h0 : x = 0
    · rw [if_pos h0, List.append_nil] at hs
      simp (maxSteps := 1000000) (disch := omega) only [hlt', head_ints hx, h0, words, Nat.reduceAdd, Nat.reduceEqDiff, Nat.reduceBEq, ↓reduceIte, reduceCtorEq, SX.exit.injEq, if_true, if_false, Int.reduceAdd, Int.reduceSub, Int.reduceMul, Int.reduceLT, Int.reduceLE, Int.reduceEq, Int.reduceNe, Int.reduceNeg, Int.reduceToNat, Nat.reduceMul, Nat.reduceLT, Nat.reduceSub, Nat.reduceLeDiff]
      refine ⟨(i + 1, v), by simp only; omega, by repeat (first | exact Sub.nil | refine Sub.cons (by first | rfl | (rw [Int.natCast_add]; rfl)) ?_), by simp only; omega, ?_, hf.le (by omega), by simp only; omega⟩
      rw [hs]
      exact hr.keep fun b hb _ => ⟨rfl, by omega⟩
    · rw [if_neg h0] at hs
      have hf0 : ∀ b, n ≤ b → h.get b = none := hf
      simp (maxSteps := 1000000) (disch := omega) only [hlt', head_ints hx, h0, hf0, wordsN, Int.reduceGT, words, Nat.reduceAdd, Nat.reduceEqDiff, Nat.reduceBEq, ↓reduceIte, reduceCtorEq, SX.exit.injEq, if_true, if_false, Int.reduceAdd, Int.reduceSub, Int.reduceMul, Int.reduceLT, Int.reduceLE, Int.reduceEq, Int.reduceNe, Int.reduceNeg, Int.reduceToNat, Nat.reduceMul, Nat.reduceLT, Nat.reduceSub, Nat.reduceLeDiff]
      have hlen := suppR_len w i
      refine app_set hr (hf.le (by omega)) (by omega) (by omega) rfl rfl (by omega) (by omega) ?_
      intro v' h' hr' hf' _
      simp (maxSteps := 1000000) (disch := omega) only [words, Nat.reduceAdd, Nat.reduceEqDiff, Nat.reduceBEq, ↓reduceIte, reduceCtorEq, SX.exit.injEq, if_true, if_false, Int.reduceAdd, Int.reduceSub, Int.reduceMul, Int.reduceLT, Int.reduceLE, Int.reduceEq, Int.reduceNe, Int.reduceNeg, Int.reduceToNat, Nat.reduceMul, Nat.reduceLT, Nat.reduceSub, Nat.reduceLeDiff]
      refine ⟨(i + 1, v'), by simp only; omega, by repeat (first | exact Sub.nil | refine Sub.cons (by first | rfl | (rw [Int.natCast_add]; rfl)) ?_), by simp only; omega, ?_, hf'.le (by omega), by simp only; omega⟩
      rw [hs, ints_append, List.length_append]
      exact hr'.keep fun b hb hne => ⟨rfl, by omega⟩
  · have hlt' : ¬ (i : Int) < (w.length : Int) := by omega
    have e : i = w.length := by omega
    subst e
    simp (maxSteps := 1000000) (disch := omega) only [hlt', words, Nat.reduceAdd, Nat.reduceEqDiff, Nat.reduceBEq, ↓reduceIte, reduceCtorEq, SX.exit.injEq, if_true, if_false, Int.reduceAdd, Int.reduceSub, Int.reduceMul, Int.reduceLT, Int.reduceLE, Int.reduceEq, Int.reduceNe, Int.reduceNeg, Int.reduceToNat, Nat.reduceMul, Nat.reduceLT, Nat.reduceSub, Nat.reduceLeDiff]
    exact ⟨by simp, _, rfl, by simp [resOf, lk_cons]; exact hr.frz (FrzL.same _)⟩
end Go.AM.SN
namespace Go.AM.SN
open Go.Proofs
set_option maxRecDepth 100000
set_option linter.unusedSimpArgs false
set_option linter.unusedVariables false
structure ArcsOk (l : List (Int × Int)) (places : Int) : Prop where
  len : l.length ≤ 1000
  each : ∀ (i : Nat) (a : Int × Int), l[i]? = some a → 0 ≤ a.1 ∧ a.1 < places ∧ 1 ≤ a.2 ∧ a.2 ≤ 8
  up : ∀ (i : Nat) (a b : Int × Int), l[i]? = some a → l[i + 1]? = some b → a.1 < b.1
theorem checkArcs (l : List (Int × Int)) (places : Int) (ho : ArcsOk l places) : PSpec Try.prog 58 [arcs l, .int .i64 places] (.int .i64 0) := by
  refine PSpec.of_flat 64 ok58 rfl (by simp only [noRefs, noRef_arcs]; rfl) rfl ?_
  have hll := ho.len
  simp (maxSteps := 1000000) (disch := omega) only [s58, words, Nat.reduceAdd, Nat.reduceEqDiff, Nat.reduceBEq, ↓reduceIte, reduceCtorEq, SX.exit.injEq, if_true, if_false, Int.reduceAdd, Int.reduceSub, Int.reduceMul, Int.reduceLT, Int.reduceLE, Int.reduceEq, Int.reduceNe, Int.reduceNeg, Int.reduceToNat, Nat.reduceMul, Nat.reduceLT, Nat.reduceSub, Nat.reduceLeDiff]
  refine wS_loop (fun i : Nat => [(0, arcs l), (1, .int .i64 places), (7, arcs l), (8, .int .i64 l.length), (9, .int .i64 i)]) (fun i h n => i ≤ l.length ∧ Fresh n h ∧ n ≤ 1000 + i * 100) (fun i => l.length - i) 0 (by repeat (first | exact Sub.nil | refine Sub.cons (by first | rfl | (rw [Int.natCast_add]; rfl)) ?_)) ⟨Nat.zero_le _, .e, by omega⟩ ?_
  rintro i h n ⟨hi, hf, hn⟩
  have hf0 : ∀ b, n ≤ b → h.get b = none := hf
  by_cases hlt : i < l.length
  · obtain ⟨a, ha⟩ := get_ex hlt
    have hlt' : (i : Int) < (l.length : Int) := by omega
    have hd := drop_arcs ha
    obtain ⟨h1, h2, h3, h4⟩ := ho.each i a ha
    have h1' : ¬ a.1 < 0 := by omega
    have h2' : ¬ places ≤ a.1 := by omega
    have h3' : ¬ a.2 < 1 := by omega
    have h4' : ¬ 8 < a.2 := by omega
    cases i with
    | zero =>
      simp only [Nat.zero_mul] at hd
      have hl0 : (0 : Int) < (l.length : Int) := by omega
      simp (maxSteps := 1000000) (disch := omega) only [hl0, hd, hf0, h1', h2', h3', h4', Int.lt_irrefl, Int.cast_ofNat_Int, Int.natCast_zero, wordsN, Int.reduceGT, words, Nat.reduceAdd, Nat.reduceEqDiff, Nat.reduceBEq, ↓reduceIte, reduceCtorEq, SX.exit.injEq, if_true, if_false, Int.reduceAdd, Int.reduceSub, Int.reduceMul, Int.reduceLT, Int.reduceLE, Int.reduceEq, Int.reduceNe, Int.reduceNeg, Int.reduceToNat, Nat.reduceMul, Nat.reduceLT, Nat.reduceSub, Nat.reduceLeDiff]
      refine ⟨1, by omega, by repeat (first | exact Sub.nil | refine Sub.cons (by first | rfl | (rw [Int.natCast_add]; rfl)) ?_), by omega, (by repeat (first | exact Fresh.e | exact Fresh.le (by assumption) (by omega) | refine Fresh.set ?_ (by omega) (by omega))), by omega⟩
    | succ i =>
      obtain ⟨p, hp⟩ := get_ex (l := l) (i := i) (by omega)
      have hup := ho.up i p a hp ha
      have hup' : ¬ a.1 ≤ p.1 := by omega
      have hdp := drop_arcs hp
      have hpos : (0 : Int) < ((i + 1 : Nat) : Int) := by omega
      have hsub : (((i + 1 : Nat) : Int) - 1) = (i : Int) := by omega
      have hlt2 : (i : Int) < (l.length : Int) := by omega
      simp (maxSteps := 1000000) (disch := omega) only [hlt', hd, hdp, hf0, h1', h2', h3', h4', hpos, hsub, hup', hlt2, wordsN, Int.reduceGT, words, Nat.reduceAdd, Nat.reduceEqDiff, Nat.reduceBEq, ↓reduceIte, reduceCtorEq, SX.exit.injEq, if_true, if_false, Int.reduceAdd, Int.reduceSub, Int.reduceMul, Int.reduceLT, Int.reduceLE, Int.reduceEq, Int.reduceNe, Int.reduceNeg, Int.reduceToNat, Nat.reduceMul, Nat.reduceLT, Nat.reduceSub, Nat.reduceLeDiff]
      refine ⟨i + 1 + 1, by omega, by repeat (first | exact Sub.nil | refine Sub.cons (by first | rfl | (rw [Int.natCast_add]; rfl)) ?_), by omega, (by repeat (first | exact Fresh.e | exact Fresh.le (by assumption) (by omega) | refine Fresh.set ?_ (by omega) (by omega))), by omega⟩
  · have hlt' : ¬ (i : Int) < (l.length : Int) := by omega
    simp (maxSteps := 1000000) (disch := omega) only [hlt', words, Nat.reduceAdd, Nat.reduceEqDiff, Nat.reduceBEq, ↓reduceIte, reduceCtorEq, SX.exit.injEq, if_true, if_false, Int.reduceAdd, Int.reduceSub, Int.reduceMul, Int.reduceLT, Int.reduceLE, Int.reduceEq, Int.reduceNe, Int.reduceNeg, Int.reduceToNat, Nat.reduceMul, Nat.reduceLT, Nat.reduceSub, Nat.reduceLeDiff]
    exact ⟨by simp, _, rfl, by simp [resOf, lk_cons]⟩
theorem indexNone (g : Nat) (l : List Int) (hg : ∀ x ∈ l, PSpec Try.prog g [.int .i64 x] (.bool false)) (hl : l.length ≤ 1099511627776) :
    PSpec Try.prog 76 [sli l, .fn g [] []] (.int .i64 (-1)) := by
  refine PSpec.of_flat 64 ok76 rfl (by simp [noRefs, noRef, noRefs_ints]) rfl ?_
  simp (maxSteps := 1000000) (disch := omega) only [s76, words, Nat.reduceAdd, Nat.reduceEqDiff, Nat.reduceBEq, ↓reduceIte, reduceCtorEq, SX.exit.injEq, if_true, if_false, Int.reduceAdd, Int.reduceSub, Int.reduceMul, Int.reduceLT, Int.reduceLE, Int.reduceEq, Int.reduceNe, Int.reduceNeg, Int.reduceToNat, Nat.reduceMul, Nat.reduceLT, Nat.reduceSub, Nat.reduceLeDiff]
  refine wS_loop (fun i : Nat => [(0, sli l), (1, .fn g [] []), (7, .int .i64 l.length), (8, .int .i64 i)]) (fun i h _ => h = .e ∧ i ≤ l.length) (fun i => l.length - i) 0 (by repeat (first | exact Sub.nil | refine Sub.cons (by first | rfl | (rw [Int.natCast_add]; rfl)) ?_)) ⟨rfl, Nat.zero_le _⟩ ?_
  rintro i h n ⟨rfl, hi⟩
  by_cases hlt : i < l.length
  · obtain ⟨x, hx⟩ := get_ex hlt
    have hlt' : (i : Int) < (l.length : Int) := by omega
    simp (maxSteps := 1000000) (disch := omega) only [hlt', head_ints hx, words, Nat.reduceAdd, Nat.reduceEqDiff, Nat.reduceBEq, ↓reduceIte, reduceCtorEq, SX.exit.injEq, if_true, if_false, Int.reduceAdd, Int.reduceSub, Int.reduceMul, Int.reduceLT, Int.reduceLE, Int.reduceEq, Int.reduceNe, Int.reduceNeg, Int.reduceToNat, Nat.reduceMul, Nat.reduceLT, Nat.reduceSub, Nat.reduceLeDiff]
    refine cp (hg x (List.mem_of_getElem? hx)) ?_
    simp (maxSteps := 1000000) (disch := omega) only [words, Nat.reduceAdd, Nat.reduceEqDiff, Nat.reduceBEq, ↓reduceIte, reduceCtorEq, SX.exit.injEq, if_true, if_false, Int.reduceAdd, Int.reduceSub, Int.reduceMul, Int.reduceLT, Int.reduceLE, Int.reduceEq, Int.reduceNe, Int.reduceNeg, Int.reduceToNat, Nat.reduceMul, Nat.reduceLT, Nat.reduceSub, Nat.reduceLeDiff]
    exact ⟨i + 1, by omega, by repeat (first | exact Sub.nil | refine Sub.cons (by first | rfl | (rw [Int.natCast_add]; rfl)) ?_), by omega⟩
  · have hlt' : ¬ (i : Int) < (l.length : Int) := by omega
    simp (maxSteps := 1000000) (disch := omega) only [hlt', words, Nat.reduceAdd, Nat.reduceEqDiff, Nat.reduceBEq, ↓reduceIte, reduceCtorEq, SX.exit.injEq, if_true, if_false, Int.reduceAdd, Int.reduceSub, Int.reduceMul, Int.reduceLT, Int.reduceLE, Int.reduceEq, Int.reduceNe, Int.reduceNeg, Int.reduceToNat, Nat.reduceMul, Nat.reduceLT, Nat.reduceSub, Nat.reduceLeDiff]
    exact ⟨by simp, _, rfl, by simp [resOf, lk_cons]⟩
theorem containsNone (g : Nat) (l : List Int) (hg : ∀ x ∈ l, PSpec Try.prog g [.int .i64 x] (.bool false)) (hl : l.length ≤ 1099511627776) :
    PSpec Try.prog 66 [sli l, .fn g [] []] (.bool false) := by
  refine PSpec.of_flat 64 ok66 rfl (by simp [noRefs, noRef, noRefs_ints]) rfl ?_
  simp (maxSteps := 1000000) (disch := omega) only [s66, words, Nat.reduceAdd, Nat.reduceEqDiff, Nat.reduceBEq, ↓reduceIte, reduceCtorEq, SX.exit.injEq, if_true, if_false, Int.reduceAdd, Int.reduceSub, Int.reduceMul, Int.reduceLT, Int.reduceLE, Int.reduceEq, Int.reduceNe, Int.reduceNeg, Int.reduceToNat, Nat.reduceMul, Nat.reduceLT, Nat.reduceSub, Nat.reduceLeDiff]
  refine cp (indexNone g l hg hl) ?_
  simp (maxSteps := 1000000) (disch := omega) only [words, Nat.reduceAdd, Nat.reduceEqDiff, Nat.reduceBEq, ↓reduceIte, reduceCtorEq, SX.exit.injEq, if_true, if_false, Int.reduceAdd, Int.reduceSub, Int.reduceMul, Int.reduceLT, Int.reduceLE, Int.reduceEq, Int.reduceNe, Int.reduceNeg, Int.reduceToNat, Nat.reduceMul, Nat.reduceLT, Nat.reduceSub, Nat.reduceLeDiff]
  exact ⟨by simp, _, rfl, by simp [resOf, lk_cons]⟩
def okT (n : Int) : Prop := 0 ≤ n ∧ n ≤ 65536
theorem tok1 (n : Int) (h : okT n) : PSpec Try.prog 69 [.int .i64 n] (.bool false) := by
  obtain ⟨h1, h2⟩ := h
  have h1' : ¬ n < 0 := by omega
  have h2' : ¬ 65536 < n := by omega
  refine PSpec.of_flat 64 ok69 rfl rfl rfl ?_
  simp (maxSteps := 1000000) (disch := omega) only [s69, h1', h2', words, Nat.reduceAdd, Nat.reduceEqDiff, Nat.reduceBEq, ↓reduceIte, reduceCtorEq, SX.exit.injEq, if_true, if_false, Int.reduceAdd, Int.reduceSub, Int.reduceMul, Int.reduceLT, Int.reduceLE, Int.reduceEq, Int.reduceNe, Int.reduceNeg, Int.reduceToNat, Nat.reduceMul, Nat.reduceLT, Nat.reduceSub, Nat.reduceLeDiff]
  exact ⟨by simp, _, rfl, by simp [resOf, lk_cons]⟩
theorem tokens (l : List Int) (hl : l.length ≤ 1099511627776) (h : ∀ x ∈ l, okT x) : PSpec Try.prog 57 [sli l] (.bool true) := by
  refine PSpec.of_flat 64 ok57 rfl (by simp [noRefs, noRef, noRefs_ints]) rfl ?_
  simp (maxSteps := 1000000) (disch := omega) only [s57, words, Nat.reduceAdd, Nat.reduceEqDiff, Nat.reduceBEq, ↓reduceIte, reduceCtorEq, SX.exit.injEq, if_true, if_false, Int.reduceAdd, Int.reduceSub, Int.reduceMul, Int.reduceLT, Int.reduceLE, Int.reduceEq, Int.reduceNe, Int.reduceNeg, Int.reduceToNat, Nat.reduceMul, Nat.reduceLT, Nat.reduceSub, Nat.reduceLeDiff]
  refine cp (containsNone 69 l (fun x hx => tok1 x (h x hx)) hl) ?_
  simp (maxSteps := 1000000) (disch := omega) only [words, Nat.reduceAdd, Nat.reduceEqDiff, Nat.reduceBEq, ↓reduceIte, reduceCtorEq, SX.exit.injEq, if_true, if_false, Int.reduceAdd, Int.reduceSub, Int.reduceMul, Int.reduceLT, Int.reduceLE, Int.reduceEq, Int.reduceNe, Int.reduceNeg, Int.reduceToNat, Nat.reduceMul, Nat.reduceLT, Nat.reduceSub, Nat.reduceLeDiff]
  exact ⟨by simp, _, rfl, by simp [resOf, lk_cons]⟩
structure NetOk (x : Nt) : Prop where
  places : x.ini.length ≤ 10
  tokens : ∀ y ∈ x.ini, okT y
  trans : x.tr.length ≤ 10
  ev : ∀ t ∈ x.tr, 0 ≤ t.ev ∧ t.ev < 32
  inn : ∀ t ∈ x.tr, ArcsOk t.inn x.ini.length
  out : ∀ t ∈ x.tr, ArcsOk t.out x.ini.length
theorem check (x : Nt) (ho : NetOk x) : PSpec Try.prog 37 [netV x] (.int .i64 0) := by
  refine PSpec.of_flat 64 ok37 rfl (by rw [noRefs, noRef_net]; rfl) rfl ?_
  have hp := ho.places
  have ht := ho.trans
  have hp' : ¬ (10 : Int) < (x.ini.length : Int) := by omega
  have ht' : ¬ (10 : Int) < (x.tr.length : Int) := by omega
  have hf0 : ∀ b, Tr.get (α := Blk) .e b = none := fun b => by simp [Tr.get]
  simp (maxSteps := 1000000) (disch := omega) only [s37, hf0, hp', ht', wordsN, Int.reduceGT, words, Nat.reduceAdd, Nat.reduceEqDiff, Nat.reduceBEq, ↓reduceIte, reduceCtorEq, SX.exit.injEq, if_true, if_false, Int.reduceAdd, Int.reduceSub, Int.reduceMul, Int.reduceLT, Int.reduceLE, Int.reduceEq, Int.reduceNe, Int.reduceNeg, Int.reduceToNat, Nat.reduceMul, Nat.reduceLT, Nat.reduceSub, Nat.reduceLeDiff]
  refine cp (tokens x.ini (by omega) ho.tokens) ?_
  simp (maxSteps := 1000000) (disch := omega) only [hp', ht', wordsN, Int.reduceGT, words, Nat.reduceAdd, Nat.reduceEqDiff, Nat.reduceBEq, ↓reduceIte, reduceCtorEq, SX.exit.injEq, if_true, if_false, Int.reduceAdd, Int.reduceSub, Int.reduceMul, Int.reduceLT, Int.reduceLE, Int.reduceEq, Int.reduceNe, Int.reduceNeg, Int.reduceToNat, Nat.reduceMul, Nat.reduceLT, Nat.reduceSub, Nat.reduceLeDiff]
  refine wS_loop (fun i : Nat => [(1, .ptr 64 0 0), (24, tns x.tr), (25, .int .i64 x.tr.length), (26, .int .i64 i)]) (fun i h n => i ≤ x.tr.length ∧ h.get 64 = some (.cells 0 [sli x.ini, tns x.tr]) ∧ Fresh n h ∧ 64 < n ∧ n ≤ 1000 + i * 1000) (fun i => x.tr.length - i) 0 (by repeat (first | exact Sub.nil | refine Sub.cons (by first | rfl | (rw [Int.natCast_add]; rfl)) ?_)) ⟨Nat.zero_le _, get_same (by omega), (Fresh.e (n := 65)).le (by omega) |>.set (by omega) (by omega), by omega, by omega⟩ ?_
  rintro i h n ⟨hi, h64, hf, hn0, hn⟩
  have hf0 : ∀ b, n ≤ b → h.get b = none := hf
  by_cases hlt : i < x.tr.length
  · obtain ⟨t, htt⟩ := get_ex hlt
    have hlt' : (i : Int) < (x.tr.length : Int) := by omega
    have hd := drop_tns htt
    have hm := List.mem_of_getElem? htt
    obtain ⟨e1, e2⟩ := ho.ev t hm
    have e1' : ¬ t.ev < 0 := by omega
    have e2' : ¬ 32 ≤ t.ev := by omega
    have hin := ho.inn t hm
    have hout := ho.out t hm
    simp (maxSteps := 1000000) (disch := omega) only [hlt', hd, hf0, h64, e1', e2', wordsN, Int.reduceGT, words, Nat.reduceAdd, Nat.reduceEqDiff, Nat.reduceBEq, ↓reduceIte, reduceCtorEq, SX.exit.injEq, if_true, if_false, Int.reduceAdd, Int.reduceSub, Int.reduceMul, Int.reduceLT, Int.reduceLE, Int.reduceEq, Int.reduceNe, Int.reduceNeg, Int.reduceToNat, Nat.reduceMul, Nat.reduceLT, Nat.reduceSub, Nat.reduceLeDiff]
    refine wS_unroll (wLp_round ?_)
    simp (maxSteps := 1000000) (disch := omega) only [h64, hf0, wordsN, Int.reduceGT, words, Nat.reduceAdd, Nat.reduceEqDiff, Nat.reduceBEq, ↓reduceIte, reduceCtorEq, SX.exit.injEq, if_true, if_false, Int.reduceAdd, Int.reduceSub, Int.reduceMul, Int.reduceLT, Int.reduceLE, Int.reduceEq, Int.reduceNe, Int.reduceNeg, Int.reduceToNat, Nat.reduceMul, Nat.reduceLT, Nat.reduceSub, Nat.reduceLeDiff]
    refine cp (checkArcs t.inn _ hin) ?_
    simp (maxSteps := 1000000) (disch := omega) only [h64, hf0, wordsN, Int.reduceGT, words, Nat.reduceAdd, Nat.reduceEqDiff, Nat.reduceBEq, ↓reduceIte, reduceCtorEq, SX.exit.injEq, if_true, if_false, Int.reduceAdd, Int.reduceSub, Int.reduceMul, Int.reduceLT, Int.reduceLE, Int.reduceEq, Int.reduceNe, Int.reduceNeg, Int.reduceToNat, Nat.reduceMul, Nat.reduceLT, Nat.reduceSub, Nat.reduceLeDiff]
    refine wLp_round ?_
    simp (maxSteps := 1000000) (disch := omega) only [h64, hf0, wordsN, Int.reduceGT, words, Nat.reduceAdd, Nat.reduceEqDiff, Nat.reduceBEq, ↓reduceIte, reduceCtorEq, SX.exit.injEq, if_true, if_false, Int.reduceAdd, Int.reduceSub, Int.reduceMul, Int.reduceLT, Int.reduceLE, Int.reduceEq, Int.reduceNe, Int.reduceNeg, Int.reduceToNat, Nat.reduceMul, Nat.reduceLT, Nat.reduceSub, Nat.reduceLeDiff]
    refine cp (checkArcs t.out _ hout) ?_
    simp (maxSteps := 1000000) (disch := omega) only [h64, hf0, wordsN, Int.reduceGT, words, Nat.reduceAdd, Nat.reduceEqDiff, Nat.reduceBEq, ↓reduceIte, reduceCtorEq, SX.exit.injEq, if_true, if_false, Int.reduceAdd, Int.reduceSub, Int.reduceMul, Int.reduceLT, Int.reduceLE, Int.reduceEq, Int.reduceNe, Int.reduceNeg, Int.reduceToNat, Nat.reduceMul, Nat.reduceLT, Nat.reduceSub, Nat.reduceLeDiff]
    refine wLp_round ?_
    simp (maxSteps := 1000000) (disch := omega) only [h64, hf0, wordsN, Int.reduceGT, words, Nat.reduceAdd, Nat.reduceEqDiff, Nat.reduceBEq, ↓reduceIte, reduceCtorEq, SX.exit.injEq, if_true, if_false, Int.reduceAdd, Int.reduceSub, Int.reduceMul, Int.reduceLT, Int.reduceLE, Int.reduceEq, Int.reduceNe, Int.reduceNeg, Int.reduceToNat, Nat.reduceMul, Nat.reduceLT, Nat.reduceSub, Nat.reduceLeDiff]
    exact ⟨i + 1, by omega, by repeat (first | exact Sub.nil | refine Sub.cons (by first | rfl | (rw [Int.natCast_add]; rfl)) ?_), by omega, (by repeat (first | exact Fresh.e | exact Fresh.le (by assumption) (by omega) | refine Fresh.set ?_ (by omega) (by omega))), by omega, by omega⟩
  · have hlt' : ¬ (i : Int) < (x.tr.length : Int) := by omega
    simp (maxSteps := 1000000) (disch := omega) only [hlt', words, Nat.reduceAdd, Nat.reduceEqDiff, Nat.reduceBEq, ↓reduceIte, reduceCtorEq, SX.exit.injEq, if_true, if_false, Int.reduceAdd, Int.reduceSub, Int.reduceMul, Int.reduceLT, Int.reduceLE, Int.reduceEq, Int.reduceNe, Int.reduceNeg, Int.reduceToNat, Nat.reduceMul, Nat.reduceLT, Nat.reduceSub, Nat.reduceLeDiff]
    exact ⟨by simp, _, rfl, by simp [resOf, lk_cons]⟩
end Go.AM.SN
