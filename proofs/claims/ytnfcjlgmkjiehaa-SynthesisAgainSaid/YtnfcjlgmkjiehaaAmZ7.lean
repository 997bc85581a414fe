/- A part of the proof of SynthesisAgainSaid: lemmas on the way (AmDx, AmEa, AmEb, AmEc, AmTg, AmTa, AmTb, AmEd, AmEe). Conditions: none of ours. -/
import Derived.Test.YtnfcjlgmkjiehaaProg
import Derived.KernelRfl
import Derived.Test.YtnfcjlgmkjiehaaAmZ6
set_option linter.unusedSectionVars false
set_option maxRecDepth 100000
namespace Go.AM.SE
open Go.Proofs
def s8 : SFn := ⟨122, [.tmp 2],
 (.seq (.region [⟨(some 1), .box .dyn (.t 0), [], none⟩,
 ⟨(some 2), .mov (.c (.bool false)), [], none⟩] [] [0, 2])
 (.seq (.seq (.region [⟨(some 17), .call .pure (.f 9) [], [], none⟩,
 ⟨(some 18), .un .not (.t 17), [0], none⟩] [] [17])
 (.cond (.t 18)
 (.seq (.region [⟨(some 2), .mov (.c (.bool false)), [], none⟩] [] [1, 18])
 .ret)
 .skip))
 (.seq (.region [⟨(some 20), .load (some 30) (.t 1), [], none⟩,
 ⟨(some 21), .call .pure (.f 10) [(.t 20)], [0], none⟩,
 ⟨(some 19), .mov (.t 21), [1], none⟩,
 ⟨(some 22), .extract 0 (.t 19), [2], none⟩,
 ⟨(some 23), .extract 1 (.t 19), [2], none⟩,
 ⟨(some 24), .extract 2 (.t 19), [2], none⟩,
 ⟨(some 3), .alloc .dyn (.agg [.nilsl, (.int .i64 0), .nilsl, .nilsl]), [], none⟩,
 ⟨none, .store 4 (.t 3) (.t 22), [6, 3, 1, 0, 1, 2, 3, 6], none⟩,
 ⟨(some 4), .mov (.t 23), [4, 7, 0, 1, 2, 3, 4, 6, 7], none⟩,
 ⟨(some 5), .mov (.t 24), [5, 8, 0, 1, 2, 3, 4, 5, 6, 7, 8], none⟩] [] [2, 1, 18, 20, 21, 19, 22, 23, 24])
 (.seq (.region [⟨(some 26), .load (some 4) (.t 3), [], none⟩,
 ⟨(some 27), .mov (.t 4), [], none⟩,
 ⟨(some 28), .mov (.t 5), [], none⟩,
 ⟨(some 29), .call .pure (.f 23) [(.t 26), (.t 27), (.t 28)], [0, 1, 2], none⟩,
 ⟨(some 25), .mov (.t 29), [3], none⟩,
 ⟨(some 30), .extract 0 (.t 25), [4], none⟩,
 ⟨(some 31), .extract 1 (.t 25), [4], none⟩,
 ⟨(some 6), .alloc .dyn (.agg [.nilsl, .nilsl, .nilsl, (.int .i64 0), .nilsl, (.int .i64 0), .nilsl, .nilsl, .nilsl]), [], none⟩,
 ⟨none, .store 9 (.t 6) (.t 30), [7, 5, 3, 0, 1, 2, 3, 4, 5, 7], none⟩,
 ⟨(some 7), .mov (.t 31), [6, 8, 0, 1, 2, 3, 4, 5, 6, 7, 8], none⟩] [] [26, 27, 28, 29, 25, 30, 31])
 (.seq (.region [⟨(some 33), .faddr 4 (.t 6), [], none⟩,
 ⟨(some 34), .load (some 4) (.t 33), [0], none⟩,
 ⟨(some 35), .mov (.t 5), [], none⟩,
 ⟨(some 36), .call .pure (.f 23) [(.t 34), (.c .nilsl), (.t 35)], [1, 2], none⟩,
 ⟨(some 32), .mov (.t 36), [3], none⟩,
 ⟨(some 37), .extract 0 (.t 32), [4], none⟩,
 ⟨(some 38), .extract 1 (.t 32), [4], none⟩,
 ⟨(some 8), .alloc .dyn (.agg [.nilsl, .nilsl, .nilsl, (.int .i64 0), .nilsl, (.int .i64 0), .nilsl, .nilsl, .nilsl]), [], none⟩,
 ⟨none, .store 9 (.t 8) (.t 37), [7, 5, 3, 0, 1, 2, 3, 4, 5, 7], none⟩,
 ⟨(some 9), .mov (.t 38), [6, 8, 0, 1, 2, 3, 4, 5, 6, 7, 8], none⟩] [] [33, 34, 35, 36, 32, 37, 38])
 (.seq (.region [⟨(some 40), .load (some 4) (.t 3), [], none⟩,
 ⟨(some 41), .mov (.t 4), [], none⟩,
 ⟨(some 42), .mov (.t 5), [], none⟩,
 ⟨(some 43), .call .pure (.f 24) [(.t 40), (.t 41), (.t 42)], [0, 1, 2], none⟩,
 ⟨(some 39), .mov (.t 43), [3], none⟩,
 ⟨(some 44), .extract 0 (.t 39), [4], none⟩,
 ⟨(some 45), .extract 1 (.t 39), [4], none⟩,
 ⟨(some 10), .alloc .dyn (.agg [.nilsl, .nilsl, .nilsl, (.int .i64 0), .nilsl, (.int .i64 0), .nilsl, .nilsl, .nilsl]), [], none⟩,
 ⟨none, .store 9 (.t 10) (.t 44), [7, 5, 3, 0, 1, 2, 3, 4, 5, 7], none⟩,
 ⟨(some 11), .mov (.t 45), [6, 8, 0, 1, 2, 3, 4, 5, 6, 7, 8], none⟩] [] [40, 41, 42, 43, 39, 44, 45])
 (.seq (.region [⟨(some 47), .load (some 4) (.t 3), [], none⟩,
 ⟨(some 48), .call .pure (.f 29) [(.t 47)], [0], none⟩,
 ⟨(some 46), .mov (.t 48), [1], none⟩,
 ⟨(some 49), .extract 0 (.t 46), [2], none⟩,
 ⟨(some 50), .extract 1 (.t 46), [2], none⟩,
 ⟨(some 12), .alloc .dyn (.agg [.nilsl, (.int .i64 0), .nilsl, .nilsl]), [], none⟩,
 ⟨none, .store 4 (.t 12) (.t 49), [5, 3, 1, 0, 1, 2, 3, 5], none⟩,
 ⟨(some 13), .mov (.t 50), [4, 6, 0, 1, 2, 3, 4, 5, 6], none⟩] [] [3, 47, 48, 46, 49, 50])
 (.seq (.seq (.region [⟨(some 51), .mov (.t 7), [], none⟩,
 ⟨(some 52), .bin .neq (.t 51) (.c (.int .i64 0)), [0], none⟩,
 ⟨(some 53), .mov (.t 52), [1], none⟩,
 ⟨(some 54), .mov (.t 9), [2], (some (53, false))⟩,
 ⟨(some 55), .bin .neq (.t 54) (.c (.int .i64 0)), [3, 2], (some (53, false))⟩,
 ⟨(some 56), .pick (.t 53) (.c (.bool true)) (.t 55), [2, 4], none⟩,
 ⟨(some 57), .mov (.t 56), [5, 2], none⟩,
 ⟨(some 58), .mov (.t 11), [6], (some (57, false))⟩,
 ⟨(some 59), .bin .neq (.t 58) (.c (.int .i64 0)), [7, 6], (some (57, false))⟩,
 ⟨(some 60), .pick (.t 57) (.c (.bool true)) (.t 59), [6, 8], none⟩,
 ⟨(some 61), .mov (.t 60), [9, 6], none⟩,
 ⟨(some 62), .mov (.t 13), [10], (some (61, false))⟩,
 ⟨(some 63), .bin .neq (.t 62) (.c (.int .i64 0)), [11, 10], (some (61, false))⟩,
 ⟨(some 64), .pick (.t 61) (.c (.bool true)) (.t 63), [10, 12], none⟩,
 ⟨(some 65), .mov (.t 64), [13, 10], none⟩,
 ⟨(some 66), .faddr 4 (.t 8), [14], (some (65, false))⟩,
 ⟨(some 67), .load (some 4) (.t 66), [15, 14], (some (65, false))⟩,
 ⟨(some 68), .faddr 4 (.t 6), [14], (some (65, false))⟩,
 ⟨(some 69), .load (some 4) (.t 68), [17, 14], (some (65, false))⟩,
 ⟨(some 70), .call .pure (.f 30) [(.t 67), (.t 69)], [16, 18, 14, 14], (some (65, false))⟩,
 ⟨(some 71), .un .not (.t 70), [19, 14], (some (65, false))⟩,
 ⟨(some 72), .pick (.t 65) (.c (.bool true)) (.t 71), [14, 20], none⟩,
 ⟨(some 73), .mov (.t 72), [21, 19], none⟩,
 ⟨(some 74), .faddr 3 (.t 8), [22], (some (73, false))⟩,
 ⟨(some 75), .load none (.t 74), [23, 22], (some (73, false))⟩,
 ⟨(some 76), .bin .neq (.t 75) (.c (.int .i64 0)), [24, 22], (some (73, false))⟩,
 ⟨(some 77), .pick (.t 73) (.c (.bool true)) (.t 76), [22, 25], none⟩,
 ⟨(some 78), .mov (.t 77), [26, 22], none⟩,
 ⟨(some 79), .faddr 8 (.t 8), [27], (some (78, false))⟩,
 ⟨(some 80), .load none (.t 79), [28, 27], (some (78, false))⟩,
 ⟨(some 81), .len 1 (.t 80), [29, 27], (some (78, false))⟩,
 ⟨(some 82), .faddr 4 (.t 6), [27], (some (78, false))⟩,
 ⟨(some 83), .faddr 1 (.t 82), [31, 27], (some (78, false))⟩,
 ⟨(some 84), .load none (.t 83), [32, 27], (some (78, false))⟩,
 ⟨(some 85), .bin .neq (.t 81) (.t 84), [30, 33, 27], (some (78, false))⟩,
 ⟨(some 86), .pick (.t 78) (.c (.bool true)) (.t 85), [27, 34], none⟩] [] [7, 8, 9, 11, 13, 51, 52, 53, 54, 55, 56, 57, 58, 59, 60, 61, 62, 63, 64, 65, 66, 67, 68, 69, 70, 71, 72, 73, 74, 75, 76, 77, 78, 79, 80, 81, 82, 83, 84, 85])
 (.cond (.t 86)
 (.seq (.region [⟨(some 2), .mov (.c (.bool false)), [], none⟩] [] [4, 5, 6, 10, 12, 86])
 .ret)
 .skip))
 (.seq (.seq (.region [⟨(some 14), .mov (.c (.int .i64 0)), [], none⟩] [] [2, 86])
 (.block 0 (.loop (.seq (.seq (.region [⟨(some 87), .mov (.t 14), [], none⟩,
 ⟨(some 88), .faddr 0 (.t 6), [], none⟩,
 ⟨(some 89), .faddr 0 (.t 88), [1], none⟩,
 ⟨(some 90), .load none (.t 89), [2], none⟩,
 ⟨(some 91), .len 1 (.t 90), [3], none⟩,
 ⟨(some 92), .bin .lss (.t 87) (.t 91), [0, 4], none⟩] [] [87, 88, 89, 90, 91])
 (.cond (.t 92)
 .skip
 (.exit 0)))
 (.seq (.block 1 (.seq (.region [⟨(some 95), .faddr 0 (.t 10), [], none⟩,
 ⟨(some 96), .faddr 0 (.t 95), [0], none⟩,
 ⟨(some 97), .load none (.t 96), [1], none⟩,
 ⟨(some 98), .faddr 0 (.t 6), [], none⟩,
 ⟨(some 99), .faddr 0 (.t 98), [3], none⟩,
 ⟨(some 100), .load none (.t 99), [4], none⟩,
 ⟨(some 101), .mov (.t 14), [], none⟩,
 ⟨(some 102), .iaddr none 1 (.t 100) (.t 101), [5, 6], none⟩,
 ⟨(some 103), .load none (.t 102), [7], none⟩,
 ⟨(some 104), .call .pure (.f 15) [(.t 97), (.t 103)], [2, 8], none⟩,
 ⟨(some 105), .un .not (.t 104), [9], none⟩] [] [92, 95, 96, 97, 98, 99, 100, 101, 102, 103, 104])
 (.cond (.t 105)
 (.seq (.region [⟨(some 2), .mov (.c (.bool false)), [], none⟩] [] [4, 5, 6, 10, 12, 14, 120, 116, 119, 118, 117, 105])
 .ret)
 .skip)))
 (.region [⟨(some 93), .mov (.t 14), [], none⟩,
 ⟨(some 94), .bin .add (.t 93) (.c (.int .i64 1)), [0], none⟩,
 ⟨(some 14), .mov (.t 94), [1, 0, 1], none⟩] [] [2, 105, 93, 94]))))))
 (.seq (.region [⟨(some 107), .load (some 4) (.t 12), [], none⟩,
 ⟨(some 108), .mov (.t 4), [], none⟩,
 ⟨(some 109), .mov (.t 5), [], none⟩,
 ⟨(some 110), .call .pure (.f 11) [(.t 107), (.t 108), (.t 109)], [0, 1, 2], none⟩,
 ⟨(some 106), .mov (.t 110), [3], none⟩,
 ⟨(some 111), .extract 0 (.t 106), [4], none⟩,
 ⟨(some 112), .extract 1 (.t 106), [4], none⟩,
 ⟨(some 15), .mov (.t 111), [5, 3, 0, 1, 2, 3, 4, 5], none⟩,
 ⟨(some 16), .mov (.t 112), [6, 7, 0, 1, 2, 3, 4, 5, 6, 7], none⟩] [] [4, 5, 6, 12, 14, 107, 108, 109, 110, 106, 111, 112])
 (.seq (.region [⟨(some 113), .mov (.t 16), [], none⟩,
 ⟨(some 114), .bin .eql (.t 113) (.c (.int .i64 0)), [0], none⟩,
 ⟨(some 115), .mov (.t 114), [1], none⟩,
 ⟨(some 116), .mov (.t 15), [2], (some (115, true))⟩,
 ⟨(some 117), .faddr 0 (.t 10), [2], (some (115, true))⟩,
 ⟨(some 118), .faddr 0 (.t 117), [4, 2], (some (115, true))⟩,
 ⟨(some 119), .load none (.t 118), [5, 2], (some (115, true))⟩,
 ⟨(some 120), .call .pure (.f 14) [(.t 116), (.t 119)], [3, 6, 2, 2], (some (115, true))⟩,
 ⟨(some 121), .pick (.t 115) (.t 120) (.c (.bool false)), [2, 7], none⟩,
 ⟨(some 2), .mov (.t 121), [8, 7, 0, 1, 2, 3, 4, 5, 6, 7, 8], none⟩] [] [10, 120, 116, 119, 118, 117, 15, 16, 113, 114, 115, 121])
 .ret)))))))))))⟩
def s10 : SFn := ⟨21, [.cell 2 (some 4), .tmp 3, .tmp 4],
 (.seq (.region [⟨(some 1), .box .dyn (.t 0), [], none⟩,
 ⟨(some 2), .alloc .dyn (.agg [.nilsl, (.int .i64 0), .nilsl, .nilsl]), [], none⟩,
 ⟨(some 3), .mov (.c .nilsl), [], none⟩,
 ⟨(some 4), .mov (.c .nilsl), [2], none⟩] [] [0, 3, 4])
 (.seq (.region [⟨(some 6), .faddr 0 (.t 1), [], none⟩,
 ⟨(some 7), .load none (.t 6), [0], none⟩,
 ⟨(some 8), .call .pure (.f 16) [(.t 7)], [1], none⟩,
 ⟨(some 9), .faddr 1 (.t 1), [], none⟩,
 ⟨(some 10), .load (some 27) (.t 9), [3], none⟩,
 ⟨(some 11), .call .pure (.f 32) [(.t 8), (.t 10)], [2, 4, 2], none⟩,
 ⟨(some 5), .alloc .dyn (.agg [.nilsl, (.int .i64 0), .nilsl, .nilsl]), [], none⟩,
 ⟨none, .store 4 (.t 5) (.t 11), [6, 5, 5, 0, 1, 2, 3, 4, 5, 6], none⟩] [(2, 6), (5, 6)] [6, 7, 8, 9, 10, 11])
 (.seq (.region [⟨(some 12), .load (some 4) (.t 5), [], none⟩,
 ⟨(some 13), .faddr 1 (.t 5), [], none⟩,
 ⟨(some 14), .load none (.t 13), [1], none⟩,
 ⟨(some 15), .faddr 28 (.t 1), [], none⟩,
 ⟨(some 16), .load none (.t 15), [3], none⟩,
 ⟨(some 17), .call .pure (.f 12) [(.t 14), (.t 16)], [2, 4], none⟩,
 ⟨(some 18), .faddr 29 (.t 1), [], none⟩,
 ⟨(some 19), .load none (.t 18), [6], none⟩,
 ⟨(some 20), .call .pure (.f 16) [(.t 19)], [7, 5], none⟩,
 ⟨none, .store 4 (.t 2) (.t 12), [0, 8, 0], none⟩,
 ⟨(some 3), .mov (.t 17), [5, 9, 0, 1, 2, 3, 4, 5, 9], none⟩,
 ⟨(some 4), .mov (.t 20), [8, 10, 0, 1, 2, 3, 4, 5, 6, 7, 8, 9, 10], none⟩] [] [1, 5, 12, 13, 14, 15, 16, 17, 18, 19, 20])
 .ret)))⟩
def s11 : SFn := ⟨21, [.tmp 6, .tmp 7],
 (.seq (.region [⟨(some 3), .box .dyn (.t 0), [], none⟩,
 ⟨(some 6), .mov (.c .nilsl), [], none⟩,
 ⟨(some 7), .mov (.c (.int .i64 0)), [1], none⟩] [] [0, 6, 7])
 (.seq (.region [⟨(some 11), .load (some 4) (.t 3), [], none⟩,
 ⟨(some 12), .mov (.t 1), [], none⟩,
 ⟨(some 13), .mov (.t 2), [], none⟩,
 ⟨(some 14), .call .pure (.f 23) [(.t 11), (.t 12), (.t 13)], [0, 1, 2], none⟩,
 ⟨(some 10), .mov (.t 14), [3], none⟩,
 ⟨(some 15), .extract 0 (.t 10), [4], none⟩,
 ⟨(some 16), .extract 1 (.t 10), [4], none⟩,
 ⟨(some 8), .alloc .dyn (.agg [.nilsl, .nilsl, .nilsl, (.int .i64 0), .nilsl, (.int .i64 0), .nilsl, .nilsl, .nilsl]), [], none⟩,
 ⟨none, .store 9 (.t 8) (.t 15), [7, 5, 3, 0, 1, 2, 3, 4, 5, 7], none⟩,
 ⟨(some 9), .mov (.t 16), [6, 8, 0, 1, 2, 3, 4, 5, 6, 7, 8], none⟩] [] [1, 2, 3, 11, 12, 13, 14, 10, 15, 16])
 (.seq (.region [⟨(some 17), .faddr 0 (.t 8), [], none⟩,
 ⟨(some 18), .faddr 0 (.t 17), [0], none⟩,
 ⟨(some 19), .load none (.t 18), [1], none⟩,
 ⟨(some 20), .mov (.t 9), [], none⟩,
 ⟨(some 6), .mov (.t 19), [2, 0, 1, 2], none⟩,
 ⟨(some 7), .mov (.t 20), [3, 4, 0, 1, 2, 3, 4], none⟩] [] [8, 9, 17, 18, 19, 20])
 .ret)))⟩
def s12 : SFn := ⟨26, [.tmp 4],
 (.seq (.region [⟨(some 4), .mov (.c .nilsl), [], none⟩] [] [4])
 (.seq (.region [⟨(some 5), .mov (.c .nilsl), [], none⟩] [] [])
 (.seq (.seq (.region [⟨(some 6), .mov (.c (.int .i64 0)), [], none⟩] [] [])
 (.block 0 (.loop (.seq (.seq (.region [⟨(some 7), .mov (.t 6), [], none⟩,
 ⟨(some 8), .mov (.t 0), [], none⟩,
 ⟨(some 9), .bin .lss (.t 7) (.t 8), [0, 1], none⟩,
 ⟨(some 10), .mov (.t 9), [2], none⟩,
 ⟨(some 11), .mov (.t 6), [3], (some (10, true))⟩,
 ⟨(some 12), .bin .lss (.t 11) (.c (.int .i64 32)), [4, 3], (some (10, true))⟩,
 ⟨(some 13), .pick (.t 10) (.t 12) (.c (.bool false)), [3, 5], none⟩] [] [7, 8, 9, 10])
 (.cond (.t 13)
 .skip
 (.exit 0)))
 (.seq (.block 1 (.seq (.region [⟨(some 16), .mov (.t 1), [], none⟩,
 ⟨(some 17), .mov (.t 6), [], none⟩,
 ⟨(some 18), .bin .shr (.t 16) (.t 17), [0, 1], none⟩,
 ⟨(some 19), .bin .and (.t 18) (.c (.int .u32 1)), [2], none⟩,
 ⟨(some 20), .bin .eql (.t 19) (.c (.int .u32 1)), [3], none⟩] [] [13, 16, 17, 18, 19])
 (.cond (.t 20)
 (.region [⟨(some 21), .mov (.t 5), [], none⟩,
 ⟨(some 22), .mov (.t 6), [], none⟩,
 ⟨(some 23), .bslice false .dyn 1 1 [(.int .i64 0)] [(0, 1, (.t 22))], [1], none⟩,
 ⟨(some 24), .append .dyn 1 8 (.t 21) (.t 23), [0, 2], none⟩,
 ⟨(some 5), .mov (.t 24), [3, 3, 0, 1, 2, 3], none⟩] [] [20, 21, 22, 23, 24])
 .skip)))
 (.region [⟨(some 14), .mov (.t 6), [], none⟩,
 ⟨(some 15), .bin .add (.t 14) (.c (.int .i64 1)), [0], none⟩,
 ⟨(some 6), .mov (.t 15), [1, 0, 1], none⟩] [] [20, 14, 15]))))))
 (.seq (.region [⟨(some 25), .mov (.t 5), [], none⟩,
 ⟨(some 4), .mov (.t 25), [0, 0], none⟩] [] [0, 1, 5, 6, 12, 11, 25])
 .ret))))⟩
def s14 : SFn := ⟨26, [.tmp 4],
 (.seq (.region [⟨(some 4), .mov (.c (.bool false)), [], none⟩] [] [4])
 (.seq (.seq (.region [⟨(some 6), .mov (.t 0), [], none⟩,
 ⟨(some 7), .len 1 (.t 6), [0], none⟩,
 ⟨(some 8), .mov (.t 1), [], none⟩,
 ⟨(some 9), .len 1 (.t 8), [2], none⟩,
 ⟨(some 10), .bin .neq (.t 7) (.t 9), [1, 3], none⟩] [] [6, 7, 8, 9])
 (.cond (.t 10)
 (.seq (.region [⟨(some 4), .mov (.c (.bool false)), [], none⟩] [] [0, 1, 10])
 .ret)
 .skip))
 (.seq (.seq (.region [⟨(some 5), .mov (.c (.int .i64 0)), [], none⟩] [] [4, 10])
 (.block 0 (.loop (.seq (.seq (.region [⟨(some 11), .mov (.t 5), [], none⟩,
 ⟨(some 12), .mov (.t 0), [], none⟩,
 ⟨(some 13), .len 1 (.t 12), [1], none⟩,
 ⟨(some 14), .bin .lss (.t 11) (.t 13), [0, 2], none⟩] [] [11, 12, 13])
 (.cond (.t 14)
 .skip
 (.exit 0)))
 (.seq (.block 1 (.seq (.region [⟨(some 17), .mov (.t 0), [], none⟩,
 ⟨(some 18), .mov (.t 5), [], none⟩,
 ⟨(some 19), .iaddr none 1 (.t 17) (.t 18), [0, 1], none⟩,
 ⟨(some 20), .load none (.t 19), [2], none⟩,
 ⟨(some 21), .mov (.t 1), [], none⟩,
 ⟨(some 22), .mov (.t 5), [], none⟩,
 ⟨(some 23), .iaddr none 1 (.t 21) (.t 22), [4, 5], none⟩,
 ⟨(some 24), .load none (.t 23), [6], none⟩,
 ⟨(some 25), .bin .neq (.t 20) (.t 24), [3, 7], none⟩] [] [14, 17, 18, 19, 20, 21, 22, 23, 24])
 (.cond (.t 25)
 (.seq (.region [⟨(some 4), .mov (.c (.bool false)), [], none⟩] [] [0, 1, 5, 25])
 .ret)
 .skip)))
 (.region [⟨(some 15), .mov (.t 5), [], none⟩,
 ⟨(some 16), .bin .add (.t 15) (.c (.int .i64 1)), [0], none⟩,
 ⟨(some 5), .mov (.t 16), [1, 0, 1], none⟩] [] [4, 25, 15, 16]))))))
 (.seq (.region [⟨(some 4), .mov (.c (.bool true)), [], none⟩] [] [0, 1, 5])
 .ret))))⟩
def s15 : SFn := ⟨18, [.tmp 4],
 (.seq (.region [⟨(some 4), .mov (.c (.bool false)), [], none⟩] [] [4])
 (.seq (.seq (.region [⟨(some 5), .mov (.c (.int .i64 0)), [], none⟩] [] [])
 (.block 0 (.loop (.seq (.seq (.region [⟨(some 6), .mov (.t 5), [], none⟩,
 ⟨(some 7), .mov (.t 0), [], none⟩,
 ⟨(some 8), .len 1 (.t 7), [1], none⟩,
 ⟨(some 9), .bin .lss (.t 6) (.t 8), [0, 2], none⟩] [] [6, 7, 8])
 (.cond (.t 9)
 .skip
 (.exit 0)))
 (.seq (.block 1 (.seq (.region [⟨(some 12), .mov (.t 0), [], none⟩,
 ⟨(some 13), .mov (.t 5), [], none⟩,
 ⟨(some 14), .iaddr none 1 (.t 12) (.t 13), [0, 1], none⟩,
 ⟨(some 15), .load none (.t 14), [2], none⟩,
 ⟨(some 16), .mov (.t 1), [], none⟩,
 ⟨(some 17), .bin .eql (.t 15) (.t 16), [3, 4], none⟩] [] [9, 12, 13, 14, 15, 16])
 (.cond (.t 17)
 (.seq (.region [⟨(some 4), .mov (.c (.bool true)), [], none⟩] [] [0, 1, 5, 17])
 .ret)
 .skip)))
 (.region [⟨(some 10), .mov (.t 5), [], none⟩,
 ⟨(some 11), .bin .add (.t 10) (.c (.int .i64 1)), [0], none⟩,
 ⟨(some 5), .mov (.t 11), [1, 0, 1], none⟩] [] [4, 17, 10, 11]))))))
 (.seq (.region [⟨(some 4), .mov (.c (.bool false)), [], none⟩] [] [0, 1, 5])
 .ret)))⟩
def s16 : SFn := ⟨19, [.tmp 2],
 (.seq (.region [⟨(some 2), .mov (.c .nilsl), [], none⟩] [] [2])
 (.seq (.region [⟨(some 3), .mov (.c .nilsl), [], none⟩] [] [])
 (.seq (.seq (.region [⟨(some 4), .mov (.c (.int .i64 0)), [], none⟩] [] [])
 (.block 0 (.loop (.seq (.seq (.region [⟨(some 5), .mov (.t 4), [], none⟩,
 ⟨(some 6), .bin .lss (.t 5) (.c (.int .i64 5)), [0], none⟩] [] [5])
 (.cond (.t 6)
 .skip
 (.exit 0)))
 (.seq (.block 1 (.seq (.region [⟨(some 9), .mov (.t 0), [], none⟩,
 ⟨(some 10), .mov (.t 4), [], none⟩,
 ⟨(some 11), .bin .shr (.t 9) (.t 10), [0, 1], none⟩,
 ⟨(some 12), .bin .and (.t 11) (.c (.int .u8 1)), [2], none⟩,
 ⟨(some 13), .bin .eql (.t 12) (.c (.int .u8 1)), [3], none⟩] [] [6, 9, 10, 11, 12])
 (.cond (.t 13)
 (.region [⟨(some 14), .mov (.t 3), [], none⟩,
 ⟨(some 15), .mov (.t 4), [], none⟩,
 ⟨(some 16), .bslice false .dyn 1 1 [(.int .i64 0)] [(0, 1, (.t 15))], [1], none⟩,
 ⟨(some 17), .append .dyn 1 8 (.t 14) (.t 16), [0, 2], none⟩,
 ⟨(some 3), .mov (.t 17), [3, 3, 0, 1, 2, 3], none⟩] [] [13, 14, 15, 16, 17])
 .skip)))
 (.region [⟨(some 7), .mov (.t 4), [], none⟩,
 ⟨(some 8), .bin .add (.t 7) (.c (.int .i64 1)), [0], none⟩,
 ⟨(some 4), .mov (.t 8), [1, 0, 1], none⟩] [] [13, 7, 8]))))))
 (.seq (.region [⟨(some 18), .mov (.t 3), [], none⟩,
 ⟨(some 2), .mov (.t 18), [0, 0], none⟩] [] [0, 3, 4, 18])
 .ret))))⟩
def s18 : SFn := ⟨26, [.tmp 4],
 (.seq (.region [⟨(some 4), .mov (.c (.bool false)), [], none⟩] [] [4])
 (.seq (.seq (.region [⟨(some 6), .mov (.t 0), [], none⟩,
 ⟨(some 7), .len 1 (.t 6), [0], none⟩,
 ⟨(some 8), .mov (.t 1), [], none⟩,
 ⟨(some 9), .len 1 (.t 8), [2], none⟩,
 ⟨(some 10), .bin .neq (.t 7) (.t 9), [1, 3], none⟩] [] [6, 7, 8, 9])
 (.cond (.t 10)
 (.seq (.region [⟨(some 4), .mov (.c (.bool false)), [], none⟩] [] [0, 1, 10])
 .ret)
 .skip))
 (.seq (.seq (.region [⟨(some 5), .mov (.c (.int .i64 0)), [], none⟩] [] [4, 10])
 (.block 0 (.loop (.seq (.seq (.region [⟨(some 11), .mov (.t 5), [], none⟩,
 ⟨(some 12), .mov (.t 0), [], none⟩,
 ⟨(some 13), .len 1 (.t 12), [1], none⟩,
 ⟨(some 14), .bin .lss (.t 11) (.t 13), [0, 2], none⟩] [] [11, 12, 13])
 (.cond (.t 14)
 .skip
 (.exit 0)))
 (.seq (.block 1 (.seq (.region [⟨(some 17), .mov (.t 0), [], none⟩,
 ⟨(some 18), .mov (.t 5), [], none⟩,
 ⟨(some 19), .iaddr none 4 (.t 17) (.t 18), [0, 1], none⟩,
 ⟨(some 20), .load (some 4) (.t 19), [2], none⟩,
 ⟨(some 21), .mov (.t 1), [], none⟩,
 ⟨(some 22), .mov (.t 5), [], none⟩,
 ⟨(some 23), .iaddr none 4 (.t 21) (.t 22), [4, 5], none⟩,
 ⟨(some 24), .load (some 4) (.t 23), [6], none⟩,
 ⟨(some 25), .eq (.flat true [.i, .i, .i, .i]) true (.t 20) (.t 24), [3, 7], none⟩] [] [14, 17, 18, 19, 20, 21, 22, 23, 24])
 (.cond (.t 25)
 (.seq (.region [⟨(some 4), .mov (.c (.bool false)), [], none⟩] [] [0, 1, 5, 25])
 .ret)
 .skip)))
 (.region [⟨(some 15), .mov (.t 5), [], none⟩,
 ⟨(some 16), .bin .add (.t 15) (.c (.int .i64 1)), [0], none⟩,
 ⟨(some 5), .mov (.t 16), [1, 0, 1], none⟩] [] [4, 25, 15, 16]))))))
 (.seq (.region [⟨(some 4), .mov (.c (.bool true)), [], none⟩] [] [0, 1, 5])
 .ret))))⟩
def s22 : SFn := ⟨23, [.tmp 6],
 (.seq (.region [⟨(some 3), .box .dyn (.t 0), [], none⟩,
 ⟨(some 6), .mov (.c (.int .i64 0)), [], none⟩] [] [0, 6])
 (.seq (.seq (.region [⟨(some 9), .load (some 4) (.t 3), [], none⟩,
 ⟨(some 10), .call .pure (.f 37) [(.t 9)], [0], none⟩,
 ⟨(some 7), .mov (.t 10), [1, 1, 0, 1], none⟩] [] [9, 10])
 (.seq (.region [⟨(some 11), .mov (.t 7), [], none⟩,
 ⟨(some 12), .bin .neq (.t 11) (.c (.int .i64 0)), [0], none⟩] [] [11])
 (.cond (.t 12)
 (.seq (.region [⟨(some 13), .mov (.t 7), [], none⟩,
 ⟨(some 6), .mov (.t 13), [0, 0], none⟩] [] [1, 2, 3, 7, 12, 13])
 .ret)
 .skip)))
 (.seq (.seq (.region [⟨(some 14), .mov (.t 1), [], none⟩,
 ⟨(some 15), .faddr 1 (.t 3), [], none⟩,
 ⟨(some 16), .load none (.t 15), [1], none⟩,
 ⟨(some 17), .call .pure (.f 38) [(.t 14), (.t 16)], [0, 2], none⟩,
 ⟨(some 8), .mov (.t 17), [3, 3, 0, 1, 2, 3], none⟩] [] [6, 1, 3, 7, 12, 14, 15, 16, 17])
 (.seq (.region [⟨(some 18), .mov (.t 8), [], none⟩,
 ⟨(some 19), .bin .neq (.t 18) (.c (.int .i64 0)), [0], none⟩] [] [18])
 (.cond (.t 19)
 (.seq (.region [⟨(some 20), .mov (.t 8), [], none⟩,
 ⟨(some 6), .mov (.t 20), [0, 0], none⟩] [] [2, 8, 19, 20])
 .ret)
 .skip)))
 (.seq (.region [⟨(some 21), .mov (.t 2), [], none⟩,
 ⟨(some 22), .call .pure (.f 38) [(.t 21), (.c (.int .i64 32))], [0], none⟩,
 ⟨(some 6), .mov (.t 22), [1, 1, 0, 1], none⟩] [] [2, 8, 19, 21, 22])
 .ret))))⟩
def s23 : SFn := ⟨21, [.cell 6 (some 9), .tmp 7],
 (.seq (.region [⟨(some 3), .box .dyn (.t 0), [], none⟩,
 ⟨(some 6), .alloc .dyn (.agg [.nilsl, .nilsl, .nilsl, (.int .i64 0), .nilsl, (.int .i64 0), .nilsl, .nilsl, .nilsl]), [], none⟩,
 ⟨(some 7), .mov (.c (.int .i64 0)), [], none⟩] [] [0, 7])
 (.seq (.seq (.region [⟨(some 9), .load (some 4) (.t 3), [], none⟩,
 ⟨(some 10), .mov (.t 1), [], none⟩,
 ⟨(some 11), .mov (.t 2), [], none⟩,
 ⟨(some 12), .call .pure (.f 22) [(.t 9), (.t 10), (.t 11)], [0, 1, 2], none⟩,
 ⟨(some 8), .mov (.t 12), [3, 3, 0, 1, 2, 3], none⟩] [] [9, 10, 11, 12])
 (.seq (.region [⟨(some 13), .mov (.t 8), [], none⟩,
 ⟨(some 14), .bin .neq (.t 13) (.c (.int .i64 0)), [0], none⟩] [] [13])
 (.cond (.t 14)
 (.seq (.region [⟨(some 15), .build [.nilsl, .nilsl, .nilsl, (.int .i64 0), .nilsl, (.int .i64 0), .nilsl, .nilsl, .nilsl] [], [], none⟩,
 ⟨(some 16), .mov (.t 8), [], none⟩,
 ⟨none, .store 9 (.t 6) (.t 15), [0, 0], none⟩,
 ⟨(some 7), .mov (.t 16), [1, 2, 0, 1, 2], none⟩] [] [1, 2, 3, 8, 14, 15, 16])
 .ret)
 .skip)))
 (.seq (.region [⟨(some 17), .load (some 4) (.t 3), [], none⟩,
 ⟨(some 18), .mov (.t 1), [], none⟩,
 ⟨(some 19), .mov (.t 2), [], none⟩,
 ⟨(some 20), .call .pure (.f 39) [(.t 17), (.t 18), (.t 19), (.c (.bool true))], [0, 1, 2], none⟩,
 ⟨none, .store 9 (.t 6) (.t 20), [3, 3, 0, 1, 2, 3], none⟩,
 ⟨(some 7), .mov (.c (.int .i64 0)), [4, 0, 1, 2, 3, 4], none⟩] [] [1, 2, 3, 8, 14, 17, 18, 19, 20])
 .ret)))⟩
def s24 : SFn := ⟨21, [.cell 6 (some 9), .tmp 7],
 (.seq (.region [⟨(some 3), .box .dyn (.t 0), [], none⟩,
 ⟨(some 6), .alloc .dyn (.agg [.nilsl, .nilsl, .nilsl, (.int .i64 0), .nilsl, (.int .i64 0), .nilsl, .nilsl, .nilsl]), [], none⟩,
 ⟨(some 7), .mov (.c (.int .i64 0)), [], none⟩] [] [0, 7])
 (.seq (.seq (.region [⟨(some 9), .load (some 4) (.t 3), [], none⟩,
 ⟨(some 10), .mov (.t 1), [], none⟩,
 ⟨(some 11), .mov (.t 2), [], none⟩,
 ⟨(some 12), .call .pure (.f 22) [(.t 9), (.t 10), (.t 11)], [0, 1, 2], none⟩,
 ⟨(some 8), .mov (.t 12), [3, 3, 0, 1, 2, 3], none⟩] [] [9, 10, 11, 12])
 (.seq (.region [⟨(some 13), .mov (.t 8), [], none⟩,
 ⟨(some 14), .bin .neq (.t 13) (.c (.int .i64 0)), [0], none⟩] [] [13])
 (.cond (.t 14)
 (.seq (.region [⟨(some 15), .build [.nilsl, .nilsl, .nilsl, (.int .i64 0), .nilsl, (.int .i64 0), .nilsl, .nilsl, .nilsl] [], [], none⟩,
 ⟨(some 16), .mov (.t 8), [], none⟩,
 ⟨none, .store 9 (.t 6) (.t 15), [0, 0], none⟩,
 ⟨(some 7), .mov (.t 16), [1, 2, 0, 1, 2], none⟩] [] [1, 2, 3, 8, 14, 15, 16])
 .ret)
 .skip)))
 (.seq (.region [⟨(some 17), .load (some 4) (.t 3), [], none⟩,
 ⟨(some 18), .mov (.t 1), [], none⟩,
 ⟨(some 19), .mov (.t 2), [], none⟩,
 ⟨(some 20), .call .pure (.f 39) [(.t 17), (.t 18), (.t 19), (.c (.bool false))], [0, 1, 2], none⟩,
 ⟨none, .store 9 (.t 6) (.t 20), [3, 3, 0, 1, 2, 3], none⟩,
 ⟨(some 7), .mov (.c (.int .i64 0)), [4, 0, 1, 2, 3, 4], none⟩] [] [1, 2, 3, 8, 14, 17, 18, 19, 20])
 .ret)))⟩
def s29 : SFn := ⟨29, [.cell 2 (some 4), .tmp 3],
 (.seq (.region [⟨(some 1), .box .dyn (.t 0), [], none⟩,
 ⟨(some 2), .alloc .dyn (.agg [.nilsl, (.int .i64 0), .nilsl, .nilsl]), [], none⟩,
 ⟨(some 3), .mov (.c (.int .i64 0)), [], none⟩] [] [0, 3])
 (.seq (.seq (.region [⟨(some 7), .load (some 4) (.t 1), [], none⟩,
 ⟨(some 8), .call .pure (.f 37) [(.t 7)], [0], none⟩,
 ⟨(some 4), .mov (.t 8), [1, 1, 0, 1], none⟩] [] [7, 8])
 (.seq (.region [⟨(some 9), .mov (.t 4), [], none⟩,
 ⟨(some 10), .bin .neq (.t 9) (.c (.int .i64 0)), [0], none⟩] [] [9])
 (.cond (.t 10)
 (.seq (.region [⟨(some 11), .build [.nilsl, (.int .i64 0), .nilsl, .nilsl] [], [], none⟩,
 ⟨(some 12), .mov (.t 4), [], none⟩,
 ⟨none, .store 4 (.t 2) (.t 11), [0, 0], none⟩,
 ⟨(some 3), .mov (.t 12), [1, 2, 0, 1, 2], none⟩] [] [1, 4, 10, 11, 12])
 .ret)
 .skip)))
 (.seq (.region [⟨(some 13), .load (some 4) (.t 1), [], none⟩,
 ⟨(some 14), .call .pure (.f 44) [(.t 13)], [0], none⟩,
 ⟨(some 5), .alloc .dyn (.agg [.nilsl, (.int .i64 0), .nilsl, .nilsl]), [], none⟩,
 ⟨none, .store 4 (.t 5) (.t 14), [2, 1, 1, 0, 1, 2], none⟩] [] [3, 1, 4, 10, 13, 14])
 (.seq (.region [⟨(some 15), .faddr 2 (.t 5), [], none⟩,
 ⟨none, .store 1 (.t 15) (.c .nilsl), [0], none⟩] [] [15])
 (.seq (.seq (.region [⟨(some 16), .faddr 1 (.t 5), [], none⟩,
 ⟨(some 17), .load none (.t 16), [0], none⟩,
 ⟨(some 18), .mov (.c (.int .i64 0)), [], none⟩] [] [16])
 (.block 0 (.loop (.seq (.region [⟨(some 19), .bin .lss (.t 18) (.t 17), [], none⟩] [] [])
 (.seq (.cond (.t 19)
 .skip
 (.exit 0))
 (.seq (.block 1 (.seq (.region [⟨(some 20), .mov (.t 18), [], none⟩,
 ⟨(some 6), .mov (.t 20), [0, 0], none⟩] [] [19, 20])
 (.region [⟨(some 21), .faddr 2 (.t 5), [], none⟩,
 ⟨(some 22), .load none (.t 21), [0], none⟩,
 ⟨(some 23), .mov (.t 6), [], none⟩,
 ⟨(some 24), .bslice false .dyn 1 1 [(.int .i64 0)] [(0, 1, (.t 23))], [2], none⟩,
 ⟨(some 25), .append .dyn 1 8 (.t 22) (.t 24), [1, 3], none⟩,
 ⟨(some 26), .faddr 2 (.t 5), [0, 1, 2, 3, 4], none⟩,
 ⟨none, .store 1 (.t 26) (.t 25), [5, 4, 4, 0, 1, 2, 3, 4], none⟩] [] [6, 21, 22, 23, 24, 25, 26])))
 (.region [⟨(some 27), .bin .add (.t 18) (.c (.int .i64 1)), [], none⟩,
 ⟨(some 18), .mov (.t 27), [0], none⟩] [] [27])))))))
 (.seq (.region [⟨(some 28), .load (some 4) (.t 5), [], none⟩,
 ⟨none, .store 4 (.t 2) (.t 28), [0, 0], none⟩,
 ⟨(some 3), .mov (.c (.int .i64 0)), [1, 0, 1], none⟩] [] [5, 17, 18, 28])
 .ret))))))⟩
def s30 : SFn := ⟨54, [.tmp 4],
 (.seq (.region [⟨(some 2), .box .dyn (.t 0), [], none⟩,
 ⟨(some 3), .box .dyn (.t 1), [], none⟩,
 ⟨(some 4), .mov (.c (.bool false)), [], none⟩] [] [0, 1, 4])
 (.seq (.seq (.region [⟨(some 6), .faddr 0 (.t 2), [], none⟩,
 ⟨(some 7), .load none (.t 6), [0], none⟩,
 ⟨(some 8), .faddr 0 (.t 3), [], none⟩,
 ⟨(some 9), .load none (.t 8), [2], none⟩,
 ⟨(some 10), .call .pure (.f 14) [(.t 7), (.t 9)], [1, 3], none⟩,
 ⟨(some 11), .un .not (.t 10), [4], none⟩,
 ⟨(some 12), .mov (.t 11), [5, 4], none⟩,
 ⟨(some 13), .faddr 1 (.t 2), [6], (some (12, false))⟩,
 ⟨(some 14), .load none (.t 13), [7, 6], (some (12, false))⟩,
 ⟨(some 15), .faddr 1 (.t 3), [6], (some (12, false))⟩,
 ⟨(some 16), .load none (.t 15), [9, 6], (some (12, false))⟩,
 ⟨(some 17), .bin .neq (.t 14) (.t 16), [8, 10, 6], (some (12, false))⟩,
 ⟨(some 18), .pick (.t 12) (.c (.bool true)) (.t 17), [6, 11], none⟩,
 ⟨(some 19), .mov (.t 18), [12, 6], none⟩,
 ⟨(some 20), .faddr 2 (.t 2), [13], (some (19, false))⟩,
 ⟨(some 21), .load none (.t 20), [14, 13], (some (19, false))⟩,
 ⟨(some 22), .faddr 2 (.t 3), [13], (some (19, false))⟩,
 ⟨(some 23), .load none (.t 22), [16, 13], (some (19, false))⟩,
 ⟨(some 24), .call .pure (.f 14) [(.t 21), (.t 23)], [15, 17, 13, 13], (some (19, false))⟩,
 ⟨(some 25), .un .not (.t 24), [18, 13], (some (19, false))⟩,
 ⟨(some 26), .pick (.t 19) (.c (.bool true)) (.t 25), [13, 19], none⟩,
 ⟨(some 27), .mov (.t 26), [20, 18], none⟩,
 ⟨(some 28), .faddr 3 (.t 2), [21], (some (27, false))⟩,
 ⟨(some 29), .load none (.t 28), [22, 21], (some (27, false))⟩,
 ⟨(some 30), .len 1 (.t 29), [23, 21], (some (27, false))⟩,
 ⟨(some 31), .faddr 3 (.t 3), [21], (some (27, false))⟩,
 ⟨(some 32), .load none (.t 31), [25, 21], (some (27, false))⟩,
 ⟨(some 33), .len 1 (.t 32), [26, 21], (some (27, false))⟩,
 ⟨(some 34), .bin .neq (.t 30) (.t 33), [24, 27, 21], (some (27, false))⟩,
 ⟨(some 35), .pick (.t 27) (.c (.bool true)) (.t 34), [21, 28], none⟩] [] [6, 7, 8, 9, 10, 11, 12, 13, 14, 15, 16, 17, 18, 19, 20, 21, 22, 23, 24, 25, 26, 27, 28, 29, 30, 31, 32, 33, 34])
 (.cond (.t 35)
 (.seq (.region [⟨(some 4), .mov (.c (.bool false)), [], none⟩] [] [2, 3, 35])
 .ret)
 .skip))
 (.seq (.seq (.region [⟨(some 5), .mov (.c (.int .i64 0)), [], none⟩] [] [4, 35])
 (.block 0 (.loop (.seq (.seq (.region [⟨(some 36), .mov (.t 5), [], none⟩,
 ⟨(some 37), .faddr 3 (.t 2), [], none⟩,
 ⟨(some 38), .load none (.t 37), [1], none⟩,
 ⟨(some 39), .len 1 (.t 38), [2], none⟩,
 ⟨(some 40), .bin .lss (.t 36) (.t 39), [0, 3], none⟩] [] [36, 37, 38, 39])
 (.cond (.t 40)
 .skip
 (.exit 0)))
 (.seq (.block 1 (.seq (.region [⟨(some 43), .faddr 3 (.t 2), [], none⟩,
 ⟨(some 44), .load none (.t 43), [0], none⟩,
 ⟨(some 45), .mov (.t 5), [], none⟩,
 ⟨(some 46), .iaddr none 3 (.t 44) (.t 45), [1, 2], none⟩,
 ⟨(some 47), .load (some 3) (.t 46), [3], none⟩,
 ⟨(some 48), .faddr 3 (.t 3), [], none⟩,
 ⟨(some 49), .load none (.t 48), [5], none⟩,
 ⟨(some 50), .mov (.t 5), [], none⟩,
 ⟨(some 51), .iaddr none 3 (.t 49) (.t 50), [6, 7], none⟩,
 ⟨(some 52), .load (some 3) (.t 51), [8], none⟩,
 ⟨(some 53), .eq (.flat true [.i, .i, .i]) true (.t 47) (.t 52), [4, 9], none⟩] [] [40, 43, 44, 45, 46, 47, 48, 49, 50, 51, 52])
 (.cond (.t 53)
 (.seq (.region [⟨(some 4), .mov (.c (.bool false)), [], none⟩] [] [2, 3, 5, 53])
 .ret)
 .skip)))
 (.region [⟨(some 41), .mov (.t 5), [], none⟩,
 ⟨(some 42), .bin .add (.t 41) (.c (.int .i64 1)), [0], none⟩,
 ⟨(some 5), .mov (.t 42), [1, 0, 1], none⟩] [] [4, 53, 41, 42]))))))
 (.seq (.region [⟨(some 4), .mov (.c (.bool true)), [], none⟩] [] [2, 3, 5])
 .ret))))⟩
def s31 : SFn := ⟨9, [.cell 0 (some 4)],
 (.seq (.region [⟨(some 0), .alloc .dyn (.agg [.nilsl, (.int .i64 0), .nilsl, .nilsl]), [], none⟩] [] [])
 (.seq (.region [⟨(some 1), .bslice false .dyn 1 4 [(.int .i64 0), (.int .i64 0), (.int .i64 0), (.int .i64 0)] [(0, 1, (.c (.int .i64 0))), (1, 1, (.c (.int .i64 1))), (2, 1, (.c (.int .i64 2))), (3, 1, (.c (.int .i64 3)))], [], none⟩,
 ⟨(some 2), .bslice false .dyn 1 1 [(.int .i64 0)] [(0, 1, (.c (.int .i64 0)))], [], none⟩,
 ⟨(some 3), .build [(.int .i64 0), (.int .i64 0), (.int .i64 0)] [(0, 1, (.c (.int .i64 0))), (1, 1, (.c (.int .i64 0))), (2, 1, (.c (.int .i64 1)))], [], none⟩,
 ⟨(some 4), .build [(.int .i64 0), (.int .i64 0), (.int .i64 0)] [(0, 1, (.c (.int .i64 1))), (1, 1, (.c (.int .i64 1))), (2, 1, (.c (.int .i64 0)))], [], none⟩,
 ⟨(some 5), .build [(.int .i64 0), (.int .i64 0), (.int .i64 0)] [(0, 1, (.c (.int .i64 1))), (1, 1, (.c (.int .i64 2))), (2, 1, (.c (.int .i64 2)))], [], none⟩,
 ⟨(some 6), .build [(.int .i64 0), (.int .i64 0), (.int .i64 0)] [(0, 1, (.c (.int .i64 2))), (1, 1, (.c (.int .i64 3))), (2, 1, (.c (.int .i64 0)))], [], none⟩,
 ⟨(some 7), .bslice false .dyn 3 4 [(.int .i64 0), (.int .i64 0), (.int .i64 0), (.int .i64 0), (.int .i64 0), (.int .i64 0), (.int .i64 0), (.int .i64 0), (.int .i64 0), (.int .i64 0), (.int .i64 0), (.int .i64 0)] [(0, 3, (.t 3)), (3, 3, (.t 4)), (6, 3, (.t 5)), (9, 3, (.t 6))], [2, 3, 4, 5], none⟩,
 ⟨(some 8), .build [.nilsl, (.int .i64 0), .nilsl, .nilsl] [(0, 1, (.t 1)), (1, 1, (.c (.int .i64 3))), (2, 1, (.t 2)), (3, 1, (.t 7))], [0, 1, 6], none⟩,
 ⟨none, .store 4 (.t 0) (.t 8), [7, 0, 1, 2, 3, 4, 5, 6, 7], none⟩] [] [1, 2, 3, 4, 5, 6, 7, 8])
 .ret))⟩
def s32 : SFn := ⟨79, [.cell 4 (some 4)],
 (.seq (.region [⟨(some 3), .box .dyn (.t 1), [], none⟩,
 ⟨(some 4), .alloc .dyn (.agg [.nilsl, (.int .i64 0), .nilsl, .nilsl]), [], none⟩] [] [1])
 (.seq (.seq (.region [⟨(some 9), .faddr 0 (.t 3), [], none⟩,
 ⟨(some 10), .load none (.t 9), [0], none⟩,
 ⟨(some 11), .bin .geq (.t 10) (.c (.int .u8 250)), [1], none⟩] [] [9, 10])
 (.cond (.t 11)
 (.seq (.region [⟨(some 12), .mov (.t 0), [], none⟩,
 ⟨(some 13), .call .pure (.f 45) [(.t 12)], [0], none⟩,
 ⟨none, .store 4 (.t 4) (.t 13), [1, 1, 0, 1], none⟩] [] [0, 3, 11, 12, 13])
 .ret)
 .skip))
 (.seq (.region [⟨(some 14), .mov (.t 0), [], none⟩,
 ⟨(some 15), .call .pure (.f 45) [(.t 14)], [0], none⟩,
 ⟨(some 5), .alloc .dyn (.agg [.nilsl, (.int .i64 0), .nilsl, .nilsl]), [], none⟩,
 ⟨none, .store 4 (.t 5) (.t 15), [2, 1, 1, 0, 1, 2], none⟩] [] [11, 14, 15])
 (.seq (.region [⟨(some 16), .faddr 0 (.t 3), [], none⟩,
 ⟨(some 17), .load none (.t 16), [0], none⟩,
 ⟨(some 18), .bin .rem (.t 17) (.c (.int .u8 5)), [1], none⟩,
 ⟨(some 19), .conv .i64 (.t 18), [2], none⟩,
 ⟨(some 20), .bin .add (.c (.int .i64 1)) (.t 19), [3], none⟩,
 ⟨(some 21), .faddr 1 (.t 5), [0, 1, 2, 3, 4], none⟩,
 ⟨none, .store 1 (.t 21) (.t 20), [5, 4, 0, 1, 2, 3, 4], none⟩] [] [16, 17, 18, 19, 20, 21])
 (.seq (.seq (.region [⟨(some 6), .mov (.c (.int .i64 0)), [], none⟩] [] [])
 (.block 0 (.loop (.seq (.seq (.region [⟨(some 22), .mov (.t 6), [], none⟩,
 ⟨(some 23), .faddr 1 (.t 5), [], none⟩,
 ⟨(some 24), .load none (.t 23), [1], none⟩,
 ⟨(some 25), .bin .lss (.t 22) (.t 24), [0, 2], none⟩] [] [22, 23, 24])
 (.cond (.t 25)
 .skip
 (.exit 0)))
 (.seq (.block 1 (.seq (.seq (.region [⟨(some 28), .faddr 1 (.t 3), [], none⟩,
 ⟨(some 29), .load none (.t 28), [0], none⟩,
 ⟨(some 30), .mov (.t 6), [], none⟩,
 ⟨(some 31), .bin .shr (.t 29) (.t 30), [1, 2], none⟩,
 ⟨(some 32), .bin .and (.t 31) (.c (.int .u8 1)), [3], none⟩,
 ⟨(some 33), .bin .eql (.t 32) (.c (.int .u8 1)), [4], none⟩] [] [25, 28, 29, 30, 31, 32])
 (.cond (.t 33)
 (.region [⟨(some 34), .faddr 2 (.t 5), [], none⟩,
 ⟨(some 35), .load none (.t 34), [0], none⟩,
 ⟨(some 36), .mov (.t 6), [], none⟩,
 ⟨(some 37), .bslice false .dyn 1 1 [(.int .i64 0)] [(0, 1, (.t 36))], [2], none⟩,
 ⟨(some 38), .append .dyn 1 8 (.t 35) (.t 37), [1, 3], none⟩,
 ⟨(some 39), .faddr 2 (.t 5), [0, 1, 2, 3, 4], none⟩,
 ⟨none, .store 1 (.t 39) (.t 38), [5, 4, 4, 0, 1, 2, 3, 4], none⟩] [] [33, 34, 35, 36, 37, 38, 39])
 .skip))
 (.seq (.region [⟨(some 7), .mov (.c (.int .i64 0)), [], none⟩] [] [33])
 (.block 2 (.loop (.seq (.seq (.region [⟨(some 40), .mov (.t 7), [], none⟩,
 ⟨(some 41), .mov (.t 0), [], none⟩,
 ⟨(some 42), .len 1 (.t 41), [1], none⟩,
 ⟨(some 43), .bin .lss (.t 40) (.t 42), [0, 2], none⟩,
 ⟨(some 44), .mov (.t 43), [3], none⟩,
 ⟨(some 45), .mov (.t 7), [4], (some (44, true))⟩,
 ⟨(some 46), .bin .lss (.t 45) (.c (.int .i64 5)), [5, 4], (some (44, true))⟩,
 ⟨(some 47), .pick (.t 44) (.t 46) (.c (.bool false)), [4, 6], none⟩] [] [40, 41, 42, 43, 44])
 (.cond (.t 47)
 .skip
 (.exit 2)))
 (.seq (.block 3 (.seq (.region [⟨(some 50), .mov (.t 6), [], none⟩,
 ⟨(some 51), .mov (.t 7), [], none⟩,
 ⟨(some 52), .faddr 2 (.t 3), [], none⟩,
 ⟨(some 53), .iaddr (some 5) 5 (.t 52) (.t 50), [2, 0], none⟩,
 ⟨(some 54), .iaddr (some 5) 1 (.t 53) (.t 51), [3, 1], none⟩,
 ⟨(some 55), .load none (.t 54), [4], none⟩,
 ⟨(some 56), .conv .i64 (.t 55), [5], none⟩,
 ⟨(some 57), .faddr 1 (.t 5), [], none⟩,
 ⟨(some 58), .load none (.t 57), [7], none⟩,
 ⟨(some 59), .bin .add (.t 58) (.c (.int .i64 2)), [8], none⟩,
 ⟨(some 60), .bin .rem (.t 56) (.t 59), [6, 9], none⟩,
 ⟨(some 8), .mov (.t 60), [10, 0, 1, 2, 3, 4, 5, 6, 7, 8, 9, 10], none⟩] [] [47, 50, 51, 52, 53, 54, 55, 56, 57, 58, 59, 60])
 (.seq (.region [⟨(some 61), .mov (.t 8), [], none⟩,
 ⟨(some 62), .faddr 1 (.t 5), [], none⟩,
 ⟨(some 63), .load none (.t 62), [1], none⟩,
 ⟨(some 64), .bin .lss (.t 61) (.t 63), [0, 2], none⟩] [] [61, 62, 63])
 (.cond (.t 64)
 (.region [⟨(some 65), .faddr 3 (.t 5), [], none⟩,
 ⟨(some 66), .load none (.t 65), [0], none⟩,
 ⟨(some 67), .mov (.t 6), [], none⟩,
 ⟨(some 68), .mov (.t 0), [], none⟩,
 ⟨(some 69), .mov (.t 7), [], none⟩,
 ⟨(some 70), .iaddr none 1 (.t 68) (.t 69), [3, 4], none⟩,
 ⟨(some 71), .load none (.t 70), [5], none⟩,
 ⟨(some 72), .mov (.t 8), [], none⟩,
 ⟨(some 73), .build [(.int .i64 0), (.int .i64 0), (.int .i64 0)] [(0, 1, (.t 67)), (1, 1, (.t 71)), (2, 1, (.t 72))], [2, 6, 7], none⟩,
 ⟨(some 74), .bslice false .dyn 3 1 [(.int .i64 0), (.int .i64 0), (.int .i64 0)] [(0, 3, (.t 73))], [8], none⟩,
 ⟨(some 75), .append .dyn 3 24 (.t 66) (.t 74), [1, 9], none⟩,
 ⟨(some 76), .faddr 3 (.t 5), [0, 1, 2, 3, 4, 5, 6, 7, 8, 9, 10], none⟩,
 ⟨none, .store 1 (.t 76) (.t 75), [11, 10, 10, 0, 1, 2, 3, 4, 5, 6, 7, 8, 9, 10], none⟩] [] [8, 64, 65, 66, 67, 68, 69, 70, 71, 72, 73, 74, 75, 76])
 .skip))))
 (.region [⟨(some 48), .mov (.t 7), [], none⟩,
 ⟨(some 49), .bin .add (.t 48) (.c (.int .i64 1)), [0], none⟩,
 ⟨(some 7), .mov (.t 49), [1, 0, 1], none⟩] [] [8, 64, 48, 49]))))))))
 (.region [⟨(some 26), .mov (.t 6), [], none⟩,
 ⟨(some 27), .bin .add (.t 26) (.c (.int .i64 1)), [0], none⟩,
 ⟨(some 6), .mov (.t 27), [1, 0, 1], none⟩] [] [7, 26, 27]))))))
 (.seq (.region [⟨(some 77), .load (some 4) (.t 5), [], none⟩,
 ⟨(some 78), .call .pure (.f 46) [(.t 77)], [0], none⟩,
 ⟨none, .store 4 (.t 4) (.t 78), [1, 1, 0, 1], none⟩] [] [0, 3, 5, 6, 46, 45, 77, 78])
 .ret))))))⟩
def s34 : SFn := ⟨75, [.tmp 6],
 (.seq (.region [⟨(some 3), .box .dyn (.t 0), [], none⟩,
 ⟨(some 6), .mov (.c .nilptr), [], none⟩] [] [0, 6])
 (.seq (.region [⟨(some 13), .load (some 4) (.t 3), [], none⟩,
 ⟨(some 14), .mov (.t 2), [], none⟩,
 ⟨(some 15), .mkmap .dyn, [], none⟩,
 ⟨(some 16), .faddr 1 (.t 3), [], none⟩,
 ⟨(some 17), .load none (.t 16), [3], none⟩,
 ⟨(some 18), .mkslice .dyn 1 1 [(.bool false)] (.t 17) (.t 17), [4, 4], none⟩,
 ⟨(some 19), .build [.nilsl, (.int .i64 0), .nilsl, .nilsl, .nilsl, .any, .nilsl] [(0, 4, (.t 13)), (4, 1, (.t 14)), (5, 1, (.t 15)), (6, 1, (.t 18))], [0, 1, 2, 5], none⟩,
 ⟨(some 20), .box .dyn (.t 19), [6], none⟩,
 ⟨(some 7), .mov (.t 20), [7, 0, 1, 2, 3, 4, 5, 6, 7], none⟩] [(2, 4)] [2, 13, 14, 15, 16, 17, 18, 19, 20])
 (.seq (.seq (.region [⟨(some 21), .mov (.t 7), [], none⟩,
 ⟨(some 22), .nilchk (.t 21), [0], none⟩,
 ⟨(some 23), .faddr 6 (.t 22), [1], none⟩,
 ⟨(some 24), .load none (.t 23), [2], none⟩,
 ⟨(some 25), .len 1 (.t 24), [3], none⟩,
 ⟨(some 26), .mov (.c (.int .i64 0)), [], none⟩] [] [21, 22, 23, 24])
 (.block 0 (.loop (.seq (.region [⟨(some 27), .bin .lss (.t 26) (.t 25), [], none⟩] [] [])
 (.seq (.cond (.t 27)
 .skip
 (.exit 0))
 (.seq (.block 1 (.seq (.region [⟨(some 28), .mov (.t 26), [], none⟩,
 ⟨(some 8), .mov (.t 28), [0, 0], none⟩] [] [27, 28])
 (.region [⟨(some 29), .mov (.t 7), [], none⟩,
 ⟨(some 30), .nilchk (.t 29), [0], none⟩,
 ⟨(some 31), .faddr 6 (.t 30), [1], none⟩,
 ⟨(some 32), .load none (.t 31), [2], none⟩,
 ⟨(some 33), .mov (.t 8), [], none⟩,
 ⟨(some 34), .iaddr none 1 (.t 32) (.t 33), [3, 4, 0, 1, 2, 3, 4], none⟩,
 ⟨none, .store 1 (.t 34) (.c (.bool true)), [5, 0, 1, 2, 3, 4], none⟩] [] [8, 29, 30, 31, 32, 33, 34])))
 (.region [⟨(some 35), .bin .add (.t 26) (.c (.int .i64 1)), [], none⟩,
 ⟨(some 26), .mov (.t 35), [0], none⟩] [] [35])))))))
 (.seq (.seq (.region [⟨(some 36), .mov (.t 1), [], none⟩,
 ⟨(some 37), .len 1 (.t 36), [0], none⟩,
 ⟨(some 38), .mov (.c (.int .i64 0)), [], none⟩] [] [1, 25, 26])
 (.block 2 (.loop (.seq (.region [⟨(some 39), .bin .lss (.t 38) (.t 37), [], none⟩] [] [])
 (.seq (.cond (.t 39)
 .skip
 (.exit 2))
 (.seq (.block 3 (.seq (.region [⟨(some 40), .iaddr none 1 (.t 36) (.t 38), [], none⟩,
 ⟨(some 41), .load none (.t 40), [0], none⟩,
 ⟨(some 10), .mov (.t 41), [1, 0, 1], none⟩] [] [39, 40, 41])
 (.region [⟨(some 42), .mov (.t 7), [], none⟩,
 ⟨(some 43), .nilchk (.t 42), [0], none⟩,
 ⟨(some 44), .faddr 6 (.t 43), [1], none⟩,
 ⟨(some 45), .load none (.t 44), [2], none⟩,
 ⟨(some 46), .mov (.t 10), [], none⟩,
 ⟨(some 47), .iaddr none 1 (.t 45) (.t 46), [3, 4, 0, 1, 2, 3, 4], none⟩,
 ⟨none, .store 1 (.t 47) (.c (.bool false)), [5, 0, 1, 2, 3, 4], none⟩] [] [10, 42, 43, 44, 45, 46, 47])))
 (.region [⟨(some 48), .bin .add (.t 38) (.c (.int .i64 1)), [], none⟩,
 ⟨(some 38), .mov (.t 48), [0], none⟩] [] [48])))))))
 (.seq (.seq (.region [⟨(some 49), .faddr 3 (.t 3), [], none⟩,
 ⟨(some 50), .load none (.t 49), [0], none⟩,
 ⟨(some 51), .len 1 (.t 50), [1], none⟩,
 ⟨(some 52), .mov (.c (.int .i64 0)), [], none⟩] [] [3, 36, 37, 38, 49])
 (.block 4 (.loop (.seq (.region [⟨(some 53), .bin .lss (.t 52) (.t 51), [], none⟩] [] [])
 (.seq (.cond (.t 53)
 .skip
 (.exit 4))
 (.seq (.block 5 (.seq (.region [⟨(some 54), .iaddr none 3 (.t 50) (.t 52), [], none⟩,
 ⟨(some 55), .load (some 3) (.t 54), [0], none⟩,
 ⟨(some 12), .alloc .dyn (.agg [(.int .i64 0), (.int .i64 0), (.int .i64 0)]), [], none⟩,
 ⟨none, .store 3 (.t 12) (.t 55), [2, 1, 0, 1, 2], none⟩] [] [53, 54, 55])
 (.region [⟨(some 56), .mov (.t 7), [], none⟩,
 ⟨(some 57), .nilchk (.t 56), [0], none⟩,
 ⟨(some 58), .faddr 5 (.t 57), [1], none⟩,
 ⟨(some 59), .load none (.t 58), [2], none⟩,
 ⟨(some 60), .faddr 2 (.t 12), [], none⟩,
 ⟨(some 61), .load none (.t 60), [4], none⟩,
 ⟨(some 62), .mov (.t 7), [], none⟩,
 ⟨(some 63), .nilchk (.t 62), [6], none⟩,
 ⟨(some 64), .faddr 5 (.t 63), [7], none⟩,
 ⟨(some 65), .load none (.t 64), [8], none⟩,
 ⟨(some 66), .faddr 2 (.t 12), [], none⟩,
 ⟨(some 67), .load none (.t 66), [10], none⟩,
 ⟨(some 68), .lookup false [.i] .nilsl false (.t 65) (.t 67), [9, 11], none⟩,
 ⟨(some 69), .faddr 0 (.t 12), [], none⟩,
 ⟨(some 70), .load none (.t 69), [13], none⟩,
 ⟨(some 71), .bslice false .dyn 1 1 [(.int .i64 0)] [(0, 1, (.t 70))], [14], none⟩,
 ⟨(some 72), .append .dyn 1 8 (.t 68) (.t 71), [12, 15], none⟩,
 ⟨none, .mupd false [.i] (.t 59) (.t 61) (.t 72), [3, 5, 16, 16, 0, 1, 2, 3, 4, 5, 6, 7, 8, 9, 10, 11, 12, 13, 14, 15, 16], none⟩] [(12, 15), (3, 16), (5, 16)] [12, 56, 57, 58, 59, 60, 61, 62, 63, 64, 65, 66, 67, 68, 69, 70, 71, 72])))
 (.region [⟨(some 73), .bin .add (.t 52) (.c (.int .i64 1)), [], none⟩,
 ⟨(some 52), .mov (.t 73), [0], none⟩] [] [73])))))))
 (.seq (.region [⟨(some 74), .mov (.t 7), [], none⟩,
 ⟨(some 6), .mov (.t 74), [0, 0], none⟩] [] [7, 50, 51, 52, 74])
 .ret))))))⟩
def s35 : SFn := ⟨22, [.tmp 6],
 (.seq (.region [⟨(some 6), .mov (.c .nilsl), [], none⟩] [] [6])
 (.seq (.seq (.region [⟨(some 8), .mov (.t 0), [], none⟩,
 ⟨(some 9), .mov (.t 1), [], none⟩,
 ⟨(some 10), .call .heap (.f 47) [(.t 8), (.t 9)], [0, 1], none⟩,
 ⟨(some 7), .mov (.t 10), [2, 2, 0, 1, 2], none⟩] [] [8, 9, 10])
 (.seq (.region [⟨(some 11), .mov (.t 7), [], none⟩,
 ⟨(some 12), .len 1 (.t 11), [0], none⟩,
 ⟨(some 13), .bin .gtr (.t 12) (.c (.int .i64 0)), [1], none⟩,
 ⟨(some 14), .mov (.t 13), [2], none⟩,
 ⟨(some 15), .mov (.t 2), [3], (some (14, false))⟩,
 ⟨(some 16), .un .not (.t 15), [4, 3], (some (14, false))⟩,
 ⟨(some 17), .pick (.t 14) (.c (.bool true)) (.t 16), [3, 5], none⟩] [] [2, 11, 12, 13, 14, 15, 16])
 (.cond (.t 17)
 (.seq (.region [⟨(some 18), .mov (.t 7), [], none⟩,
 ⟨(some 6), .mov (.t 18), [0, 0], none⟩] [] [0, 1, 7, 17, 18])
 .ret)
 .skip)))
 (.seq (.region [⟨(some 19), .mov (.t 0), [], none⟩,
 ⟨(some 20), .mov (.t 1), [], none⟩,
 ⟨(some 21), .call .heap (.f 48) [(.t 19), (.t 20)], [0, 1], none⟩,
 ⟨(some 6), .mov (.t 21), [2, 2, 0, 1, 2], none⟩] [] [0, 1, 7, 17, 19, 20, 21])
 .ret)))⟩
def s36 : SFn := ⟨18, [.tmp 4],
 (.seq (.region [⟨(some 4), .mov (.c (.bool false)), [], none⟩] [] [4])
 (.seq (.seq (.region [⟨(some 5), .mov (.c (.int .i64 0)), [], none⟩] [] [])
 (.block 0 (.loop (.seq (.seq (.region [⟨(some 6), .mov (.t 5), [], none⟩,
 ⟨(some 7), .mov (.t 0), [], none⟩,
 ⟨(some 8), .len 1 (.t 7), [1], none⟩,
 ⟨(some 9), .bin .lss (.t 6) (.t 8), [0, 2], none⟩] [] [6, 7, 8])
 (.cond (.t 9)
 .skip
 (.exit 0)))
 (.seq (.block 1 (.seq (.region [⟨(some 12), .mov (.t 0), [], none⟩,
 ⟨(some 13), .mov (.t 5), [], none⟩,
 ⟨(some 14), .iaddr none 1 (.t 12) (.t 13), [0, 1], none⟩,
 ⟨(some 15), .load none (.t 14), [2], none⟩,
 ⟨(some 16), .mov (.t 1), [], none⟩,
 ⟨(some 17), .bin .eql (.t 15) (.t 16), [3, 4], none⟩] [] [9, 12, 13, 14, 15, 16])
 (.cond (.t 17)
 (.seq (.region [⟨(some 4), .mov (.c (.bool true)), [], none⟩] [] [0, 1, 5, 17])
 .ret)
 .skip)))
 (.region [⟨(some 10), .mov (.t 5), [], none⟩,
 ⟨(some 11), .bin .add (.t 10) (.c (.int .i64 1)), [0], none⟩,
 ⟨(some 5), .mov (.t 11), [1, 0, 1], none⟩] [] [4, 17, 10, 11]))))))
 (.seq (.region [⟨(some 4), .mov (.c (.bool false)), [], none⟩] [] [0, 1, 5])
 .ret)))⟩
def s37 : SFn := ⟨29, [.tmp 2],
 (.seq (.region [⟨(some 1), .box .dyn (.t 0), [], none⟩,
 ⟨(some 2), .mov (.c (.int .i64 0)), [], none⟩] [] [0, 2])
 (.seq (.seq (.region [⟨(some 5), .faddr 0 (.t 1), [], none⟩,
 ⟨(some 6), .load none (.t 5), [0], none⟩,
 ⟨(some 7), .call .pure (.f 49) [(.t 6), (.c (.int .i64 32))], [1], none⟩,
 ⟨(some 3), .mov (.t 7), [2, 2, 0, 1, 2], none⟩] [] [5, 6, 7])
 (.seq (.region [⟨(some 8), .mov (.t 3), [], none⟩,
 ⟨(some 9), .bin .neq (.t 8) (.c (.int .i64 0)), [0], none⟩] [] [8])
 (.cond (.t 9)
 (.seq (.region [⟨(some 10), .mov (.t 3), [], none⟩,
 ⟨(some 2), .mov (.t 10), [0, 0], none⟩] [] [1, 3, 9, 10])
 .ret)
 .skip)))
 (.seq (.block 0 (.seq (.region [⟨(some 12), .faddr 1 (.t 1), [], none⟩,
 ⟨(some 13), .load none (.t 12), [0], none⟩,
 ⟨(some 14), .bin .lss (.t 13) (.c (.int .i64 0)), [1], none⟩,
 ⟨(some 11), .mov (.t 14), [2], none⟩] [] [2, 3, 9, 12, 13, 14])
 (.cond (.t 11)
 (.seq (.region [⟨(some 2), .mov (.c (.int .i64 2)), [], none⟩] [] [1, 11])
 .ret)
 (.seq (.region [⟨(some 16), .faddr 1 (.t 1), [], none⟩,
 ⟨(some 17), .load none (.t 16), [0], none⟩,
 ⟨(some 18), .bin .gtr (.t 17) (.c (.int .i64 4096)), [1], none⟩,
 ⟨(some 15), .mov (.t 18), [2], none⟩] [] [11, 16, 17, 18])
 (.cond (.t 15)
 (.seq (.region [⟨(some 2), .mov (.c (.int .i64 3)), [], none⟩] [] [1, 15])
 .ret)
 .skip)))))
 (.seq (.seq (.region [⟨(some 19), .faddr 2 (.t 1), [], none⟩,
 ⟨(some 20), .load none (.t 19), [0], none⟩,
 ⟨(some 21), .faddr 1 (.t 1), [], none⟩,
 ⟨(some 22), .load none (.t 21), [2], none⟩,
 ⟨(some 23), .call .pure (.f 49) [(.t 20), (.t 22)], [1, 3], none⟩,
 ⟨(some 4), .mov (.t 23), [4, 4, 0, 1, 2, 3, 4], none⟩] [] [2, 15, 19, 20, 21, 22, 23])
 (.seq (.region [⟨(some 24), .mov (.t 4), [], none⟩,
 ⟨(some 25), .bin .neq (.t 24) (.c (.int .i64 0)), [0], none⟩] [] [24])
 (.cond (.t 25)
 (.seq (.region [⟨(some 26), .mov (.t 4), [], none⟩,
 ⟨(some 2), .mov (.t 26), [0, 0], none⟩] [] [1, 4, 25, 26])
 .ret)
 .skip)))
 (.seq (.region [⟨(some 27), .load (some 4) (.t 1), [], none⟩,
 ⟨(some 28), .call .pure (.f 50) [(.t 27)], [0], none⟩,
 ⟨(some 2), .mov (.t 28), [1, 1, 0, 1], none⟩] [] [1, 4, 25, 27, 28])
 .ret)))))⟩
def s38 : SFn := ⟨33, [.tmp 4],
 (.seq (.region [⟨(some 4), .mov (.c (.int .i64 0)), [], none⟩] [] [4])
 (.seq (.seq (.region [⟨(some 7), .mov (.t 0), [], none⟩,
 ⟨(some 8), .len 1 (.t 7), [0], none⟩,
 ⟨(some 9), .mov (.c (.int .i64 0)), [], none⟩] [] [])
 (.block 0 (.loop (.seq (.region [⟨(some 10), .bin .lss (.t 9) (.t 8), [], none⟩] [] [])
 (.seq (.cond (.t 10)
 .skip
 (.exit 0))
 (.seq (.block 1 (.seq (.region [⟨(some 11), .mov (.t 9), [], none⟩,
 ⟨(some 12), .iaddr none 1 (.t 7) (.t 9), [], none⟩,
 ⟨(some 13), .load none (.t 12), [1], none⟩,
 ⟨(some 5), .mov (.t 11), [0, 0, 1, 2], none⟩,
 ⟨(some 6), .mov (.t 13), [2, 3, 0, 1, 2, 3], none⟩] [] [10, 11, 12, 13])
 (.seq (.seq (.region [⟨(some 14), .mov (.t 6), [], none⟩,
 ⟨(some 15), .bin .lss (.t 14) (.c (.int .i64 0)), [0], none⟩,
 ⟨(some 16), .mov (.t 15), [1], none⟩,
 ⟨(some 17), .mov (.t 6), [2], (some (16, false))⟩,
 ⟨(some 18), .mov (.t 1), [2], (some (16, false))⟩,
 ⟨(some 19), .bin .geq (.t 17) (.t 18), [3, 4, 2], (some (16, false))⟩,
 ⟨(some 20), .pick (.t 16) (.c (.bool true)) (.t 19), [2, 5], none⟩] [] [14, 15, 16])
 (.cond (.t 20)
 (.seq (.region [⟨(some 4), .mov (.c (.int .i64 2)), [], none⟩] [] [0, 1, 7, 8, 9, 30, 24, 29, 28, 25, 27, 26, 19, 17, 18, 5, 6, 20])
 .ret)
 .skip))
 (.seq (.region [⟨(some 21), .mov (.t 5), [], none⟩,
 ⟨(some 22), .bin .gtr (.t 21) (.c (.int .i64 0)), [0], none⟩,
 ⟨(some 23), .mov (.t 22), [1], none⟩,
 ⟨(some 24), .mov (.t 6), [2], (some (23, true))⟩,
 ⟨(some 25), .mov (.t 0), [2], (some (23, true))⟩,
 ⟨(some 26), .mov (.t 5), [2], (some (23, true))⟩,
 ⟨(some 27), .bin .sub (.t 26) (.c (.int .i64 1)), [5, 2], (some (23, true))⟩,
 ⟨(some 28), .iaddr none 1 (.t 25) (.t 27), [4, 6, 2], (some (23, true))⟩,
 ⟨(some 29), .load none (.t 28), [7, 2], (some (23, true))⟩,
 ⟨(some 30), .bin .leq (.t 24) (.t 29), [3, 8, 2], (some (23, true))⟩,
 ⟨(some 31), .pick (.t 23) (.t 30) (.c (.bool false)), [2, 9], none⟩] [] [4, 5, 6, 20, 21, 22, 23])
 (.cond (.t 31)
 (.seq (.region [⟨(some 4), .mov (.c (.int .i64 5)), [], none⟩] [] [0, 1, 7, 8, 9, 30, 24, 29, 28, 25, 27, 26, 19, 17, 18, 31])
 .ret)
 .skip)))))
 (.region [⟨(some 32), .bin .add (.t 9) (.c (.int .i64 1)), [], none⟩,
 ⟨(some 9), .mov (.t 32), [0], none⟩] [] [4, 31, 32])))))))
 (.seq (.region [⟨(some 4), .mov (.c (.int .i64 0)), [], none⟩] [] [0, 1, 7, 8, 9, 30, 24, 29, 28, 25, 27, 26, 19, 17, 18])
 .ret)))⟩
def s39 : SFn := ⟨116, [.cell 8 (some 9)],
 (.seq (.region [⟨(some 4), .box .dyn (.t 0), [], none⟩,
 ⟨(some 8), .alloc .dyn (.agg [.nilsl, .nilsl, .nilsl, (.int .i64 0), .nilsl, (.int .i64 0), .nilsl, .nilsl, .nilsl]), [], none⟩] [] [0])
 (.seq (.region [⟨(some 19), .load (some 4) (.t 4), [], none⟩,
 ⟨(some 20), .mov (.t 1), [], none⟩,
 ⟨(some 21), .mov (.t 2), [], none⟩,
 ⟨(some 22), .call .heap (.f 34) [(.t 19), (.t 20), (.t 21)], [0, 1, 2], none⟩,
 ⟨(some 9), .mov (.t 22), [3, 3, 0, 1, 2, 3], none⟩] [] [2, 4, 19, 20, 21, 22])
 (.seq (.region [⟨(some 10), .alloc .dyn (.agg [.nilsl, .nilsl, .nilsl, (.int .i64 0), .nilsl, (.int .i64 0), .nilsl, .nilsl, .nilsl]), [], none⟩] [] [])
 (.seq (.seq (.region [⟨(some 23), .mov (.t 1), [], none⟩,
 ⟨(some 24), .len 1 (.t 23), [0], none⟩,
 ⟨(some 25), .mov (.c (.int .i64 0)), [], none⟩] [] [1])
 (.block 0 (.loop (.seq (.region [⟨(some 26), .bin .lss (.t 25) (.t 24), [], none⟩] [] [])
 (.seq (.cond (.t 26)
 .skip
 (.exit 0))
 (.seq (.block 1 (.seq (.region [⟨(some 27), .iaddr none 1 (.t 23) (.t 25), [], none⟩,
 ⟨(some 28), .load none (.t 27), [0], none⟩,
 ⟨(some 12), .mov (.t 28), [1, 0, 1], none⟩] [] [26, 27, 28])
 (.seq (.region [⟨(some 29), .faddr 0 (.t 10), [], none⟩,
 ⟨(some 30), .faddr 2 (.t 29), [0], none⟩,
 ⟨(some 31), .load none (.t 30), [1], none⟩,
 ⟨(some 32), .mov (.t 12), [], none⟩,
 ⟨(some 33), .build [(.int .i64 0), (.int .i64 0), (.int .i64 0), (.int .i64 0)] [(0, 1, (.t 32)), (1, 1, (.c (.int .i64 1))), (2, 1, (.c (.int .i64 1))), (3, 1, (.c (.int .i64 (-1))))], [3], none⟩,
 ⟨(some 34), .bslice false .dyn 4 1 [(.int .i64 0), (.int .i64 0), (.int .i64 0), (.int .i64 0)] [(0, 4, (.t 33))], [4], none⟩,
 ⟨(some 35), .append .dyn 4 32 (.t 31) (.t 34), [2, 5], none⟩,
 ⟨(some 36), .faddr 0 (.t 10), [0, 1, 2, 3, 4, 5, 6], none⟩,
 ⟨(some 37), .faddr 2 (.t 36), [7, 0, 1, 2, 3, 4, 5, 6], none⟩,
 ⟨none, .store 1 (.t 37) (.t 35), [8, 6, 6, 0, 1, 2, 3, 4, 5, 6], none⟩] [] [12, 29, 30, 31, 32, 33, 34, 35, 36, 37])
 (.region [⟨(some 38), .faddr 3 (.t 10), [], none⟩,
 ⟨none, .store 1 (.t 38) (.c (.int .i64 1)), [0], none⟩] [] [38]))))
 (.region [⟨(some 39), .bin .add (.t 25) (.c (.int .i64 1)), [], none⟩,
 ⟨(some 25), .mov (.t 39), [0], none⟩] [] [39])))))))
 (.seq (.seq (.region [⟨(some 13), .mov (.c (.int .i64 2)), [], none⟩] [] [23, 24, 25])
 (.block 2 (.loop (.seq (.block 3 (.seq (.region [⟨(some 42), .mov (.t 9), [], none⟩,
 ⟨(some 43), .mov (.t 13), [], none⟩,
 ⟨(some 44), .mov (.t 3), [], none⟩,
 ⟨(some 45), .call .heap (.f 35) [(.t 42), (.t 43), (.t 44)], [0, 1, 2], none⟩,
 ⟨(some 14), .mov (.t 45), [3, 3, 0, 1, 2, 3], none⟩] [] [42, 43, 44, 45])
 (.seq (.seq (.region [⟨(some 46), .mov (.t 14), [], none⟩,
 ⟨(some 47), .len 1 (.t 46), [0], none⟩,
 ⟨(some 48), .bin .eql (.t 47) (.c (.int .i64 0)), [1], none⟩] [] [46, 47])
 (.cond (.t 48)
 (.exit 2)
 .skip))
 (.seq (.seq (.region [⟨(some 49), .mov (.t 14), [], none⟩,
 ⟨(some 50), .len 1 (.t 49), [0], none⟩,
 ⟨(some 51), .mov (.c (.int .i64 0)), [], none⟩] [] [48])
 (.block 4 (.loop (.seq (.region [⟨(some 52), .bin .lss (.t 51) (.t 50), [], none⟩] [] [])
 (.seq (.cond (.t 52)
 .skip
 (.exit 4))
 (.seq (.block 5 (.seq (.region [⟨(some 53), .iaddr none 4 (.t 49) (.t 51), [], none⟩,
 ⟨(some 54), .load (some 4) (.t 53), [0], none⟩,
 ⟨(some 16), .alloc .dyn (.agg [(.int .i64 0), (.int .i64 0), (.int .i64 0), (.int .i64 0)]), [], none⟩,
 ⟨none, .store 4 (.t 16) (.t 54), [2, 1, 0, 1, 2], none⟩] [] [52, 53, 54])
 (.region [⟨(some 55), .mov (.t 9), [], none⟩,
 ⟨(some 56), .nilchk (.t 55), [0], none⟩,
 ⟨(some 57), .faddr 6 (.t 56), [1], none⟩,
 ⟨(some 58), .load none (.t 57), [2], none⟩,
 ⟨(some 59), .faddr 0 (.t 16), [], none⟩,
 ⟨(some 60), .load none (.t 59), [4], none⟩,
 ⟨(some 61), .iaddr none 1 (.t 58) (.t 60), [3, 5, 0, 1, 2, 3, 4, 5], none⟩,
 ⟨none, .store 1 (.t 61) (.c (.bool false)), [6, 0, 1, 2, 3, 4, 5], none⟩] [] [16, 55, 56, 57, 58, 59, 60, 61])))
 (.region [⟨(some 62), .bin .add (.t 51) (.c (.int .i64 1)), [], none⟩,
 ⟨(some 51), .mov (.t 62), [0], none⟩] [] [62])))))))
 (.seq (.region [⟨(some 63), .faddr 0 (.t 10), [], none⟩,
 ⟨(some 64), .faddr 2 (.t 63), [0], none⟩,
 ⟨(some 65), .load none (.t 64), [1], none⟩,
 ⟨(some 66), .mov (.t 14), [], none⟩,
 ⟨(some 67), .append .dyn 4 32 (.t 65) (.t 66), [2, 3], none⟩,
 ⟨(some 68), .faddr 0 (.t 10), [0, 1, 2, 3, 4], none⟩,
 ⟨(some 69), .faddr 2 (.t 68), [5, 0, 1, 2, 3, 4], none⟩,
 ⟨none, .store 1 (.t 69) (.t 67), [6, 4, 4, 0, 1, 2, 3, 4], none⟩] [] [14, 49, 50, 51, 63, 64, 65, 66, 67, 68, 69])
 (.region [⟨(some 70), .mov (.t 13), [], none⟩,
 ⟨(some 71), .faddr 3 (.t 10), [0], none⟩,
 ⟨none, .store 1 (.t 71) (.t 70), [1, 0, 0], none⟩] [] [70, 71]))))))
 (.region [⟨(some 40), .mov (.t 13), [], none⟩,
 ⟨(some 41), .bin .add (.t 40) (.c (.int .i64 1)), [0], none⟩,
 ⟨(some 13), .mov (.t 41), [1, 0, 1], none⟩] [] [40, 41])))))
 (.seq (.region [⟨(some 72), .faddr 0 (.t 10), [], none⟩,
 ⟨(some 73), .faddr 2 (.t 72), [0], none⟩,
 ⟨(some 74), .load none (.t 73), [1], none⟩,
 ⟨(some 75), .call .heap (.f 51) [(.t 74), (.f 52)], [2], none⟩] [] [3, 13, 72, 73, 74, 75])
 (.seq (.seq (.region [⟨(some 76), .mov (.t 9), [], none⟩,
 ⟨(some 77), .call .heap (.f 53) [(.t 76)], [0], none⟩,
 ⟨(some 78), .len 1 (.t 77), [1], none⟩,
 ⟨(some 79), .mov (.c (.int .i64 0)), [], none⟩] [] [76])
 (.block 6 (.loop (.seq (.region [⟨(some 80), .bin .lss (.t 79) (.t 78), [], none⟩] [] [])
 (.seq (.cond (.t 80)
 .skip
 (.exit 6))
 (.seq (.block 7 (.seq (.region [⟨(some 81), .mov (.t 79), [], none⟩,
 ⟨(some 82), .iaddr none 1 (.t 77) (.t 79), [], none⟩,
 ⟨(some 83), .load none (.t 82), [1], none⟩,
 ⟨(some 17), .mov (.t 81), [0, 0, 1, 2], none⟩,
 ⟨(some 18), .mov (.t 83), [2, 3, 0, 1, 2, 3], none⟩] [] [80, 81, 82, 83])
 (.seq (.region [⟨(some 84), .mov (.t 9), [], none⟩,
 ⟨(some 85), .nilchk (.t 84), [0], none⟩,
 ⟨(some 86), .faddr 6 (.t 85), [1], none⟩,
 ⟨(some 87), .load none (.t 86), [2], none⟩,
 ⟨(some 88), .mov (.t 17), [], none⟩,
 ⟨(some 89), .iaddr none 1 (.t 87) (.t 88), [3, 4], none⟩,
 ⟨(some 90), .load none (.t 89), [5], none⟩] [] [84, 85, 86, 87, 88, 89])
 (.cond (.t 90)
 (.seq (.region [⟨(some 91), .faddr 0 (.t 10), [], none⟩,
 ⟨(some 92), .faddr 0 (.t 91), [0], none⟩,
 ⟨(some 93), .load none (.t 92), [1], none⟩,
 ⟨(some 94), .mov (.t 17), [], none⟩,
 ⟨(some 95), .bslice false .dyn 1 1 [(.int .i64 0)] [(0, 1, (.t 94))], [3], none⟩,
 ⟨(some 96), .append .dyn 1 8 (.t 93) (.t 95), [2, 4], none⟩,
 ⟨(some 97), .faddr 0 (.t 10), [0, 1, 2, 3, 4, 5], none⟩,
 ⟨(some 98), .faddr 0 (.t 97), [6, 0, 1, 2, 3, 4, 5], none⟩,
 ⟨none, .store 1 (.t 98) (.t 96), [7, 5, 5, 0, 1, 2, 3, 4, 5], none⟩] [] [17, 90, 91, 92, 93, 94, 95, 96, 97, 98])
 (.region [⟨(some 99), .faddr 0 (.t 10), [], none⟩,
 ⟨(some 100), .faddr 1 (.t 99), [0], none⟩,
 ⟨(some 101), .load none (.t 100), [1], none⟩,
 ⟨(some 102), .mov (.t 18), [], none⟩,
 ⟨(some 103), .bslice false .dyn 1 1 [(.int .i64 0)] [(0, 1, (.t 102))], [3], none⟩,
 ⟨(some 104), .append .dyn 1 8 (.t 101) (.t 103), [2, 4], none⟩,
 ⟨(some 105), .faddr 0 (.t 10), [0, 1, 2, 3, 4, 5], none⟩,
 ⟨(some 106), .faddr 1 (.t 105), [6, 0, 1, 2, 3, 4, 5], none⟩,
 ⟨none, .store 1 (.t 106) (.t 104), [7, 5, 5, 0, 1, 2, 3, 4, 5], none⟩] [] [18, 99, 100, 101, 102, 103, 104, 105, 106]))
 .skip))))
 (.region [⟨(some 107), .bin .add (.t 79) (.c (.int .i64 1)), [], none⟩,
 ⟨(some 79), .mov (.t 107), [0], none⟩] [] [17, 18, 90, 107])))))))
 (.seq (.region [⟨(some 109), .mov (.t 9), [], none⟩,
 ⟨(some 110), .call .heap (.f 54) [(.t 109)], [0], none⟩,
 ⟨(some 108), .mov (.t 110), [1], none⟩,
 ⟨(some 111), .extract 0 (.t 108), [2], none⟩,
 ⟨(some 112), .extract 1 (.t 108), [2], none⟩,
 ⟨(some 113), .faddr 4 (.t 10), [0, 1, 2, 3], none⟩,
 ⟨none, .store 4 (.t 113) (.t 111), [5, 3, 1, 0, 1, 2, 3], none⟩,
 ⟨(some 114), .faddr 8 (.t 10), [0, 1, 2, 3, 4, 5, 6], none⟩,
 ⟨none, .store 1 (.t 114) (.t 112), [7, 4, 6, 0, 1, 2, 3, 4, 5, 6], none⟩] [] [9, 77, 78, 79, 109, 110, 108, 111, 112, 113, 114])
 (.seq (.region [⟨(some 115), .load (some 9) (.t 10), [], none⟩,
 ⟨none, .store 9 (.t 8) (.t 115), [0, 0], none⟩] [] [10, 115])
 .ret)))))))))⟩
def s44 : SFn := ⟨105, [.cell 2 (some 4)],
 (.seq (.region [⟨(some 1), .box .dyn (.t 0), [], none⟩,
 ⟨(some 2), .alloc .dyn (.agg [.nilsl, (.int .i64 0), .nilsl, .nilsl]), [], none⟩] [] [0])
 (.seq (.region [⟨(some 12), .faddr 0 (.t 1), [], none⟩,
 ⟨(some 13), .load none (.t 12), [0], none⟩,
 ⟨(some 14), .call .heap (.f 56) [(.t 13)], [1], none⟩,
 ⟨(some 15), .build [.nilsl, (.int .i64 0), .nilsl, .nilsl] [(0, 1, (.t 14))], [2], none⟩,
 ⟨(some 3), .alloc .dyn (.agg [.nilsl, (.int .i64 0), .nilsl, .nilsl]), [], none⟩,
 ⟨none, .store 4 (.t 3) (.t 15), [4, 3, 2, 0, 1, 2, 3, 4], none⟩] [] [12, 13, 14, 15])
 (.seq (.seq (.region [⟨(some 16), .faddr 1 (.t 1), [], none⟩,
 ⟨(some 17), .load none (.t 16), [0], none⟩,
 ⟨(some 18), .bin .eql (.t 17) (.c (.int .i64 0)), [1], none⟩] [] [16, 17])
 (.cond (.t 18)
 (.seq (.region [⟨(some 19), .load (some 4) (.t 3), [], none⟩,
 ⟨none, .store 4 (.t 2) (.t 19), [0, 0], none⟩] [] [1, 3, 18, 19])
 .ret)
 .skip))
 (.seq (.region [⟨(some 20), .faddr 1 (.t 1), [], none⟩,
 ⟨(some 21), .load none (.t 20), [0], none⟩,
 ⟨(some 22), .mkslice .dyn 1 8 [(.int .i64 0)] (.t 21) (.t 21), [1, 1], none⟩,
 ⟨(some 4), .mov (.t 22), [2, 0, 1, 2], none⟩] [] [18, 20, 21, 22])
 (.seq (.seq (.region [⟨(some 23), .mov (.t 4), [], none⟩,
 ⟨(some 24), .len 1 (.t 23), [0], none⟩,
 ⟨(some 25), .mov (.c (.int .i64 0)), [], none⟩] [] [23])
 (.block 0 (.loop (.seq (.region [⟨(some 26), .bin .lss (.t 25) (.t 24), [], none⟩] [] [])
 (.seq (.cond (.t 26)
 .skip
 (.exit 0))
 (.seq (.block 1 (.seq (.region [⟨(some 27), .mov (.t 25), [], none⟩,
 ⟨(some 5), .mov (.t 27), [0, 0], none⟩] [] [26, 27])
 (.region [⟨(some 28), .mov (.t 4), [], none⟩,
 ⟨(some 29), .mov (.t 5), [], none⟩,
 ⟨(some 30), .iaddr none 1 (.t 28) (.t 29), [0, 1, 0, 1], none⟩,
 ⟨none, .store 1 (.t 30) (.c (.int .i64 (-1))), [2, 0, 1], none⟩] [] [5, 28, 29, 30])))
 (.region [⟨(some 31), .bin .add (.t 25) (.c (.int .i64 1)), [], none⟩,
 ⟨(some 25), .mov (.t 31), [0], none⟩] [] [31])))))))
 (.seq (.region [⟨(some 32), .mov (.t 4), [], none⟩,
 ⟨(some 33), .iaddr none 1 (.t 32) (.c (.int .i64 0)), [0, 0], none⟩,
 ⟨none, .store 1 (.t 33) (.c (.int .i64 0)), [1, 0], none⟩] [] [24, 25, 32, 33])
 (.seq (.region [⟨(some 34), .bslice false .dyn 1 1 [(.int .i64 0)] [(0, 1, (.c (.int .i64 0)))], [], none⟩,
 ⟨(some 6), .mov (.t 34), [0, 0], none⟩] [] [34])
 (.seq (.seq (.region [⟨(some 7), .mov (.c (.int .i64 0)), [], none⟩] [] [])
 (.block 2 (.loop (.seq (.seq (.region [⟨(some 35), .mov (.t 7), [], none⟩,
 ⟨(some 36), .mov (.t 6), [], none⟩,
 ⟨(some 37), .len 1 (.t 36), [1], none⟩,
 ⟨(some 38), .bin .lss (.t 35) (.t 37), [0, 2], none⟩] [] [35, 36, 37])
 (.cond (.t 38)
 .skip
 (.exit 2)))
 (.seq (.block 3 (.seq (.seq (.region [⟨(some 42), .faddr 2 (.t 1), [], none⟩,
 ⟨(some 43), .load none (.t 42), [0], none⟩,
 ⟨(some 44), .mov (.t 6), [], none⟩,
 ⟨(some 45), .mov (.t 7), [], none⟩,
 ⟨(some 46), .iaddr none 1 (.t 44) (.t 45), [2, 3], none⟩,
 ⟨(some 47), .load none (.t 46), [4], none⟩,
 ⟨(some 48), .call .pure (.f 57) [(.t 43), (.t 47)], [1, 5], none⟩,
 ⟨(some 41), .mov (.t 48), [6], none⟩,
 ⟨(some 49), .extract 0 (.t 41), [7], none⟩,
 ⟨(some 50), .extract 1 (.t 41), [7], none⟩,
 ⟨(some 8), .mov (.t 49), [8, 6, 0, 1, 2, 3, 4, 5, 6, 7, 8], none⟩,
 ⟨(some 9), .mov (.t 50), [9, 10, 0, 1, 2, 3, 4, 5, 6, 7, 8, 9, 10], none⟩] [] [38, 42, 43, 44, 45, 46, 47, 48, 41, 49, 50, 8])
 (.seq (.region [⟨(some 51), .mov (.t 9), [], none⟩] [] [9])
 (.cond (.t 51)
 (.region [⟨(some 52), .faddr 2 (.t 3), [], none⟩,
 ⟨(some 53), .load none (.t 52), [0], none⟩,
 ⟨(some 54), .mov (.t 7), [], none⟩,
 ⟨(some 55), .bslice false .dyn 1 1 [(.int .i64 0)] [(0, 1, (.t 54))], [2], none⟩,
 ⟨(some 56), .append .dyn 1 8 (.t 53) (.t 55), [1, 3], none⟩,
 ⟨(some 57), .faddr 2 (.t 3), [0, 1, 2, 3, 4], none⟩,
 ⟨none, .store 1 (.t 57) (.t 56), [5, 4, 4, 0, 1, 2, 3, 4], none⟩] [] [51, 52, 53, 54, 55, 56, 57])
 .skip)))
 (.seq (.region [⟨(some 58), .load (some 4) (.t 1), [], none⟩,
 ⟨(some 59), .mov (.t 6), [], none⟩,
 ⟨(some 60), .mov (.t 7), [], none⟩,
 ⟨(some 61), .iaddr none 1 (.t 59) (.t 60), [1, 2], none⟩,
 ⟨(some 62), .load none (.t 61), [3], none⟩,
 ⟨(some 63), .call .pure (.f 58) [(.t 58), (.t 62)], [0, 4], none⟩,
 ⟨(some 64), .len 1 (.t 63), [5], none⟩,
 ⟨(some 65), .mov (.c (.int .i64 0)), [], none⟩] [] [51, 58, 59, 60, 61, 62])
 (.block 4 (.loop (.seq (.region [⟨(some 66), .bin .lss (.t 65) (.t 64), [], none⟩] [] [])
 (.seq (.cond (.t 66)
 .skip
 (.exit 4))
 (.seq (.block 5 (.seq (.region [⟨(some 67), .iaddr none 3 (.t 63) (.t 65), [], none⟩,
 ⟨(some 68), .load (some 3) (.t 67), [0], none⟩,
 ⟨(some 11), .alloc .dyn (.agg [(.int .i64 0), (.int .i64 0), (.int .i64 0)]), [], none⟩,
 ⟨none, .store 3 (.t 11) (.t 68), [2, 1, 0, 1, 2], none⟩] [] [66, 67, 68])
 (.seq (.seq (.region [⟨(some 69), .mov (.t 4), [], none⟩,
 ⟨(some 70), .faddr 2 (.t 11), [], none⟩,
 ⟨(some 71), .load none (.t 70), [1], none⟩,
 ⟨(some 72), .iaddr none 1 (.t 69) (.t 71), [0, 2], none⟩,
 ⟨(some 73), .load none (.t 72), [3], none⟩,
 ⟨(some 74), .bin .lss (.t 73) (.c (.int .i64 0)), [4], none⟩] [] [69, 70, 71, 72, 73])
 (.cond (.t 74)
 (.seq (.region [⟨(some 75), .mov (.t 4), [], none⟩,
 ⟨(some 76), .faddr 2 (.t 11), [], none⟩,
 ⟨(some 77), .load none (.t 76), [1], none⟩,
 ⟨(some 78), .mov (.t 6), [], none⟩,
 ⟨(some 79), .len 1 (.t 78), [3], none⟩,
 ⟨(some 80), .iaddr none 1 (.t 75) (.t 77), [0, 2, 0, 1, 2, 3, 4], none⟩,
 ⟨none, .store 1 (.t 80) (.t 79), [5, 4, 0, 1, 2, 3, 4], none⟩] [] [74, 75, 76, 77, 78, 79, 80])
 (.region [⟨(some 81), .mov (.t 6), [], none⟩,
 ⟨(some 82), .faddr 2 (.t 11), [], none⟩,
 ⟨(some 83), .load none (.t 82), [1], none⟩,
 ⟨(some 84), .bslice false .dyn 1 1 [(.int .i64 0)] [(0, 1, (.t 83))], [2], none⟩,
 ⟨(some 85), .append .dyn 1 8 (.t 81) (.t 84), [0, 3], none⟩,
 ⟨(some 6), .mov (.t 85), [4, 4, 0, 1, 2, 3, 4], none⟩] [] [81, 82, 83, 84, 85]))
 .skip))
 (.region [⟨(some 86), .faddr 3 (.t 3), [], none⟩,
 ⟨(some 87), .load none (.t 86), [0], none⟩,
 ⟨(some 88), .mov (.t 7), [], none⟩,
 ⟨(some 89), .faddr 1 (.t 11), [], none⟩,
 ⟨(some 90), .load none (.t 89), [3], none⟩,
 ⟨(some 91), .mov (.t 4), [], none⟩,
 ⟨(some 92), .faddr 2 (.t 11), [], none⟩,
 ⟨(some 93), .load none (.t 92), [6], none⟩,
 ⟨(some 94), .iaddr none 1 (.t 91) (.t 93), [5, 7], none⟩,
 ⟨(some 95), .load none (.t 94), [8], none⟩,
 ⟨(some 96), .build [(.int .i64 0), (.int .i64 0), (.int .i64 0)] [(0, 1, (.t 88)), (1, 1, (.t 90)), (2, 1, (.t 95))], [2, 4, 9], none⟩,
 ⟨(some 97), .bslice false .dyn 3 1 [(.int .i64 0), (.int .i64 0), (.int .i64 0)] [(0, 3, (.t 96))], [10], none⟩,
 ⟨(some 98), .append .dyn 3 24 (.t 87) (.t 97), [1, 11], none⟩,
 ⟨(some 99), .faddr 3 (.t 3), [0, 1, 2, 3, 4, 5, 6, 7, 8, 9, 10, 11, 12], none⟩,
 ⟨none, .store 1 (.t 99) (.t 98), [13, 12, 12, 0, 1, 2, 3, 4, 5, 6, 7, 8, 9, 10, 11, 12], none⟩] [] [11, 74, 86, 87, 88, 89, 90, 91, 92, 93, 94, 95, 96, 97, 98, 99]))))
 (.region [⟨(some 100), .bin .add (.t 65) (.c (.int .i64 1)), [], none⟩,
 ⟨(some 65), .mov (.t 100), [0], none⟩] [] [100])))))))))
 (.region [⟨(some 39), .mov (.t 7), [], none⟩,
 ⟨(some 40), .bin .add (.t 39) (.c (.int .i64 1)), [0], none⟩,
 ⟨(some 7), .mov (.t 40), [1, 0, 1], none⟩] [] [63, 64, 65, 39, 40]))))))
 (.seq (.region [⟨(some 101), .mov (.t 6), [], none⟩,
 ⟨(some 102), .len 1 (.t 101), [0], none⟩,
 ⟨(some 103), .faddr 1 (.t 3), [0, 1], none⟩,
 ⟨none, .store 1 (.t 103) (.t 102), [2, 1, 0, 1], none⟩] [] [1, 4, 6, 7, 101, 102, 103])
 (.seq (.region [⟨(some 104), .load (some 4) (.t 3), [], none⟩,
 ⟨none, .store 4 (.t 2) (.t 104), [0, 0], none⟩] [] [3, 104])
 .ret))))))))))⟩
def s45 : SFn := ⟨7, [.cell 2 (some 4)],
 (.seq (.region [⟨(some 2), .alloc .dyn (.agg [.nilsl, (.int .i64 0), .nilsl, .nilsl]), [], none⟩] [] [])
 (.seq (.region [⟨(some 3), .bslice false .dyn 1 0 [] [], [], none⟩,
 ⟨(some 4), .mov (.t 0), [], none⟩,
 ⟨(some 5), .append .dyn 1 8 (.t 3) (.t 4), [0, 1], none⟩,
 ⟨(some 6), .build [.nilsl, (.int .i64 0), .nilsl, .nilsl] [(0, 1, (.t 5))], [2], none⟩,
 ⟨none, .store 4 (.t 2) (.t 6), [3, 2, 0, 1, 2, 3], none⟩] [] [0, 3, 4, 5, 6])
 .ret))⟩
def s46 : SFn := ⟨71, [.cell 2 (some 4)],
 (.seq (.region [⟨(some 1), .box .dyn (.t 0), [], none⟩,
 ⟨(some 2), .alloc .dyn (.agg [.nilsl, (.int .i64 0), .nilsl, .nilsl]), [], none⟩] [] [0])
 (.seq (.region [⟨(some 8), .load (some 4) (.t 1), [], none⟩,
 ⟨(some 9), .call .pure (.f 59) [(.t 8)], [0], none⟩,
 ⟨(some 3), .mov (.t 9), [1, 1, 0, 1], none⟩] [] [8, 9])
 (.seq (.region [⟨(some 10), .faddr 0 (.t 1), [], none⟩,
 ⟨(some 11), .load none (.t 10), [0], none⟩,
 ⟨(some 12), .call .pure (.f 45) [(.t 11)], [1], none⟩,
 ⟨(some 4), .alloc .dyn (.agg [.nilsl, (.int .i64 0), .nilsl, .nilsl]), [], none⟩,
 ⟨none, .store 4 (.t 4) (.t 12), [3, 2, 2, 0, 1, 2, 3], none⟩] [] [10, 11, 12])
 (.seq (.region [⟨(some 13), .mov (.t 3), [], none⟩,
 ⟨(some 14), .len 1 (.t 13), [0], none⟩,
 ⟨(some 15), .faddr 1 (.t 4), [0, 1], none⟩,
 ⟨none, .store 1 (.t 15) (.t 14), [2, 1, 0, 1], none⟩] [] [13, 14, 15])
 (.seq (.seq (.region [⟨(some 5), .mov (.c (.int .i64 0)), [], none⟩] [] [])
 (.block 0 (.loop (.seq (.seq (.region [⟨(some 16), .mov (.t 5), [], none⟩,
 ⟨(some 17), .mov (.t 3), [], none⟩,
 ⟨(some 18), .len 1 (.t 17), [1], none⟩,
 ⟨(some 19), .bin .lss (.t 16) (.t 18), [0, 2], none⟩] [] [16, 17, 18])
 (.cond (.t 19)
 .skip
 (.exit 0)))
 (.seq (.block 1 (.seq (.seq (.region [⟨(some 22), .faddr 2 (.t 1), [], none⟩,
 ⟨(some 23), .load none (.t 22), [0], none⟩,
 ⟨(some 24), .mov (.t 3), [], none⟩,
 ⟨(some 25), .mov (.t 5), [], none⟩,
 ⟨(some 26), .iaddr none 1 (.t 24) (.t 25), [2, 3], none⟩,
 ⟨(some 27), .load none (.t 26), [4], none⟩,
 ⟨(some 28), .call .heap (.f 36) [(.t 23), (.t 27)], [1, 5], none⟩] [] [19, 22, 23, 24, 25, 26, 27])
 (.cond (.t 28)
 (.region [⟨(some 29), .faddr 2 (.t 4), [], none⟩,
 ⟨(some 30), .load none (.t 29), [0], none⟩,
 ⟨(some 31), .mov (.t 5), [], none⟩,
 ⟨(some 32), .bslice false .dyn 1 1 [(.int .i64 0)] [(0, 1, (.t 31))], [2], none⟩,
 ⟨(some 33), .append .dyn 1 8 (.t 30) (.t 32), [1, 3], none⟩,
 ⟨(some 34), .faddr 2 (.t 4), [0, 1, 2, 3, 4], none⟩,
 ⟨none, .store 1 (.t 34) (.t 33), [5, 4, 4, 0, 1, 2, 3, 4], none⟩] [] [28, 29, 30, 31, 32, 33, 34])
 .skip))
 (.seq (.region [⟨(some 6), .mov (.c (.int .i64 0)), [], none⟩] [] [28])
 (.block 2 (.loop (.seq (.seq (.region [⟨(some 35), .mov (.t 6), [], none⟩,
 ⟨(some 36), .faddr 0 (.t 1), [], none⟩,
 ⟨(some 37), .load none (.t 36), [1], none⟩,
 ⟨(some 38), .len 1 (.t 37), [2], none⟩,
 ⟨(some 39), .bin .lss (.t 35) (.t 38), [0, 3], none⟩] [] [35, 36, 37, 38])
 (.cond (.t 39)
 .skip
 (.exit 2)))
 (.seq (.block 3 (.seq (.region [⟨(some 42), .load (some 4) (.t 1), [], none⟩,
 ⟨(some 43), .mov (.t 3), [], none⟩,
 ⟨(some 44), .mov (.t 5), [], none⟩,
 ⟨(some 45), .iaddr none 1 (.t 43) (.t 44), [1, 2], none⟩,
 ⟨(some 46), .load none (.t 45), [3], none⟩,
 ⟨(some 47), .faddr 0 (.t 1), [], none⟩,
 ⟨(some 48), .load none (.t 47), [5], none⟩,
 ⟨(some 49), .mov (.t 6), [], none⟩,
 ⟨(some 50), .iaddr none 1 (.t 48) (.t 49), [6, 7], none⟩,
 ⟨(some 51), .load none (.t 50), [8], none⟩,
 ⟨(some 52), .call .pure (.f 60) [(.t 42), (.t 46), (.t 51)], [0, 4, 9], none⟩,
 ⟨(some 7), .mov (.t 52), [10, 10, 0, 1, 2, 3, 4, 5, 6, 7, 8, 9, 10], none⟩] [] [39, 42, 43, 44, 45, 46, 47, 48, 49, 50, 51, 52])
 (.seq (.region [⟨(some 53), .mov (.t 7), [], none⟩,
 ⟨(some 54), .bin .geq (.t 53) (.c (.int .i64 0)), [0], none⟩] [] [53])
 (.cond (.t 54)
 (.region [⟨(some 55), .faddr 3 (.t 4), [], none⟩,
 ⟨(some 56), .load none (.t 55), [0], none⟩,
 ⟨(some 57), .mov (.t 5), [], none⟩,
 ⟨(some 58), .faddr 0 (.t 1), [], none⟩,
 ⟨(some 59), .load none (.t 58), [3], none⟩,
 ⟨(some 60), .mov (.t 6), [], none⟩,
 ⟨(some 61), .iaddr none 1 (.t 59) (.t 60), [4, 5], none⟩,
 ⟨(some 62), .load none (.t 61), [6], none⟩,
 ⟨(some 63), .mov (.t 3), [], none⟩,
 ⟨(some 64), .mov (.t 7), [], none⟩,
 ⟨(some 65), .call .pure (.f 61) [(.t 63), (.t 64)], [8, 9], none⟩,
 ⟨(some 66), .build [(.int .i64 0), (.int .i64 0), (.int .i64 0)] [(0, 1, (.t 57)), (1, 1, (.t 62)), (2, 1, (.t 65))], [2, 7, 10], none⟩,
 ⟨(some 67), .bslice false .dyn 3 1 [(.int .i64 0), (.int .i64 0), (.int .i64 0)] [(0, 3, (.t 66))], [11], none⟩,
 ⟨(some 68), .append .dyn 3 24 (.t 56) (.t 67), [1, 12, 10], none⟩,
 ⟨(some 69), .faddr 3 (.t 4), [0, 1, 2, 3, 4, 5, 6, 7, 8, 9, 10, 11, 12, 13], none⟩,
 ⟨none, .store 1 (.t 69) (.t 68), [14, 13, 13, 0, 1, 2, 3, 4, 5, 6, 7, 8, 9, 10, 11, 12, 13], none⟩] [] [7, 54, 55, 56, 57, 58, 59, 60, 61, 62, 63, 64, 65, 66, 67, 68, 69])
 .skip))))
 (.region [⟨(some 40), .mov (.t 6), [], none⟩,
 ⟨(some 41), .bin .add (.t 40) (.c (.int .i64 1)), [0], none⟩,
 ⟨(some 6), .mov (.t 41), [1, 0, 1], none⟩] [] [7, 54, 40, 41]))))))))
 (.region [⟨(some 20), .mov (.t 5), [], none⟩,
 ⟨(some 21), .bin .add (.t 20) (.c (.int .i64 1)), [0], none⟩,
 ⟨(some 5), .mov (.t 21), [1, 0, 1], none⟩] [] [6, 20, 21]))))))
 (.seq (.region [⟨(some 70), .load (some 4) (.t 4), [], none⟩,
 ⟨none, .store 4 (.t 2) (.t 70), [0, 0], none⟩] [] [1, 3, 4, 5, 70])
 .ret))))))⟩
def s47 : SFn := ⟨74, [.tmp 4],
 (.seq (.region [⟨(some 4), .mov (.c .nilsl), [], none⟩] [] [4])
 (.seq (.region [⟨(some 5), .mov (.c .nilsl), [], none⟩] [] [])
 (.seq (.seq (.region [⟨(some 9), .mov (.t 0), [], none⟩,
 ⟨(some 10), .nilchk (.t 9), [0], none⟩,
 ⟨(some 11), .faddr 0 (.t 10), [1], none⟩,
 ⟨(some 12), .faddr 3 (.t 11), [2], none⟩,
 ⟨(some 13), .load none (.t 12), [3], none⟩,
 ⟨(some 14), .len 1 (.t 13), [4], none⟩,
 ⟨(some 15), .mov (.c (.int .i64 0)), [], none⟩] [] [9, 10, 11, 12])
 (.block 0 (.loop (.seq (.region [⟨(some 16), .bin .lss (.t 15) (.t 14), [], none⟩] [] [])
 (.seq (.cond (.t 16)
 .skip
 (.exit 0))
 (.seq (.block 1 (.seq (.region [⟨(some 17), .iaddr none 3 (.t 13) (.t 15), [], none⟩,
 ⟨(some 18), .load (some 3) (.t 17), [0], none⟩,
 ⟨(some 7), .alloc .dyn (.agg [(.int .i64 0), (.int .i64 0), (.int .i64 0)]), [], none⟩,
 ⟨none, .store 3 (.t 7) (.t 18), [2, 1, 0, 1, 2], none⟩] [] [16, 17, 18])
 (.seq (.seq (.region [⟨(some 19), .mov (.t 0), [], none⟩,
 ⟨(some 20), .nilchk (.t 19), [0], none⟩,
 ⟨(some 21), .faddr 6 (.t 20), [1], none⟩,
 ⟨(some 22), .load none (.t 21), [2], none⟩,
 ⟨(some 23), .faddr 0 (.t 7), [], none⟩,
 ⟨(some 24), .load none (.t 23), [4], none⟩,
 ⟨(some 25), .iaddr none 1 (.t 22) (.t 24), [3, 5], none⟩,
 ⟨(some 26), .load none (.t 25), [6], none⟩,
 ⟨(some 27), .un .not (.t 26), [7], none⟩,
 ⟨(some 28), .mov (.t 27), [8], none⟩,
 ⟨(some 29), .mov (.t 0), [9], (some (28, false))⟩,
 ⟨(some 30), .nilchk (.t 29), [10, 9], (some (28, false))⟩,
 ⟨(some 31), .faddr 6 (.t 30), [11, 9], (some (28, false))⟩,
 ⟨(some 32), .load none (.t 31), [12, 9], (some (28, false))⟩,
 ⟨(some 33), .faddr 2 (.t 7), [9], (some (28, false))⟩,
 ⟨(some 34), .load none (.t 33), [14, 9], (some (28, false))⟩,
 ⟨(some 35), .iaddr none 1 (.t 32) (.t 34), [13, 15, 9], (some (28, false))⟩,
 ⟨(some 36), .load none (.t 35), [16, 9], (some (28, false))⟩,
 ⟨(some 37), .pick (.t 28) (.c (.bool true)) (.t 36), [9, 17], none⟩,
 ⟨(some 38), .mov (.t 37), [18, 9], none⟩,
 ⟨(some 39), .mov (.t 0), [19], (some (38, false))⟩,
 ⟨(some 40), .nilchk (.t 39), [20, 19], (some (38, false))⟩,
 ⟨(some 41), .faddr 4 (.t 40), [21, 19], (some (38, false))⟩,
 ⟨(some 42), .load none (.t 41), [22, 19], (some (38, false))⟩,
 ⟨(some 43), .faddr 1 (.t 7), [19], (some (38, false))⟩,
 ⟨(some 44), .load none (.t 43), [24, 19], (some (38, false))⟩,
 ⟨(some 45), .call .pure (.f 62) [(.t 42), (.t 44)], [23, 25, 19, 19], (some (38, false))⟩,
 ⟨(some 46), .un .not (.t 45), [26, 19], (some (38, false))⟩,
 ⟨(some 47), .pick (.t 38) (.c (.bool true)) (.t 46), [19, 27], none⟩] [] [19, 20, 21, 22, 23, 24, 25, 26, 27, 28, 37, 38])
 (.cond (.t 47)
 (.exit 1)
 .skip))
 (.seq (.seq (.region [⟨(some 48), .mov (.t 5), [], none⟩,
 ⟨(some 49), .len 1 (.t 48), [0], none⟩,
 ⟨(some 8), .mov (.t 49), [1, 0, 1], none⟩] [] [47, 48, 49])
 (.seq (.region [⟨(some 50), .mov (.t 8), [], none⟩,
 ⟨(some 51), .bin .gtr (.t 50) (.c (.int .i64 0)), [0], none⟩,
 ⟨(some 52), .mov (.t 51), [1], none⟩,
 ⟨(some 53), .mov (.t 5), [2], (some (52, true))⟩,
 ⟨(some 54), .mov (.t 8), [2], (some (52, true))⟩,
 ⟨(some 55), .bin .sub (.t 54) (.c (.int .i64 1)), [4, 2], (some (52, true))⟩,
 ⟨(some 56), .iaddr none 4 (.t 53) (.t 55), [3, 5, 2], (some (52, true))⟩,
 ⟨(some 57), .faddr 0 (.t 56), [6, 2], (some (52, true))⟩,
 ⟨(some 58), .load none (.t 57), [7, 2], (some (52, true))⟩,
 ⟨(some 59), .faddr 0 (.t 7), [2], (some (52, true))⟩,
 ⟨(some 60), .load none (.t 59), [9, 2], (some (52, true))⟩,
 ⟨(some 61), .bin .eql (.t 58) (.t 60), [8, 10, 2], (some (52, true))⟩,
 ⟨(some 62), .pick (.t 52) (.t 61) (.c (.bool false)), [2, 11], none⟩] [] [8, 50, 51, 52])
 (.cond (.t 62)
 (.exit 1)
 .skip)))
 (.region [⟨(some 63), .mov (.t 5), [], none⟩,
 ⟨(some 64), .faddr 0 (.t 7), [], none⟩,
 ⟨(some 65), .load none (.t 64), [1], none⟩,
 ⟨(some 66), .mov (.t 1), [], none⟩,
 ⟨(some 67), .faddr 1 (.t 7), [], none⟩,
 ⟨(some 68), .load none (.t 67), [4], none⟩,
 ⟨(some 69), .build [(.int .i64 0), (.int .i64 0), (.int .i64 0), (.int .i64 0)] [(0, 1, (.t 65)), (1, 1, (.t 66)), (2, 1, (.c (.int .i64 2))), (3, 1, (.t 68))], [2, 3, 5], none⟩,
 ⟨(some 70), .bslice false .dyn 4 1 [(.int .i64 0), (.int .i64 0), (.int .i64 0), (.int .i64 0)] [(0, 4, (.t 69))], [6], none⟩,
 ⟨(some 71), .append .dyn 4 32 (.t 63) (.t 70), [0, 7], none⟩,
 ⟨(some 5), .mov (.t 71), [8, 8, 0, 1, 2, 3, 4, 5, 6, 7, 8], none⟩] [] [7, 62, 63, 64, 65, 66, 67, 68, 69, 70, 71])))))
 (.region [⟨(some 72), .bin .add (.t 15) (.c (.int .i64 1)), [], none⟩,
 ⟨(some 15), .mov (.t 72), [0], none⟩] [] [72])))))))
 (.seq (.region [⟨(some 73), .mov (.t 5), [], none⟩,
 ⟨(some 4), .mov (.t 73), [0, 0], none⟩] [] [0, 1, 5, 13, 14, 15, 61, 58, 60, 59, 57, 56, 53, 55, 54, 46, 45, 42, 44, 43, 41, 40, 39, 36, 35, 32, 34, 33, 31, 30, 29, 73])
 .ret))))⟩
def s48 : SFn := ⟨35, [.tmp 4],
 (.seq (.region [⟨(some 4), .mov (.c .nilsl), [], none⟩] [] [4])
 (.seq (.region [⟨(some 5), .mov (.c .nilsl), [], none⟩] [] [])
 (.seq (.seq (.region [⟨(some 8), .mov (.t 0), [], none⟩,
 ⟨(some 9), .call .heap (.f 53) [(.t 8)], [0], none⟩,
 ⟨(some 10), .len 1 (.t 9), [1], none⟩,
 ⟨(some 11), .mov (.c (.int .i64 0)), [], none⟩] [] [8])
 (.block 0 (.loop (.seq (.region [⟨(some 12), .bin .lss (.t 11) (.t 10), [], none⟩] [] [])
 (.seq (.cond (.t 12)
 .skip
 (.exit 0))
 (.seq (.block 1 (.seq (.region [⟨(some 13), .mov (.t 11), [], none⟩,
 ⟨(some 14), .iaddr none 1 (.t 9) (.t 11), [], none⟩,
 ⟨(some 15), .load none (.t 14), [1], none⟩,
 ⟨(some 6), .mov (.t 13), [0, 0, 1, 2], none⟩,
 ⟨(some 7), .mov (.t 15), [2, 3, 0, 1, 2, 3], none⟩] [] [12, 13, 14, 15])
 (.seq (.region [⟨(some 16), .mov (.t 0), [], none⟩,
 ⟨(some 17), .nilchk (.t 16), [0], none⟩,
 ⟨(some 18), .faddr 6 (.t 17), [1], none⟩,
 ⟨(some 19), .load none (.t 18), [2], none⟩,
 ⟨(some 20), .mov (.t 6), [], none⟩,
 ⟨(some 21), .iaddr none 1 (.t 19) (.t 20), [3, 4], none⟩,
 ⟨(some 22), .load none (.t 21), [5], none⟩,
 ⟨(some 23), .mov (.t 22), [6], none⟩,
 ⟨(some 24), .mov (.t 7), [7], (some (23, true))⟩,
 ⟨(some 25), .bin .lss (.t 24) (.c (.int .i64 0)), [8, 7], (some (23, true))⟩,
 ⟨(some 26), .pick (.t 23) (.t 25) (.c (.bool false)), [7, 9], none⟩] [] [7, 16, 17, 18, 19, 20, 21, 22, 23])
 (.cond (.t 26)
 (.region [⟨(some 27), .mov (.t 5), [], none⟩,
 ⟨(some 28), .mov (.t 6), [], none⟩,
 ⟨(some 29), .mov (.t 1), [], none⟩,
 ⟨(some 30), .build [(.int .i64 0), (.int .i64 0), (.int .i64 0), (.int .i64 0)] [(0, 1, (.t 28)), (1, 1, (.t 29)), (2, 1, (.c (.int .i64 3))), (3, 1, (.c (.int .i64 (-1))))], [1, 2], none⟩,
 ⟨(some 31), .bslice false .dyn 4 1 [(.int .i64 0), (.int .i64 0), (.int .i64 0), (.int .i64 0)] [(0, 4, (.t 30))], [3], none⟩,
 ⟨(some 32), .append .dyn 4 32 (.t 27) (.t 31), [0, 4], none⟩,
 ⟨(some 5), .mov (.t 32), [5, 5, 0, 1, 2, 3, 4, 5], none⟩] [] [6, 26, 27, 28, 29, 30, 31, 32])
 .skip))))
 (.region [⟨(some 33), .bin .add (.t 11) (.c (.int .i64 1)), [], none⟩,
 ⟨(some 11), .mov (.t 33), [0], none⟩] [] [6, 26, 33])))))))
 (.seq (.region [⟨(some 34), .mov (.t 5), [], none⟩,
 ⟨(some 4), .mov (.t 34), [0, 0], none⟩] [] [0, 1, 5, 9, 10, 11, 25, 24, 34])
 .ret))))⟩
def s49 : SFn := ⟨35, [.tmp 4],
 (.seq (.region [⟨(some 4), .mov (.c (.int .i64 0)), [], none⟩] [] [4])
 (.seq (.seq (.region [⟨(some 7), .mov (.t 0), [], none⟩,
 ⟨(some 8), .len 1 (.t 7), [0], none⟩,
 ⟨(some 9), .mov (.c (.int .i64 0)), [], none⟩] [] [])
 (.block 0 (.loop (.seq (.region [⟨(some 10), .bin .lss (.t 9) (.t 8), [], none⟩] [] [])
 (.seq (.cond (.t 10)
 .skip
 (.exit 0))
 (.seq (.block 1 (.seq (.region [⟨(some 11), .mov (.t 9), [], none⟩,
 ⟨(some 12), .iaddr none 1 (.t 7) (.t 9), [], none⟩,
 ⟨(some 13), .load none (.t 12), [1], none⟩,
 ⟨(some 5), .mov (.t 11), [0, 0, 1, 2], none⟩,
 ⟨(some 6), .mov (.t 13), [2, 3, 0, 1, 2, 3], none⟩] [] [10, 11, 12, 13])
 (.block 2 (.seq (.region [⟨(some 15), .mov (.t 6), [], none⟩,
 ⟨(some 16), .bin .lss (.t 15) (.c (.int .i64 0)), [0], none⟩,
 ⟨(some 17), .mov (.t 16), [1], none⟩,
 ⟨(some 18), .mov (.t 6), [2], (some (17, false))⟩,
 ⟨(some 19), .mov (.t 1), [2], (some (17, false))⟩,
 ⟨(some 20), .bin .geq (.t 18) (.t 19), [3, 4, 2], (some (17, false))⟩,
 ⟨(some 21), .pick (.t 17) (.c (.bool true)) (.t 20), [2, 5], none⟩,
 ⟨(some 14), .mov (.t 21), [6, 2], none⟩] [] [15, 16, 17, 21])
 (.cond (.t 14)
 (.seq (.region [⟨(some 4), .mov (.c (.int .i64 2)), [], none⟩] [] [0, 1, 7, 8, 9, 32, 26, 31, 30, 27, 29, 28, 20, 18, 19, 5, 6, 14])
 .ret)
 (.seq (.region [⟨(some 23), .mov (.t 5), [], none⟩,
 ⟨(some 24), .bin .gtr (.t 23) (.c (.int .i64 0)), [0], none⟩,
 ⟨(some 25), .mov (.t 24), [1], none⟩,
 ⟨(some 26), .mov (.t 6), [2], (some (25, true))⟩,
 ⟨(some 27), .mov (.t 0), [2], (some (25, true))⟩,
 ⟨(some 28), .mov (.t 5), [2], (some (25, true))⟩,
 ⟨(some 29), .bin .sub (.t 28) (.c (.int .i64 1)), [5, 2], (some (25, true))⟩,
 ⟨(some 30), .iaddr none 1 (.t 27) (.t 29), [4, 6, 2], (some (25, true))⟩,
 ⟨(some 31), .load none (.t 30), [7, 2], (some (25, true))⟩,
 ⟨(some 32), .bin .leq (.t 26) (.t 31), [3, 8, 2], (some (25, true))⟩,
 ⟨(some 33), .pick (.t 25) (.t 32) (.c (.bool false)), [2, 9], none⟩,
 ⟨(some 22), .mov (.t 33), [10, 2], none⟩] [] [5, 6, 14, 23, 24, 25, 33])
 (.cond (.t 22)
 (.seq (.region [⟨(some 4), .mov (.c (.int .i64 5)), [], none⟩] [] [0, 1, 7, 8, 9, 32, 26, 31, 30, 27, 29, 28, 20, 18, 19, 22])
 .ret)
 .skip)))))))
 (.region [⟨(some 34), .bin .add (.t 9) (.c (.int .i64 1)), [], none⟩,
 ⟨(some 9), .mov (.t 34), [0], none⟩] [] [4, 22, 34])))))))
 (.seq (.region [⟨(some 4), .mov (.c (.int .i64 0)), [], none⟩] [] [0, 1, 7, 8, 9, 32, 26, 31, 30, 27, 29, 28, 20, 18, 19])
 .ret)))⟩
def s50 : SFn := ⟨72, [.tmp 2],
 (.seq (.region [⟨(some 1), .box .dyn (.t 0), [], none⟩,
 ⟨(some 2), .mov (.c (.int .i64 0)), [], none⟩] [] [0, 2])
 (.seq (.seq (.region [⟨(some 6), .faddr 3 (.t 1), [], none⟩,
 ⟨(some 7), .load none (.t 6), [0], none⟩,
 ⟨(some 8), .len 1 (.t 7), [1], none⟩,
 ⟨(some 9), .mov (.c (.int .i64 0)), [], none⟩] [] [6])
 (.block 0 (.loop (.seq (.region [⟨(some 10), .bin .lss (.t 9) (.t 8), [], none⟩] [] [])
 (.seq (.cond (.t 10)
 .skip
 (.exit 0))
 (.seq (.block 1 (.seq (.region [⟨(some 11), .mov (.t 9), [], none⟩,
 ⟨(some 12), .iaddr none 3 (.t 7) (.t 9), [], none⟩,
 ⟨(some 13), .load (some 3) (.t 12), [1], none⟩,
 ⟨(some 4), .alloc .dyn (.agg [(.int .i64 0), (.int .i64 0), (.int .i64 0)]), [], none⟩,
 ⟨(some 3), .mov (.t 11), [0, 0, 1, 2, 3], none⟩,
 ⟨none, .store 3 (.t 4) (.t 13), [3, 2, 4, 0, 1, 2, 3, 4], none⟩] [] [10, 11, 12, 13])
 (.seq (.block 2 (.seq (.region [⟨(some 15), .faddr 0 (.t 4), [], none⟩,
 ⟨(some 16), .load none (.t 15), [0], none⟩,
 ⟨(some 17), .bin .lss (.t 16) (.c (.int .i64 0)), [1], none⟩,
 ⟨(some 18), .mov (.t 17), [2], none⟩,
 ⟨(some 19), .faddr 0 (.t 4), [3], (some (18, false))⟩,
 ⟨(some 20), .load none (.t 19), [4, 3], (some (18, false))⟩,
 ⟨(some 21), .faddr 1 (.t 1), [3], (some (18, false))⟩,
 ⟨(some 22), .load none (.t 21), [6, 3], (some (18, false))⟩,
 ⟨(some 23), .bin .geq (.t 20) (.t 22), [5, 7, 3], (some (18, false))⟩,
 ⟨(some 24), .pick (.t 18) (.c (.bool true)) (.t 23), [3, 8], none⟩,
 ⟨(some 25), .mov (.t 24), [9, 3], none⟩,
 ⟨(some 26), .faddr 2 (.t 4), [10], (some (25, false))⟩,
 ⟨(some 27), .load none (.t 26), [11, 10], (some (25, false))⟩,
 ⟨(some 28), .bin .lss (.t 27) (.c (.int .i64 0)), [12, 10], (some (25, false))⟩,
 ⟨(some 29), .pick (.t 25) (.c (.bool true)) (.t 28), [10, 13], none⟩,
 ⟨(some 30), .mov (.t 29), [14, 10], none⟩,
 ⟨(some 31), .faddr 2 (.t 4), [15], (some (30, false))⟩,
 ⟨(some 32), .load none (.t 31), [16, 15], (some (30, false))⟩,
 ⟨(some 33), .faddr 1 (.t 1), [15], (some (30, false))⟩,
 ⟨(some 34), .load none (.t 33), [18, 15], (some (30, false))⟩,
 ⟨(some 35), .bin .geq (.t 32) (.t 34), [17, 19, 15], (some (30, false))⟩,
 ⟨(some 36), .pick (.t 30) (.c (.bool true)) (.t 35), [15, 20], none⟩,
 ⟨(some 14), .mov (.t 36), [21, 15], none⟩] [] [15, 16, 17, 18, 24, 25, 29, 30, 36])
 (.cond (.t 14)
 (.seq (.region [⟨(some 2), .mov (.c (.int .i64 2)), [], none⟩] [] [1, 7, 8, 9, 69, 63, 68, 65, 67, 66, 64, 62, 59, 61, 60, 58, 35, 32, 34, 33, 31, 28, 27, 26, 23, 20, 22, 21, 19, 4, 3, 14])
 .ret)
 (.seq (.region [⟨(some 38), .faddr 0 (.t 1), [], none⟩,
 ⟨(some 39), .load none (.t 38), [0], none⟩,
 ⟨(some 40), .faddr 1 (.t 4), [], none⟩,
 ⟨(some 41), .load none (.t 40), [2], none⟩,
 ⟨(some 42), .call .pure (.f 62) [(.t 39), (.t 41)], [1, 3], none⟩,
 ⟨(some 43), .un .not (.t 42), [4], none⟩,
 ⟨(some 37), .mov (.t 43), [5, 4], none⟩] [] [14, 38, 39, 40, 41, 42, 43])
 (.cond (.t 37)
 (.seq (.region [⟨(some 2), .mov (.c (.int .i64 9)), [], none⟩] [] [1, 7, 8, 9, 69, 63, 68, 65, 67, 66, 64, 62, 59, 61, 60, 58, 35, 32, 34, 33, 31, 28, 27, 26, 23, 20, 22, 21, 19, 4, 3, 37])
 .ret)
 .skip)))))
 (.seq (.seq (.region [⟨(some 44), .mov (.t 3), [], none⟩,
 ⟨(some 45), .bin .eql (.t 44) (.c (.int .i64 0)), [0], none⟩] [] [2, 37, 44])
 (.cond (.t 45)
 (.exit 1)
 .skip))
 (.seq (.region [⟨(some 46), .faddr 3 (.t 1), [], none⟩,
 ⟨(some 47), .load none (.t 46), [0], none⟩,
 ⟨(some 48), .mov (.t 3), [], none⟩,
 ⟨(some 49), .bin .sub (.t 48) (.c (.int .i64 1)), [2], none⟩,
 ⟨(some 50), .iaddr none 3 (.t 47) (.t 49), [1, 3], none⟩,
 ⟨(some 51), .load (some 3) (.t 50), [4], none⟩,
 ⟨(some 5), .alloc .dyn (.agg [(.int .i64 0), (.int .i64 0), (.int .i64 0)]), [], none⟩,
 ⟨none, .store 3 (.t 5) (.t 51), [6, 5, 0, 1, 2, 3, 4, 5, 6], none⟩] [] [3, 45, 46, 47, 48, 49, 50, 51])
 (.seq (.region [⟨(some 52), .faddr 0 (.t 4), [], none⟩,
 ⟨(some 53), .load none (.t 52), [0], none⟩,
 ⟨(some 54), .faddr 0 (.t 5), [], none⟩,
 ⟨(some 55), .load none (.t 54), [2], none⟩,
 ⟨(some 56), .bin .lss (.t 53) (.t 55), [1, 3], none⟩,
 ⟨(some 57), .mov (.t 56), [4], none⟩,
 ⟨(some 58), .faddr 0 (.t 4), [5], (some (57, false))⟩,
 ⟨(some 59), .load none (.t 58), [6, 5], (some (57, false))⟩,
 ⟨(some 60), .faddr 0 (.t 5), [5], (some (57, false))⟩,
 ⟨(some 61), .load none (.t 60), [8, 5], (some (57, false))⟩,
 ⟨(some 62), .bin .eql (.t 59) (.t 61), [7, 9, 5], (some (57, false))⟩,
 ⟨(some 63), .mov (.t 62), [10, 5, 5], (some (57, false))⟩,
 ⟨(some 64), .faddr 1 (.t 4), [11], (some (63, true))⟩,
 ⟨(some 65), .load none (.t 64), [12, 11], (some (63, true))⟩,
 ⟨(some 66), .faddr 1 (.t 5), [11], (some (63, true))⟩,
 ⟨(some 67), .load none (.t 66), [14, 11], (some (63, true))⟩,
 ⟨(some 68), .bin .leq (.t 65) (.t 67), [13, 15, 11], (some (63, true))⟩,
 ⟨(some 69), .pick (.t 63) (.t 68) (.c (.bool false)), [11, 16, 5], (some (57, false))⟩,
 ⟨(some 70), .pick (.t 57) (.c (.bool true)) (.t 69), [5, 17], none⟩] [] [4, 5, 52, 53, 54, 55, 56, 57])
 (.cond (.t 70)
 (.seq (.region [⟨(some 2), .mov (.c (.int .i64 5)), [], none⟩] [] [1, 7, 8, 9, 69, 63, 68, 65, 67, 66, 64, 62, 59, 61, 60, 58, 35, 32, 34, 33, 31, 28, 27, 26, 23, 20, 22, 21, 19, 70])
 .ret)
 .skip)))))))
 (.region [⟨(some 71), .bin .add (.t 9) (.c (.int .i64 1)), [], none⟩,
 ⟨(some 9), .mov (.t 71), [0], none⟩] [] [2, 70, 71])))))))
 (.seq (.region [⟨(some 2), .mov (.c (.int .i64 0)), [], none⟩] [] [1, 7, 8, 9, 69, 63, 68, 65, 67, 66, 64, 62, 59, 61, 60, 58, 35, 32, 34, 33, 31, 28, 27, 26, 23, 20, 22, 21, 19])
 .ret)))⟩
def s51 : SFn := ⟨14, [],
 (.seq (.region [⟨(some 5), .mov (.t 0), [], none⟩,
 ⟨(some 6), .len 1 (.t 5), [0], none⟩,
 ⟨(some 4), .mov (.t 6), [1, 0, 1], none⟩] [] [5, 6])
 (.region [⟨(some 7), .mov (.t 0), [], none⟩,
 ⟨(some 8), .mov (.t 4), [], none⟩,
 ⟨(some 9), .mov (.t 4), [], none⟩,
 ⟨(some 10), .conv .u64 (.t 9), [2], none⟩,
 ⟨(some 11), .call .pure (.f 64) [(.t 10)], [3], none⟩,
 ⟨(some 12), .mov (.t 1), [], none⟩,
 ⟨(some 13), .call .heap (.f 63) [(.t 7), (.c (.int .i64 0)), (.t 8), (.t 11), (.t 12)], [0, 1, 4, 5, 4], none⟩] [] [0, 1, 4, 7, 8, 9, 10, 11, 12, 13]))⟩
def s52 : SFn := ⟨10, [.tmp 4],
 (.seq (.region [⟨(some 2), .box .dyn (.t 0), [], none⟩,
 ⟨(some 3), .box .dyn (.t 1), [], none⟩,
 ⟨(some 4), .mov (.c (.int .i64 0)), [], none⟩] [] [0, 1, 4])
 (.seq (.region [⟨(some 5), .faddr 0 (.t 2), [], none⟩,
 ⟨(some 6), .load none (.t 5), [0], none⟩,
 ⟨(some 7), .faddr 0 (.t 3), [], none⟩,
 ⟨(some 8), .load none (.t 7), [2], none⟩,
 ⟨(some 9), .bin .sub (.t 6) (.t 8), [1, 3], none⟩,
 ⟨(some 4), .mov (.t 9), [4, 0, 1, 2, 3, 4], none⟩] [] [2, 3, 5, 6, 7, 8, 9])
 .ret))⟩
def s53 : SFn := ⟨102, [.tmp 2],
 (.seq (.region [⟨(some 2), .mov (.c .nilsl), [], none⟩] [] [2])
 (.seq (.region [⟨(some 11), .mov (.t 0), [], none⟩,
 ⟨(some 12), .nilchk (.t 11), [0], none⟩,
 ⟨(some 13), .faddr 0 (.t 12), [1], none⟩,
 ⟨(some 14), .faddr 1 (.t 13), [2], none⟩,
 ⟨(some 15), .load none (.t 14), [3], none⟩,
 ⟨(some 16), .mkslice .dyn 1 8 [(.int .i64 0)] (.t 15) (.t 15), [4, 4], none⟩,
 ⟨(some 3), .mov (.t 16), [5, 0, 1, 2, 3, 4, 5], none⟩] [] [11, 12, 13, 14, 15, 16])
 (.seq (.seq (.region [⟨(some 17), .mov (.t 3), [], none⟩,
 ⟨(some 18), .len 1 (.t 17), [0], none⟩,
 ⟨(some 19), .mov (.c (.int .i64 0)), [], none⟩] [] [17])
 (.block 0 (.loop (.seq (.region [⟨(some 20), .bin .lss (.t 19) (.t 18), [], none⟩] [] [])
 (.seq (.cond (.t 20)
 .skip
 (.exit 0))
 (.seq (.block 1 (.seq (.region [⟨(some 21), .mov (.t 19), [], none⟩,
 ⟨(some 4), .mov (.t 21), [0, 0], none⟩] [] [20, 21])
 (.region [⟨(some 22), .mov (.t 3), [], none⟩,
 ⟨(some 23), .mov (.t 4), [], none⟩,
 ⟨(some 24), .iaddr none 1 (.t 22) (.t 23), [0, 1, 0, 1], none⟩,
 ⟨none, .store 1 (.t 24) (.c (.int .i64 (-1))), [2, 0, 1], none⟩] [] [4, 22, 23, 24])))
 (.region [⟨(some 25), .bin .add (.t 19) (.c (.int .i64 1)), [], none⟩,
 ⟨(some 19), .mov (.t 25), [0], none⟩] [] [25])))))))
 (.seq (.region [⟨(some 5), .mov (.c .nilsl), [], none⟩] [] [18, 19])
 (.seq (.seq (.region [⟨(some 26), .mov (.t 0), [], none⟩,
 ⟨(some 27), .nilchk (.t 26), [0], none⟩,
 ⟨(some 28), .faddr 0 (.t 27), [1], none⟩,
 ⟨(some 29), .faddr 2 (.t 28), [2], none⟩,
 ⟨(some 30), .load none (.t 29), [3], none⟩,
 ⟨(some 31), .len 1 (.t 30), [4], none⟩,
 ⟨(some 32), .mov (.c (.int .i64 0)), [], none⟩] [] [26, 27, 28, 29])
 (.block 2 (.loop (.seq (.region [⟨(some 33), .bin .lss (.t 32) (.t 31), [], none⟩] [] [])
 (.seq (.cond (.t 33)
 .skip
 (.exit 2))
 (.seq (.block 3 (.seq (.region [⟨(some 34), .iaddr none 1 (.t 30) (.t 32), [], none⟩,
 ⟨(some 35), .load none (.t 34), [0], none⟩,
 ⟨(some 7), .mov (.t 35), [1, 0, 1], none⟩] [] [33, 34, 35])
 (.seq (.region [⟨(some 36), .mov (.t 0), [], none⟩,
 ⟨(some 37), .nilchk (.t 36), [0], none⟩,
 ⟨(some 38), .faddr 6 (.t 37), [1], none⟩,
 ⟨(some 39), .load none (.t 38), [2], none⟩,
 ⟨(some 40), .mov (.t 7), [], none⟩,
 ⟨(some 41), .iaddr none 1 (.t 39) (.t 40), [3, 4], none⟩,
 ⟨(some 42), .load none (.t 41), [5], none⟩] [] [36, 37, 38, 39, 40, 41])
 (.cond (.t 42)
 (.seq (.region [⟨(some 43), .mov (.t 3), [], none⟩,
 ⟨(some 44), .mov (.t 7), [], none⟩,
 ⟨(some 45), .iaddr none 1 (.t 43) (.t 44), [0, 1, 0, 1], none⟩,
 ⟨none, .store 1 (.t 45) (.c (.int .i64 0)), [2, 0, 1], none⟩] [] [42, 43, 44, 45])
 (.region [⟨(some 46), .mov (.t 5), [], none⟩,
 ⟨(some 47), .mov (.t 7), [], none⟩,
 ⟨(some 48), .bslice false .dyn 1 1 [(.int .i64 0)] [(0, 1, (.t 47))], [1], none⟩,
 ⟨(some 49), .append .dyn 1 8 (.t 46) (.t 48), [0, 2], none⟩,
 ⟨(some 5), .mov (.t 49), [3, 3, 0, 1, 2, 3], none⟩] [] [7, 46, 47, 48, 49]))
 .skip))))
 (.region [⟨(some 50), .bin .add (.t 32) (.c (.int .i64 1)), [], none⟩,
 ⟨(some 32), .mov (.t 50), [0], none⟩] [] [7, 42, 50])))))))
 (.seq (.seq (.region [⟨(some 8), .mov (.c (.int .i64 0)), [], none⟩] [] [30, 31, 32])
 (.block 4 (.loop (.seq (.seq (.region [⟨(some 51), .mov (.t 8), [], none⟩,
 ⟨(some 52), .mov (.t 5), [], none⟩,
 ⟨(some 53), .len 1 (.t 52), [1], none⟩,
 ⟨(some 54), .bin .lss (.t 51) (.t 53), [0, 2], none⟩] [] [51, 52, 53])
 (.cond (.t 54)
 .skip
 (.exit 4)))
 (.seq (.block 5 (.seq (.region [⟨(some 57), .mov (.t 0), [], none⟩,
 ⟨(some 58), .nilchk (.t 57), [0], none⟩,
 ⟨(some 59), .faddr 5 (.t 58), [1], none⟩,
 ⟨(some 60), .load none (.t 59), [2], none⟩,
 ⟨(some 61), .mov (.t 5), [], none⟩,
 ⟨(some 62), .mov (.t 8), [], none⟩,
 ⟨(some 63), .iaddr none 1 (.t 61) (.t 62), [4, 5], none⟩,
 ⟨(some 64), .load none (.t 63), [6], none⟩,
 ⟨(some 65), .lookup false [.i] .nilsl false (.t 60) (.t 64), [3, 7], none⟩,
 ⟨(some 66), .len 1 (.t 65), [8], none⟩,
 ⟨(some 67), .mov (.c (.int .i64 0)), [], none⟩] [] [54, 57, 58, 59, 60, 61, 62, 63, 64])
 (.block 6 (.loop (.seq (.region [⟨(some 68), .bin .lss (.t 67) (.t 66), [], none⟩] [] [])
 (.seq (.cond (.t 68)
 .skip
 (.exit 6))
 (.seq (.block 7 (.seq (.region [⟨(some 69), .iaddr none 1 (.t 65) (.t 67), [], none⟩,
 ⟨(some 70), .load none (.t 69), [0], none⟩,
 ⟨(some 10), .mov (.t 70), [1, 0, 1], none⟩] [] [68, 69, 70])
 (.seq (.region [⟨(some 71), .mov (.t 0), [], none⟩,
 ⟨(some 72), .nilchk (.t 71), [0], none⟩,
 ⟨(some 73), .faddr 6 (.t 72), [1], none⟩,
 ⟨(some 74), .load none (.t 73), [2], none⟩,
 ⟨(some 75), .mov (.t 10), [], none⟩,
 ⟨(some 76), .iaddr none 1 (.t 74) (.t 75), [3, 4], none⟩,
 ⟨(some 77), .load none (.t 76), [5], none⟩,
 ⟨(some 78), .mov (.t 77), [6], none⟩,
 ⟨(some 79), .mov (.t 3), [7], (some (78, true))⟩,
 ⟨(some 80), .mov (.t 10), [7], (some (78, true))⟩,
 ⟨(some 81), .iaddr none 1 (.t 79) (.t 80), [8, 9, 7], (some (78, true))⟩,
 ⟨(some 82), .load none (.t 81), [10, 7], (some (78, true))⟩,
 ⟨(some 83), .bin .lss (.t 82) (.c (.int .i64 0)), [11, 7], (some (78, true))⟩,
 ⟨(some 84), .pick (.t 78) (.t 83) (.c (.bool false)), [7, 12], none⟩] [] [71, 72, 73, 74, 75, 76, 77, 78])
 (.cond (.t 84)
 (.seq (.region [⟨(some 85), .mov (.t 3), [], none⟩,
 ⟨(some 86), .mov (.t 10), [], none⟩,
 ⟨(some 87), .mov (.t 3), [], none⟩,
 ⟨(some 88), .mov (.t 5), [], none⟩,
 ⟨(some 89), .mov (.t 8), [], none⟩,
 ⟨(some 90), .iaddr none 1 (.t 88) (.t 89), [3, 4], none⟩,
 ⟨(some 91), .load none (.t 90), [5], none⟩,
 ⟨(some 92), .iaddr none 1 (.t 87) (.t 91), [2, 6], none⟩,
 ⟨(some 93), .load none (.t 92), [7], none⟩,
 ⟨(some 94), .bin .add (.t 93) (.c (.int .i64 1)), [8], none⟩,
 ⟨(some 95), .iaddr none 1 (.t 85) (.t 86), [0, 1, 0, 1, 2, 3, 4, 5, 6, 7, 8, 9], none⟩,
 ⟨none, .store 1 (.t 95) (.t 94), [10, 9, 0, 1, 2, 3, 4, 5, 6, 7, 8, 9], none⟩] [] [84, 85, 86, 87, 88, 89, 90, 91, 92, 93, 94, 95])
 (.region [⟨(some 96), .mov (.t 5), [], none⟩,
 ⟨(some 97), .mov (.t 10), [], none⟩,
 ⟨(some 98), .bslice false .dyn 1 1 [(.int .i64 0)] [(0, 1, (.t 97))], [1], none⟩,
 ⟨(some 99), .append .dyn 1 8 (.t 96) (.t 98), [0, 2], none⟩,
 ⟨(some 5), .mov (.t 99), [3, 3, 0, 1, 2, 3], none⟩] [] [10, 96, 97, 98, 99]))
 .skip))))
 (.region [⟨(some 100), .bin .add (.t 67) (.c (.int .i64 1)), [], none⟩,
 ⟨(some 67), .mov (.t 100), [0], none⟩] [] [10, 84, 100]))))))))
 (.region [⟨(some 55), .mov (.t 8), [], none⟩,
 ⟨(some 56), .bin .add (.t 55) (.c (.int .i64 1)), [0], none⟩,
 ⟨(some 8), .mov (.t 56), [1, 0, 1], none⟩] [] [65, 66, 67, 55, 56]))))))
 (.seq (.region [⟨(some 101), .mov (.t 3), [], none⟩,
 ⟨(some 2), .mov (.t 101), [0, 0], none⟩] [] [0, 3, 83, 82, 81, 79, 80, 5, 8, 101])
 .ret)))))))⟩
def s54 : SFn := ⟨148, [.cell 2 (some 4), .tmp 3],
 (.seq (.region [⟨(some 2), .alloc .dyn (.agg [.nilsl, (.int .i64 0), .nilsl, .nilsl]), [], none⟩,
 ⟨(some 3), .mov (.c .nilsl), [], none⟩] [] [3])
 (.seq (.region [⟨(some 15), .mov (.t 0), [], none⟩,
 ⟨(some 16), .nilchk (.t 15), [0], none⟩,
 ⟨(some 17), .faddr 0 (.t 16), [1], none⟩,
 ⟨(some 18), .faddr 0 (.t 17), [2], none⟩,
 ⟨(some 19), .load none (.t 18), [3], none⟩,
 ⟨(some 20), .call .heap (.f 56) [(.t 19)], [4], none⟩,
 ⟨(some 21), .build [.nilsl, (.int .i64 0), .nilsl, .nilsl] [(0, 1, (.t 20))], [5], none⟩,
 ⟨(some 4), .alloc .dyn (.agg [.nilsl, (.int .i64 0), .nilsl, .nilsl]), [], none⟩,
 ⟨none, .store 4 (.t 4) (.t 21), [7, 6, 5, 0, 1, 2, 3, 4, 5, 6, 7], none⟩] [] [15, 16, 17, 18, 19, 20, 21])
 (.seq (.seq (.region [⟨(some 22), .mov (.t 0), [], none⟩,
 ⟨(some 23), .nilchk (.t 22), [0], none⟩,
 ⟨(some 24), .faddr 0 (.t 23), [1], none⟩,
 ⟨(some 25), .faddr 1 (.t 24), [2], none⟩,
 ⟨(some 26), .load none (.t 25), [3], none⟩,
 ⟨(some 27), .bin .eql (.t 26) (.c (.int .i64 0)), [4], none⟩,
 ⟨(some 28), .mov (.t 27), [5], none⟩,
 ⟨(some 29), .mov (.t 0), [6], (some (28, false))⟩,
 ⟨(some 30), .nilchk (.t 29), [7, 6], (some (28, false))⟩,
 ⟨(some 31), .faddr 6 (.t 30), [8, 6], (some (28, false))⟩,
 ⟨(some 32), .load none (.t 31), [9, 6], (some (28, false))⟩,
 ⟨(some 33), .iaddr none 1 (.t 32) (.c (.int .i64 0)), [10, 6], (some (28, false))⟩,
 ⟨(some 34), .load none (.t 33), [11, 6], (some (28, false))⟩,
 ⟨(some 35), .un .not (.t 34), [12, 6], (some (28, false))⟩,
 ⟨(some 36), .pick (.t 28) (.c (.bool true)) (.t 35), [6, 13], none⟩] [] [22, 23, 24, 25, 26, 27, 28, 29, 30, 31, 32, 33, 34, 35])
 (.cond (.t 36)
 (.seq (.region [⟨(some 37), .load (some 4) (.t 4), [], none⟩,
 ⟨none, .store 4 (.t 2) (.t 37), [0, 0], none⟩,
 ⟨(some 3), .mov (.c .nilsl), [1, 0, 1], none⟩] [] [0, 4, 36, 37])
 .ret)
 .skip))
 (.seq (.region [⟨(some 38), .mov (.t 0), [], none⟩,
 ⟨(some 39), .nilchk (.t 38), [0], none⟩,
 ⟨(some 40), .faddr 0 (.t 39), [1], none⟩,
 ⟨(some 41), .faddr 1 (.t 40), [2], none⟩,
 ⟨(some 42), .load none (.t 41), [3], none⟩,
 ⟨(some 43), .mkslice .dyn 1 24 [.nilsl] (.t 42) (.t 42), [4, 4], none⟩,
 ⟨(some 5), .mov (.t 43), [5, 0, 1, 2, 3, 4, 5], none⟩] [] [3, 36, 38, 39, 40, 41, 42, 43])
 (.seq (.seq (.region [⟨(some 44), .mov (.t 0), [], none⟩,
 ⟨(some 45), .nilchk (.t 44), [0], none⟩,
 ⟨(some 46), .faddr 0 (.t 45), [1], none⟩,
 ⟨(some 47), .faddr 3 (.t 46), [2], none⟩,
 ⟨(some 48), .load none (.t 47), [3], none⟩,
 ⟨(some 49), .len 1 (.t 48), [4], none⟩,
 ⟨(some 50), .mov (.c (.int .i64 0)), [], none⟩] [] [44, 45, 46, 47])
 (.block 0 (.loop (.seq (.region [⟨(some 51), .bin .lss (.t 50) (.t 49), [], none⟩] [] [])
 (.seq (.cond (.t 51)
 .skip
 (.exit 0))
 (.seq (.block 1 (.seq (.region [⟨(some 52), .iaddr none 3 (.t 48) (.t 50), [], none⟩,
 ⟨(some 53), .load (some 3) (.t 52), [0], none⟩,
 ⟨(some 7), .alloc .dyn (.agg [(.int .i64 0), (.int .i64 0), (.int .i64 0)]), [], none⟩,
 ⟨none, .store 3 (.t 7) (.t 53), [2, 1, 0, 1, 2], none⟩] [] [51, 52, 53])
 (.seq (.region [⟨(some 54), .mov (.t 0), [], none⟩,
 ⟨(some 55), .nilchk (.t 54), [0], none⟩,
 ⟨(some 56), .faddr 6 (.t 55), [1], none⟩,
 ⟨(some 57), .load none (.t 56), [2], none⟩,
 ⟨(some 58), .faddr 2 (.t 7), [], none⟩,
 ⟨(some 59), .load none (.t 58), [4], none⟩,
 ⟨(some 60), .iaddr none 1 (.t 57) (.t 59), [3, 5], none⟩,
 ⟨(some 61), .load none (.t 60), [6], none⟩] [] [54, 55, 56, 57, 58, 59, 60])
 (.cond (.t 61)
 (.region [⟨(some 62), .mov (.t 5), [], none⟩,
 ⟨(some 63), .faddr 0 (.t 7), [], none⟩,
 ⟨(some 64), .load none (.t 63), [1], none⟩,
 ⟨(some 65), .mov (.t 5), [], none⟩,
 ⟨(some 66), .faddr 0 (.t 7), [], none⟩,
 ⟨(some 67), .load none (.t 66), [4], none⟩,
 ⟨(some 68), .iaddr none 1 (.t 65) (.t 67), [3, 5], none⟩,
 ⟨(some 69), .load none (.t 68), [6], none⟩,
 ⟨(some 70), .load (some 3) (.t 7), [], none⟩,
 ⟨(some 71), .bslice false .dyn 3 1 [(.int .i64 0), (.int .i64 0), (.int .i64 0)] [(0, 3, (.t 70))], [8], none⟩,
 ⟨(some 72), .append .dyn 3 24 (.t 69) (.t 71), [7, 9], none⟩,
 ⟨(some 73), .iaddr none 1 (.t 62) (.t 64), [0, 2, 0, 1, 2, 3, 4, 5, 6, 7, 8, 9, 10], none⟩,
 ⟨none, .store 1 (.t 73) (.t 72), [11, 10, 10, 0, 1, 2, 3, 4, 5, 6, 7, 8, 9, 10], none⟩] [(2, 10)] [7, 61, 62, 63, 64, 65, 66, 67, 68, 69, 70, 71, 72, 73])
 .skip))))
 (.region [⟨(some 74), .bin .add (.t 50) (.c (.int .i64 1)), [], none⟩,
 ⟨(some 50), .mov (.t 74), [0], none⟩] [] [7, 61, 74])))))))
 (.seq (.region [⟨(some 75), .mkmap .dyn, [], none⟩,
 ⟨none, .mupd false [.i] (.t 75) (.c (.int .i64 0)) (.c (.int .i64 0)), [0], none⟩,
 ⟨(some 76), .mov (.t 75), [0, 1], none⟩,
 ⟨(some 8), .mov (.t 76), [2, 0, 1, 2], none⟩] [] [48, 49, 50, 75, 76])
 (.seq (.region [⟨(some 77), .bslice false .dyn 1 1 [(.int .i64 0)] [(0, 1, (.c (.int .i64 0)))], [], none⟩,
 ⟨(some 9), .mov (.t 77), [0, 0], none⟩] [] [77])
 (.seq (.seq (.region [⟨(some 10), .mov (.c (.int .i64 0)), [], none⟩] [] [])
 (.block 2 (.loop (.seq (.seq (.region [⟨(some 78), .mov (.t 10), [], none⟩,
 ⟨(some 79), .mov (.t 9), [], none⟩,
 ⟨(some 80), .len 1 (.t 79), [1], none⟩,
 ⟨(some 81), .bin .lss (.t 78) (.t 80), [0, 2], none⟩] [] [78, 79, 80])
 (.cond (.t 81)
 .skip
 (.exit 2)))
 (.seq (.block 3 (.seq (.seq (.region [⟨(some 84), .mov (.t 5), [], none⟩,
 ⟨(some 85), .mov (.t 9), [], none⟩,
 ⟨(some 86), .mov (.t 10), [], none⟩,
 ⟨(some 87), .iaddr none 1 (.t 85) (.t 86), [1, 2], none⟩,
 ⟨(some 88), .load none (.t 87), [3], none⟩,
 ⟨(some 89), .iaddr none 1 (.t 84) (.t 88), [0, 4], none⟩,
 ⟨(some 90), .load none (.t 89), [5], none⟩,
 ⟨(some 91), .len 1 (.t 90), [6], none⟩,
 ⟨(some 92), .mov (.c (.int .i64 0)), [], none⟩] [] [81, 84, 85, 86, 87, 88, 89])
 (.block 4 (.loop (.seq (.region [⟨(some 93), .bin .lss (.t 92) (.t 91), [], none⟩] [] [])
 (.seq (.cond (.t 93)
 .skip
 (.exit 4))
 (.seq (.block 5 (.seq (.region [⟨(some 94), .iaddr none 3 (.t 90) (.t 92), [], none⟩,
 ⟨(some 95), .load (some 3) (.t 94), [0], none⟩,
 ⟨(some 12), .alloc .dyn (.agg [(.int .i64 0), (.int .i64 0), (.int .i64 0)]), [], none⟩,
 ⟨none, .store 3 (.t 12) (.t 95), [2, 1, 0, 1, 2], none⟩] [] [93, 94, 95])
 (.seq (.region [⟨(some 97), .mov (.t 8), [], none⟩,
 ⟨(some 98), .faddr 2 (.t 12), [], none⟩,
 ⟨(some 99), .load none (.t 98), [1], none⟩,
 ⟨(some 100), .lookup false [.i] (.int .i64 0) true (.t 97) (.t 99), [0, 2], none⟩,
 ⟨(some 96), .mov (.t 100), [3], none⟩,
 ⟨(some 101), .extract 0 (.t 96), [4], none⟩,
 ⟨(some 102), .extract 1 (.t 96), [4], none⟩,
 ⟨(some 13), .mov (.t 101), [5, 0, 1, 2, 3, 4, 5], none⟩,
 ⟨(some 14), .mov (.t 102), [6, 7, 0, 1, 2, 3, 4, 5, 6, 7], none⟩] [] [97, 98, 99, 100, 96, 101, 102])
 (.seq (.seq (.region [⟨(some 103), .mov (.t 14), [], none⟩,
 ⟨(some 104), .un .not (.t 103), [0], none⟩] [] [14, 103])
 (.cond (.t 104)
 (.seq (.region [⟨(some 105), .mov (.t 9), [], none⟩,
 ⟨(some 106), .len 1 (.t 105), [0], none⟩,
 ⟨(some 13), .mov (.t 106), [1, 0, 1], none⟩] [] [104, 105, 106])
 (.seq (.region [⟨(some 107), .mov (.t 8), [], none⟩,
 ⟨(some 108), .faddr 2 (.t 12), [], none⟩,
 ⟨(some 109), .load none (.t 108), [1], none⟩,
 ⟨(some 110), .mov (.t 13), [], none⟩,
 ⟨none, .mupd false [.i] (.t 107) (.t 109) (.t 110), [0, 2, 3, 0, 1, 2, 3], none⟩] [] [107, 108, 109, 110])
 (.region [⟨(some 111), .mov (.t 9), [], none⟩,
 ⟨(some 112), .faddr 2 (.t 12), [], none⟩,
 ⟨(some 113), .load none (.t 112), [1], none⟩,
 ⟨(some 114), .bslice false .dyn 1 1 [(.int .i64 0)] [(0, 1, (.t 113))], [2], none⟩,
 ⟨(some 115), .append .dyn 1 8 (.t 111) (.t 114), [0, 3], none⟩,
 ⟨(some 9), .mov (.t 115), [4, 4, 0, 1, 2, 3, 4], none⟩] [] [111, 112, 113, 114, 115])))
 .skip))
 (.region [⟨(some 116), .faddr 3 (.t 4), [], none⟩,
 ⟨(some 117), .load none (.t 116), [0], none⟩,
 ⟨(some 118), .mov (.t 10), [], none⟩,
 ⟨(some 119), .faddr 1 (.t 12), [], none⟩,
 ⟨(some 120), .load none (.t 119), [3], none⟩,
 ⟨(some 121), .mov (.t 13), [], none⟩,
 ⟨(some 122), .build [(.int .i64 0), (.int .i64 0), (.int .i64 0)] [(0, 1, (.t 118)), (1, 1, (.t 120)), (2, 1, (.t 121))], [2, 4, 5], none⟩,
 ⟨(some 123), .bslice false .dyn 3 1 [(.int .i64 0), (.int .i64 0), (.int .i64 0)] [(0, 3, (.t 122))], [6], none⟩,
 ⟨(some 124), .append .dyn 3 24 (.t 117) (.t 123), [1, 7], none⟩,
 ⟨(some 125), .faddr 3 (.t 4), [0, 1, 2, 3, 4, 5, 6, 7, 8], none⟩,
 ⟨none, .store 1 (.t 125) (.t 124), [9, 8, 8, 0, 1, 2, 3, 4, 5, 6, 7, 8], none⟩] [] [12, 13, 104, 116, 117, 118, 119, 120, 121, 122, 123, 124, 125])))))
 (.region [⟨(some 126), .bin .add (.t 92) (.c (.int .i64 1)), [], none⟩,
 ⟨(some 92), .mov (.t 126), [0], none⟩] [] [126])))))))
 (.seq (.region [⟨(some 127), .mov (.t 0), [], none⟩,
 ⟨(some 128), .nilchk (.t 127), [0], none⟩,
 ⟨(some 129), .faddr 0 (.t 128), [1], none⟩,
 ⟨(some 130), .faddr 2 (.t 129), [2], none⟩,
 ⟨(some 131), .load none (.t 130), [3], none⟩,
 ⟨(some 132), .mov (.t 9), [], none⟩,
 ⟨(some 133), .mov (.t 10), [], none⟩,
 ⟨(some 134), .iaddr none 1 (.t 132) (.t 133), [5, 6], none⟩,
 ⟨(some 135), .load none (.t 134), [7], none⟩,
 ⟨(some 136), .call .pure (.f 62) [(.t 131), (.t 135)], [4, 8], none⟩] [] [90, 91, 92, 127, 128, 129, 130, 131, 132, 133, 134, 135])
 (.cond (.t 136)
 (.region [⟨(some 137), .faddr 2 (.t 4), [], none⟩,
 ⟨(some 138), .load none (.t 137), [0], none⟩,
 ⟨(some 139), .mov (.t 10), [], none⟩,
 ⟨(some 140), .bslice false .dyn 1 1 [(.int .i64 0)] [(0, 1, (.t 139))], [2], none⟩,
 ⟨(some 141), .append .dyn 1 8 (.t 138) (.t 140), [1, 3], none⟩,
 ⟨(some 142), .faddr 2 (.t 4), [0, 1, 2, 3, 4], none⟩,
 ⟨none, .store 1 (.t 142) (.t 141), [5, 4, 4, 0, 1, 2, 3, 4], none⟩] [] [136, 137, 138, 139, 140, 141, 142])
 .skip))))
 (.region [⟨(some 82), .mov (.t 10), [], none⟩,
 ⟨(some 83), .bin .add (.t 82) (.c (.int .i64 1)), [0], none⟩,
 ⟨(some 10), .mov (.t 83), [1, 0, 1], none⟩] [] [136, 82, 83]))))))
 (.seq (.region [⟨(some 143), .mov (.t 9), [], none⟩,
 ⟨(some 144), .len 1 (.t 143), [0], none⟩,
 ⟨(some 145), .faddr 1 (.t 4), [0, 1], none⟩,
 ⟨none, .store 1 (.t 145) (.t 144), [2, 1, 0, 1], none⟩] [] [0, 5, 8, 10, 143, 144, 145])
 (.seq (.region [⟨(some 146), .load (some 4) (.t 4), [], none⟩,
 ⟨(some 147), .mov (.t 9), [], none⟩,
 ⟨none, .store 4 (.t 2) (.t 146), [0, 0], none⟩,
 ⟨(some 3), .mov (.t 147), [1, 2, 0, 1, 2], none⟩] [] [4, 9, 146, 147])
 .ret))))))))))⟩
def s56 : SFn := ⟨8, [.tmp 2],
 (.seq (.region [⟨(some 2), .mov (.c .nilsl), [], none⟩] [] [2])
 (.seq (.seq (.region [⟨(some 3), .mov (.t 0), [], none⟩,
 ⟨(some 4), .eq (.nil 2) false (.t 3) (.c .nilsl), [0], none⟩] [] [3])
 (.cond (.t 4)
 (.seq (.region [⟨(some 2), .mov (.c .nilsl), [], none⟩] [] [0, 4])
 .ret)
 .skip))
 (.seq (.region [⟨(some 5), .bslice false .dyn 1 0 [] [], [], none⟩,
 ⟨(some 6), .mov (.t 0), [], none⟩,
 ⟨(some 7), .append .dyn 1 8 (.t 5) (.t 6), [0, 1], none⟩,
 ⟨(some 2), .mov (.t 7), [2, 2, 0, 1, 2], none⟩] [] [0, 4, 5, 6, 7])
 .ret)))⟩
def s57 : SFn := ⟨54, [.tmp 4, .tmp 5],
 (.seq (.region [⟨(some 4), .mov (.c (.int .i64 0)), [], none⟩,
 ⟨(some 5), .mov (.c (.bool false)), [0], none⟩] [] [4, 5])
 (.seq (.region [⟨(some 10), .mov (.t 0), [], none⟩,
 ⟨(some 11), .len 1 (.t 10), [0], none⟩,
 ⟨(some 6), .mov (.t 11), [1, 0, 1], none⟩] [] [10, 11])
 (.seq (.region [⟨(some 12), .mov (.t 6), [], none⟩,
 ⟨(some 7), .mov (.c (.int .i64 0)), [], none⟩,
 ⟨(some 8), .mov (.t 12), [0, 1, 0, 1], none⟩] [] [12])
 (.seq (.block 0 (.loop (.seq (.seq (.region [⟨(some 13), .mov (.t 7), [], none⟩,
 ⟨(some 14), .mov (.t 8), [], none⟩,
 ⟨(some 15), .bin .lss (.t 13) (.t 14), [0, 1], none⟩] [] [13, 14])
 (.cond (.t 15)
 .skip
 (.exit 0)))
 (.block 1 (.seq (.region [⟨(some 16), .mov (.t 7), [], none⟩,
 ⟨(some 17), .mov (.t 8), [], none⟩,
 ⟨(some 18), .bin .add (.t 16) (.t 17), [0, 1], none⟩,
 ⟨(some 19), .conv .u64 (.t 18), [2], none⟩,
 ⟨(some 20), .bin .shr (.t 19) (.c (.int .u64 1)), [3], none⟩,
 ⟨(some 21), .conv .i64 (.t 20), [4], none⟩,
 ⟨(some 9), .mov (.t 21), [5, 0, 1, 2, 3, 4, 5], none⟩] [] [15, 16, 17, 18, 19, 20, 21])
 (.seq (.region [⟨(some 22), .mov (.t 0), [], none⟩,
 ⟨(some 23), .mov (.t 9), [], none⟩,
 ⟨(some 24), .iaddr none 1 (.t 22) (.t 23), [0, 1], none⟩,
 ⟨(some 25), .load none (.t 24), [2], none⟩,
 ⟨(some 26), .mov (.t 1), [], none⟩,
 ⟨(some 27), .call .pure (.f 65) [(.t 25), (.t 26)], [3, 4], none⟩] [] [22, 23, 24, 25, 26])
 (.cond (.t 27)
 (.region [⟨(some 28), .mov (.t 9), [], none⟩,
 ⟨(some 29), .bin .add (.t 28) (.c (.int .i64 1)), [0], none⟩,
 ⟨(some 7), .mov (.t 29), [1, 0, 1], none⟩] [] [9, 27, 28, 29])
 (.region [⟨(some 30), .mov (.t 9), [], none⟩,
 ⟨(some 8), .mov (.t 30), [0, 0], none⟩] [] [9, 27, 30]))))))))
 (.seq (.region [⟨(some 31), .mov (.t 7), [], none⟩,
 ⟨(some 32), .mov (.t 7), [], none⟩,
 ⟨(some 33), .mov (.t 6), [], none⟩,
 ⟨(some 34), .bin .lss (.t 32) (.t 33), [1, 2], none⟩,
 ⟨(some 35), .mov (.t 34), [3], none⟩,
 ⟨(some 36), .mov (.t 0), [4], (some (35, true))⟩,
 ⟨(some 37), .mov (.t 7), [4], (some (35, true))⟩,
 ⟨(some 38), .iaddr none 1 (.t 36) (.t 37), [5, 6, 4], (some (35, true))⟩,
 ⟨(some 39), .load none (.t 38), [7, 4], (some (35, true))⟩,
 ⟨(some 40), .mov (.t 1), [4], (some (35, true))⟩,
 ⟨(some 41), .bin .eql (.t 39) (.t 40), [8, 9, 4], (some (35, true))⟩,
 ⟨(some 42), .mov (.t 41), [10, 4, 4], (some (35, true))⟩,
 ⟨(some 43), .mov (.t 0), [11], (some (42, false))⟩,
 ⟨(some 44), .mov (.t 7), [11], (some (42, false))⟩,
 ⟨(some 45), .iaddr none 1 (.t 43) (.t 44), [12, 13, 11], (some (42, false))⟩,
 ⟨(some 46), .load none (.t 45), [14, 11], (some (42, false))⟩,
 ⟨(some 47), .call .pure (.f 66) [(.t 46)], [15, 11, 11], (some (42, false))⟩,
 ⟨(some 48), .mov (.t 47), [16, 16, 11], (some (42, false))⟩,
 ⟨(some 49), .mov (.t 1), [17], (some (48, true))⟩,
 ⟨(some 50), .call .pure (.f 66) [(.t 49)], [18, 17, 17], (some (48, true))⟩,
 ⟨(some 51), .pick (.t 48) (.t 50) (.c (.bool false)), [17, 19, 11], (some (42, false))⟩,
 ⟨(some 52), .pick (.t 42) (.c (.bool true)) (.t 51), [11, 20, 4], (some (35, true))⟩,
 ⟨(some 53), .pick (.t 35) (.t 52) (.c (.bool false)), [4, 21], none⟩,
 ⟨(some 4), .mov (.t 31), [0, 19, 0], none⟩,
 ⟨(some 5), .mov (.t 53), [22, 23, 0, 1, 2, 3, 4, 5, 6, 7, 8, 9, 10, 11, 12, 13, 14, 15, 16, 17, 18, 19, 20, 21, 22, 23], none⟩] [] [0, 1, 6, 7, 8, 52, 42, 51, 48, 50, 49, 47, 46, 45, 43, 44, 41, 39, 40, 38, 36, 37, 31, 32, 33, 34, 35, 53])
 .ret)))))⟩
def s58 : SFn := ⟨29, [.tmp 4],
 (.seq (.region [⟨(some 2), .box .dyn (.t 0), [], none⟩,
 ⟨(some 4), .mov (.c .nilsl), [], none⟩] [] [0, 4])
 (.seq (.region [⟨(some 10), .faddr 3 (.t 2), [], none⟩,
 ⟨(some 11), .load none (.t 10), [0], none⟩,
 ⟨(some 12), .mov (.t 1), [], none⟩,
 ⟨(some 13), .call .pure (.f 67) [(.t 11), (.t 12), (.f 68)], [1, 2], none⟩,
 ⟨(some 9), .mov (.t 13), [3], none⟩,
 ⟨(some 14), .extract 0 (.t 9), [4], none⟩,
 ⟨(some 15), .extract 1 (.t 9), [4], none⟩,
 ⟨(some 5), .mov (.t 14), [5, 3, 0, 1, 2, 3, 4, 5], none⟩,
 ⟨(some 6), .mov (.t 15), [6, 7, 0, 1, 2, 3, 4, 5, 6, 7], none⟩] [] [10, 11, 12, 13, 9, 14, 15, 6])
 (.seq (.region [⟨(some 17), .faddr 3 (.t 2), [], none⟩,
 ⟨(some 18), .load none (.t 17), [0], none⟩,
 ⟨(some 19), .mov (.t 1), [], none⟩,
 ⟨(some 20), .bin .add (.t 19) (.c (.int .i64 1)), [2], none⟩,
 ⟨(some 21), .call .pure (.f 67) [(.t 18), (.t 20), (.f 69)], [1, 3], none⟩,
 ⟨(some 16), .mov (.t 21), [4], none⟩,
 ⟨(some 22), .extract 0 (.t 16), [5], none⟩,
 ⟨(some 23), .extract 1 (.t 16), [5], none⟩,
 ⟨(some 7), .mov (.t 22), [6, 4, 0, 1, 2, 3, 4, 5, 6], none⟩,
 ⟨(some 8), .mov (.t 23), [7, 8, 0, 1, 2, 3, 4, 5, 6, 7, 8], none⟩] [] [1, 17, 18, 19, 20, 21, 16, 22, 23, 8])
 (.seq (.region [⟨(some 24), .faddr 3 (.t 2), [], none⟩,
 ⟨(some 25), .load none (.t 24), [0], none⟩,
 ⟨(some 26), .mov (.t 5), [], none⟩,
 ⟨(some 27), .mov (.t 7), [], none⟩,
 ⟨(some 28), .slice (some 3) (.t 25) (some (.t 26)) (some (.t 27)) none, [1, 2, 3], none⟩,
 ⟨(some 4), .mov (.t 28), [4, 0, 1, 2, 3, 4], none⟩] [] [2, 5, 7, 24, 25, 26, 27, 28])
 .ret))))⟩
def s59 : SFn := ⟨50, [.tmp 2],
 (.seq (.region [⟨(some 1), .box .dyn (.t 0), [], none⟩,
 ⟨(some 2), .mov (.c .nilsl), [], none⟩] [] [0, 2])
 (.seq (.region [⟨(some 3), .mov (.c .nilsl), [], none⟩] [] [])
 (.seq (.seq (.region [⟨(some 7), .faddr 1 (.t 1), [], none⟩,
 ⟨(some 8), .load none (.t 7), [0], none⟩,
 ⟨(some 9), .bin .gtr (.t 8) (.c (.int .i64 0)), [1], none⟩] [] [7, 8])
 (.cond (.t 9)
 (.region [⟨(some 10), .mov (.t 3), [], none⟩,
 ⟨(some 11), .bslice false .dyn 1 1 [(.int .i64 0)] [(0, 1, (.c (.int .i64 0)))], [], none⟩,
 ⟨(some 12), .append .dyn 1 8 (.t 10) (.t 11), [0, 1], none⟩,
 ⟨(some 3), .mov (.t 12), [2, 2, 0, 1, 2], none⟩] [] [9, 10, 11, 12])
 .skip))
 (.seq (.seq (.region [⟨(some 4), .mov (.c (.int .i64 0)), [], none⟩] [] [9])
 (.block 0 (.loop (.seq (.seq (.region [⟨(some 13), .mov (.t 4), [], none⟩,
 ⟨(some 14), .mov (.t 3), [], none⟩,
 ⟨(some 15), .len 1 (.t 14), [1], none⟩,
 ⟨(some 16), .bin .lss (.t 13) (.t 15), [0, 2], none⟩] [] [13, 14, 15])
 (.cond (.t 16)
 .skip
 (.exit 0)))
 (.seq (.block 1 (.seq (.region [⟨(some 5), .mov (.c (.int .i64 0)), [], none⟩] [] [16])
 (.block 2 (.loop (.seq (.seq (.region [⟨(some 19), .mov (.t 5), [], none⟩,
 ⟨(some 20), .faddr 0 (.t 1), [], none⟩,
 ⟨(some 21), .load none (.t 20), [1], none⟩,
 ⟨(some 22), .len 1 (.t 21), [2], none⟩,
 ⟨(some 23), .bin .lss (.t 19) (.t 22), [0, 3], none⟩] [] [19, 20, 21, 22])
 (.cond (.t 23)
 .skip
 (.exit 2)))
 (.seq (.block 3 (.seq (.region [⟨(some 26), .load (some 4) (.t 1), [], none⟩,
 ⟨(some 27), .mov (.t 3), [], none⟩,
 ⟨(some 28), .mov (.t 4), [], none⟩,
 ⟨(some 29), .iaddr none 1 (.t 27) (.t 28), [1, 2], none⟩,
 ⟨(some 30), .load none (.t 29), [3], none⟩,
 ⟨(some 31), .faddr 0 (.t 1), [], none⟩,
 ⟨(some 32), .load none (.t 31), [5], none⟩,
 ⟨(some 33), .mov (.t 5), [], none⟩,
 ⟨(some 34), .iaddr none 1 (.t 32) (.t 33), [6, 7], none⟩,
 ⟨(some 35), .load none (.t 34), [8], none⟩,
 ⟨(some 36), .call .pure (.f 60) [(.t 26), (.t 30), (.t 35)], [0, 4, 9], none⟩,
 ⟨(some 6), .mov (.t 36), [10, 10, 0, 1, 2, 3, 4, 5, 6, 7, 8, 9, 10], none⟩] [] [23, 26, 27, 28, 29, 30, 31, 32, 33, 34, 35, 36])
 (.seq (.region [⟨(some 37), .mov (.t 6), [], none⟩,
 ⟨(some 38), .bin .geq (.t 37) (.c (.int .i64 0)), [0], none⟩,
 ⟨(some 39), .mov (.t 38), [1], none⟩,
 ⟨(some 40), .mov (.t 3), [2], (some (39, true))⟩,
 ⟨(some 41), .mov (.t 6), [2], (some (39, true))⟩,
 ⟨(some 42), .call .heap (.f 36) [(.t 40), (.t 41)], [3, 4, 2, 2], (some (39, true))⟩,
 ⟨(some 43), .un .not (.t 42), [5, 2], (some (39, true))⟩,
 ⟨(some 44), .pick (.t 39) (.t 43) (.c (.bool false)), [2, 6], none⟩] [] [37, 38, 39])
 (.cond (.t 44)
 (.region [⟨(some 45), .mov (.t 3), [], none⟩,
 ⟨(some 46), .mov (.t 6), [], none⟩,
 ⟨(some 47), .bslice false .dyn 1 1 [(.int .i64 0)] [(0, 1, (.t 46))], [1], none⟩,
 ⟨(some 48), .append .dyn 1 8 (.t 45) (.t 47), [0, 2], none⟩,
 ⟨(some 3), .mov (.t 48), [3, 3, 0, 1, 2, 3], none⟩] [] [6, 44, 45, 46, 47, 48])
 .skip))))
 (.region [⟨(some 24), .mov (.t 5), [], none⟩,
 ⟨(some 25), .bin .add (.t 24) (.c (.int .i64 1)), [0], none⟩,
 ⟨(some 5), .mov (.t 25), [1, 0, 1], none⟩] [] [6, 44, 24, 25])))))))
 (.region [⟨(some 17), .mov (.t 4), [], none⟩,
 ⟨(some 18), .bin .add (.t 17) (.c (.int .i64 1)), [0], none⟩,
 ⟨(some 4), .mov (.t 18), [1, 0, 1], none⟩] [] [5, 17, 18]))))))
 (.seq (.region [⟨(some 49), .mov (.t 3), [], none⟩,
 ⟨(some 2), .mov (.t 49), [0, 0], none⟩] [] [1, 3, 4, 43, 42, 40, 41, 49])
 .ret)))))⟩
def s60 : SFn := ⟨39, [.tmp 6],
 (.seq (.region [⟨(some 3), .box .dyn (.t 0), [], none⟩,
 ⟨(some 6), .mov (.c (.int .i64 0)), [], none⟩] [] [0, 6])
 (.seq (.seq (.region [⟨(some 7), .mov (.c (.int .i64 0)), [], none⟩] [] [])
 (.block 0 (.loop (.seq (.seq (.region [⟨(some 8), .mov (.t 7), [], none⟩,
 ⟨(some 9), .faddr 3 (.t 3), [], none⟩,
 ⟨(some 10), .load none (.t 9), [1], none⟩,
 ⟨(some 11), .len 1 (.t 10), [2], none⟩,
 ⟨(some 12), .bin .lss (.t 8) (.t 11), [0, 3], none⟩] [] [8, 9, 10, 11])
 (.cond (.t 12)
 .skip
 (.exit 0)))
 (.seq (.block 1 (.seq (.region [⟨(some 15), .faddr 3 (.t 3), [], none⟩,
 ⟨(some 16), .load none (.t 15), [0], none⟩,
 ⟨(some 17), .mov (.t 7), [], none⟩,
 ⟨(some 18), .iaddr none 3 (.t 16) (.t 17), [1, 2], none⟩,
 ⟨(some 19), .faddr 0 (.t 18), [3], none⟩,
 ⟨(some 20), .load none (.t 19), [4], none⟩,
 ⟨(some 21), .mov (.t 1), [], none⟩,
 ⟨(some 22), .bin .eql (.t 20) (.t 21), [5, 6], none⟩,
 ⟨(some 23), .mov (.t 22), [7], none⟩,
 ⟨(some 24), .faddr 3 (.t 3), [8], (some (23, true))⟩,
 ⟨(some 25), .load none (.t 24), [9, 8], (some (23, true))⟩,
 ⟨(some 26), .mov (.t 7), [8], (some (23, true))⟩,
 ⟨(some 27), .iaddr none 3 (.t 25) (.t 26), [10, 11, 8], (some (23, true))⟩,
 ⟨(some 28), .faddr 1 (.t 27), [12, 8], (some (23, true))⟩,
 ⟨(some 29), .load none (.t 28), [13, 8], (some (23, true))⟩,
 ⟨(some 30), .mov (.t 2), [8], (some (23, true))⟩,
 ⟨(some 31), .bin .eql (.t 29) (.t 30), [14, 15, 8], (some (23, true))⟩,
 ⟨(some 32), .pick (.t 23) (.t 31) (.c (.bool false)), [8, 16], none⟩] [] [12, 15, 16, 17, 18, 19, 20, 21, 22, 23])
 (.cond (.t 32)
 (.seq (.region [⟨(some 33), .faddr 3 (.t 3), [], none⟩,
 ⟨(some 34), .load none (.t 33), [0], none⟩,
 ⟨(some 35), .mov (.t 7), [], none⟩,
 ⟨(some 36), .iaddr none 3 (.t 34) (.t 35), [1, 2], none⟩,
 ⟨(some 37), .faddr 2 (.t 36), [3], none⟩,
 ⟨(some 38), .load none (.t 37), [4], none⟩,
 ⟨(some 6), .mov (.t 38), [5, 0, 1, 2, 3, 4, 5], none⟩] [] [1, 2, 3, 7, 31, 29, 30, 28, 27, 25, 26, 24, 32, 33, 34, 35, 36, 37, 38])
 .ret)
 .skip)))
 (.region [⟨(some 13), .mov (.t 7), [], none⟩,
 ⟨(some 14), .bin .add (.t 13) (.c (.int .i64 1)), [0], none⟩,
 ⟨(some 7), .mov (.t 14), [1, 0, 1], none⟩] [] [6, 32, 13, 14]))))))
 (.seq (.region [⟨(some 6), .mov (.c (.int .i64 (-1))), [], none⟩] [] [1, 2, 3, 7, 31, 29, 30, 28, 27, 25, 26, 24])
 .ret)))⟩
def s61 : SFn := ⟨19, [.tmp 4],
 (.seq (.region [⟨(some 4), .mov (.c (.int .i64 0)), [], none⟩] [] [4])
 (.seq (.seq (.region [⟨(some 5), .mov (.c (.int .i64 0)), [], none⟩] [] [])
 (.block 0 (.loop (.seq (.seq (.region [⟨(some 6), .mov (.t 5), [], none⟩,
 ⟨(some 7), .mov (.t 0), [], none⟩,
 ⟨(some 8), .len 1 (.t 7), [1], none⟩,
 ⟨(some 9), .bin .lss (.t 6) (.t 8), [0, 2], none⟩] [] [6, 7, 8])
 (.cond (.t 9)
 .skip
 (.exit 0)))
 (.seq (.block 1 (.seq (.region [⟨(some 12), .mov (.t 0), [], none⟩,
 ⟨(some 13), .mov (.t 5), [], none⟩,
 ⟨(some 14), .iaddr none 1 (.t 12) (.t 13), [0, 1], none⟩,
 ⟨(some 15), .load none (.t 14), [2], none⟩,
 ⟨(some 16), .mov (.t 1), [], none⟩,
 ⟨(some 17), .bin .eql (.t 15) (.t 16), [3, 4], none⟩] [] [9, 12, 13, 14, 15, 16])
 (.cond (.t 17)
 (.seq (.region [⟨(some 18), .mov (.t 5), [], none⟩,
 ⟨(some 4), .mov (.t 18), [0, 0], none⟩] [] [0, 1, 5, 17, 18])
 .ret)
 .skip)))
 (.region [⟨(some 10), .mov (.t 5), [], none⟩,
 ⟨(some 11), .bin .add (.t 10) (.c (.int .i64 1)), [0], none⟩,
 ⟨(some 5), .mov (.t 11), [1, 0, 1], none⟩] [] [4, 17, 10, 11]))))))
 (.seq (.region [⟨(some 4), .mov (.c (.int .i64 (-1))), [], none⟩] [] [0, 1, 5])
 .ret)))⟩
def s62 : SFn := ⟨9, [.tmp 4],
 (.seq (.region [⟨(some 4), .mov (.c (.bool false)), [], none⟩] [] [4])
 (.seq (.region [⟨(some 5), .mov (.t 0), [], none⟩,
 ⟨(some 6), .mov (.t 1), [], none⟩,
 ⟨(some 7), .call .pure (.f 70) [(.t 5), (.t 6)], [0, 1], none⟩,
 ⟨(some 8), .bin .geq (.t 7) (.c (.int .i64 0)), [2], none⟩,
 ⟨(some 4), .mov (.t 8), [3, 2, 0, 1, 2, 3], none⟩] [] [0, 1, 5, 6, 7, 8])
 .ret))⟩
def s63 : SFn := ⟨148, [],
 (.seq (.region [⟨(some 10), .mov (.c (.bool true)), [], none⟩] [] [])
 (.seq (.region [⟨(some 11), .mov (.c (.bool true)), [], none⟩] [] [])
 (.block 0 (.loop (.block 1 (.seq (.region [⟨(some 21), .mov (.t 2), [], none⟩,
 ⟨(some 22), .mov (.t 1), [], none⟩,
 ⟨(some 23), .bin .sub (.t 21) (.t 22), [0, 1], none⟩,
 ⟨(some 12), .mov (.t 23), [2, 0, 1, 2], none⟩] [] [21, 22, 23])
 (.seq (.seq (.region [⟨(some 24), .mov (.t 12), [], none⟩,
 ⟨(some 25), .bin .leq (.t 24) (.c (.int .i64 12)), [0], none⟩] [] [24])
 (.cond (.t 25)
 (.seq (.region [⟨(some 26), .mov (.t 0), [], none⟩,
 ⟨(some 27), .mov (.t 1), [], none⟩,
 ⟨(some 28), .mov (.t 2), [], none⟩,
 ⟨(some 29), .mov (.t 4), [], none⟩,
 ⟨(some 30), .call .heap (.f 71) [(.t 26), (.t 27), (.t 28), (.t 29)], [0, 1, 2, 3], none⟩] [] [0, 1, 2, 3, 4, 10, 11, 96, 95, 94, 84, 89, 93, 92, 90, 91, 88, 85, 87, 86, 74, 73, 70, 12, 25, 26, 27, 28, 29, 30])
 .ret)
 .skip))
 (.seq (.seq (.region [⟨(some 31), .mov (.t 3), [], none⟩,
 ⟨(some 32), .bin .eql (.t 31) (.c (.int .i64 0)), [0], none⟩] [] [25, 31])
 (.cond (.t 32)
 (.seq (.region [⟨(some 33), .mov (.t 0), [], none⟩,
 ⟨(some 34), .mov (.t 1), [], none⟩,
 ⟨(some 35), .mov (.t 2), [], none⟩,
 ⟨(some 36), .mov (.t 4), [], none⟩,
 ⟨(some 37), .call .heap (.f 72) [(.t 33), (.t 34), (.t 35), (.t 36)], [0, 1, 2, 3], none⟩] [] [0, 1, 2, 3, 4, 10, 11, 96, 95, 94, 84, 89, 93, 92, 90, 91, 88, 85, 87, 86, 74, 73, 70, 12, 32, 33, 34, 35, 36, 37])
 .ret)
 .skip))
 (.seq (.seq (.region [⟨(some 38), .mov (.t 10), [], none⟩,
 ⟨(some 39), .un .not (.t 38), [0], none⟩] [] [32, 38])
 (.cond (.t 39)
 (.seq (.region [⟨(some 40), .mov (.t 0), [], none⟩,
 ⟨(some 41), .mov (.t 1), [], none⟩,
 ⟨(some 42), .mov (.t 2), [], none⟩,
 ⟨(some 43), .mov (.t 4), [], none⟩,
 ⟨(some 44), .call .heap (.f 73) [(.t 40), (.t 41), (.t 42), (.t 43)], [0, 1, 2, 3], none⟩] [] [39, 40, 41, 42, 43, 44])
 (.region [⟨(some 45), .mov (.t 3), [], none⟩,
 ⟨(some 46), .bin .sub (.t 45) (.c (.int .i64 1)), [0], none⟩,
 ⟨(some 3), .mov (.t 46), [1, 0, 1], none⟩] [] [45, 46]))
 .skip))
 (.seq (.region [⟨(some 48), .mov (.t 0), [], none⟩,
 ⟨(some 49), .mov (.t 1), [], none⟩,
 ⟨(some 50), .mov (.t 2), [], none⟩,
 ⟨(some 51), .mov (.t 4), [], none⟩,
 ⟨(some 52), .call .heap (.f 74) [(.t 48), (.t 49), (.t 50), (.t 51)], [0, 1, 2, 3], none⟩,
 ⟨(some 47), .mov (.t 52), [4], none⟩,
 ⟨(some 53), .extract 0 (.t 47), [5], none⟩,
 ⟨(some 54), .extract 1 (.t 47), [5], none⟩,
 ⟨(some 13), .mov (.t 53), [6, 4, 0, 1, 2, 3, 4, 5, 6], none⟩,
 ⟨(some 14), .mov (.t 54), [7, 8, 0, 1, 2, 3, 4, 5, 6, 7, 8], none⟩] [] [39, 48, 49, 50, 51, 52, 47, 53, 54])
 (.seq (.seq (.region [⟨(some 55), .mov (.t 14), [], none⟩,
 ⟨(some 56), .bin .eql (.t 55) (.c (.int .i64 2)), [0], none⟩] [] [55])
 (.cond (.t 56)
 (.seq (.region [⟨(some 57), .mov (.t 0), [], none⟩,
 ⟨(some 58), .mov (.t 1), [], none⟩,
 ⟨(some 59), .mov (.t 2), [], none⟩,
 ⟨(some 60), .mov (.t 4), [], none⟩,
 ⟨(some 61), .call .heap (.f 75) [(.t 57), (.t 58), (.t 59), (.t 60)], [0, 1, 2, 3], none⟩] [] [14, 56, 57, 58, 59, 60, 61])
 (.seq (.region [⟨(some 62), .mov (.t 2), [], none⟩,
 ⟨(some 63), .bin .sub (.t 62) (.c (.int .i64 1)), [0], none⟩,
 ⟨(some 64), .mov (.t 13), [], none⟩,
 ⟨(some 65), .mov (.t 1), [], none⟩,
 ⟨(some 66), .bin .sub (.t 64) (.t 65), [2, 3], none⟩,
 ⟨(some 67), .bin .sub (.t 63) (.t 66), [1, 4], none⟩,
 ⟨(some 13), .mov (.t 67), [5, 0, 1, 2, 3, 4, 5], none⟩] [] [62, 63, 64, 65, 66, 67])
 (.region [⟨(some 14), .mov (.c (.int .i64 1)), [], none⟩] [] [])))
 .skip))
 (.seq (.seq (.region [⟨(some 68), .mov (.t 10), [], none⟩,
 ⟨(some 69), .mov (.t 68), [0], none⟩,
 ⟨(some 70), .mov (.t 11), [1], (some (69, true))⟩,
 ⟨(some 71), .pick (.t 69) (.t 70) (.c (.bool false)), [1, 2], none⟩,
 ⟨(some 72), .mov (.t 71), [3, 1], none⟩,
 ⟨(some 73), .mov (.t 14), [4], (some (72, true))⟩,
 ⟨(some 74), .bin .eql (.t 73) (.c (.int .i64 1)), [5, 4], (some (72, true))⟩,
 ⟨(some 75), .pick (.t 72) (.t 74) (.c (.bool false)), [4, 6], none⟩] [] [14, 56, 68, 69, 71, 72])
 (.cond (.t 75)
 (.seq (.region [⟨(some 76), .mov (.t 0), [], none⟩,
 ⟨(some 77), .mov (.t 1), [], none⟩,
 ⟨(some 78), .mov (.t 2), [], none⟩,
 ⟨(some 79), .mov (.t 4), [], none⟩,
 ⟨(some 80), .call .heap (.f 76) [(.t 76), (.t 77), (.t 78), (.t 79)], [0, 1, 2, 3], none⟩] [] [75, 76, 77, 78, 79])
 (.cond (.t 80)
 .ret
 .skip))
 .skip))
 (.seq (.seq (.region [⟨(some 81), .mov (.t 1), [], none⟩,
 ⟨(some 82), .bin .gtr (.t 81) (.c (.int .i64 0)), [0], none⟩,
 ⟨(some 83), .mov (.t 82), [1], none⟩,
 ⟨(some 84), .mov (.t 4), [2], (some (83, true))⟩,
 ⟨(some 85), .mov (.t 0), [2], (some (83, true))⟩,
 ⟨(some 86), .mov (.t 1), [2], (some (83, true))⟩,
 ⟨(some 87), .bin .sub (.t 86) (.c (.int .i64 1)), [5, 2], (some (83, true))⟩,
 ⟨(some 88), .iaddr none 4 (.t 85) (.t 87), [4, 6, 2], (some (83, true))⟩,
 ⟨(some 89), .load (some 4) (.t 88), [7, 2], (some (83, true))⟩,
 ⟨(some 90), .mov (.t 0), [2], (some (83, true))⟩,
 ⟨(some 91), .mov (.t 13), [2], (some (83, true))⟩,
 ⟨(some 92), .iaddr none 4 (.t 90) (.t 91), [9, 10, 2], (some (83, true))⟩,
 ⟨(some 93), .load (some 4) (.t 92), [11, 2], (some (83, true))⟩,
 ⟨(some 94), .call .pure (.t 84) [(.t 89), (.t 93)], [3, 8, 12, 2, 2], (some (83, true))⟩,
 ⟨(some 95), .bin .lss (.t 94) (.c (.int .i64 0)), [13, 2], (some (83, true))⟩,
 ⟨(some 96), .un .not (.t 95), [14, 2], (some (83, true))⟩,
 ⟨(some 97), .pick (.t 83) (.t 96) (.c (.bool false)), [2, 15], none⟩] [] [80, 75, 81, 82, 83])
 (.cond (.t 97)
 (.seq (.region [⟨(some 98), .mov (.t 0), [], none⟩,
 ⟨(some 99), .mov (.t 1), [], none⟩,
 ⟨(some 100), .mov (.t 2), [], none⟩,
 ⟨(some 101), .mov (.t 13), [], none⟩,
 ⟨(some 102), .mov (.t 4), [], none⟩,
 ⟨(some 103), .call .heap (.f 77) [(.t 98), (.t 99), (.t 100), (.t 101), (.t 102)], [0, 1, 2, 3, 4], none⟩,
 ⟨(some 15), .mov (.t 103), [5, 5, 0, 1, 2, 3, 4, 5], none⟩] [] [1, 12, 13, 97, 98, 99, 100, 101, 102, 103])
 (.seq (.region [⟨(some 104), .mov (.t 15), [], none⟩,
 ⟨(some 1), .mov (.t 104), [0, 0], none⟩] [] [15, 104])
 (.exit 1)))
 .skip))
 (.seq (.region [⟨(some 106), .mov (.t 0), [], none⟩,
 ⟨(some 107), .mov (.t 1), [], none⟩,
 ⟨(some 108), .mov (.t 2), [], none⟩,
 ⟨(some 109), .mov (.t 13), [], none⟩,
 ⟨(some 110), .mov (.t 4), [], none⟩,
 ⟨(some 111), .call .heap (.f 78) [(.t 106), (.t 107), (.t 108), (.t 109), (.t 110)], [0, 1, 2, 3, 4], none⟩,
 ⟨(some 105), .mov (.t 111), [5], none⟩,
 ⟨(some 112), .extract 0 (.t 105), [6], none⟩,
 ⟨(some 113), .extract 1 (.t 105), [6], none⟩,
 ⟨(some 16), .mov (.t 112), [7, 5, 0, 1, 2, 3, 4, 5, 6, 7], none⟩,
 ⟨(some 17), .mov (.t 113), [8, 9, 0, 1, 2, 3, 4, 5, 6, 7, 8, 9], none⟩] [] [10, 11, 13, 97, 106, 107, 108, 109, 110, 111, 105, 112, 113])
 (.seq (.region [⟨(some 114), .mov (.t 17), [], none⟩,
 ⟨(some 11), .mov (.t 114), [0, 0], none⟩] [] [17, 114])
 (.seq (.region [⟨(some 115), .mov (.t 16), [], none⟩,
 ⟨(some 116), .mov (.t 1), [], none⟩,
 ⟨(some 117), .bin .sub (.t 115) (.t 116), [0, 1], none⟩,
 ⟨(some 118), .mov (.t 2), [], none⟩,
 ⟨(some 119), .mov (.t 16), [], none⟩,
 ⟨(some 120), .bin .sub (.t 118) (.t 119), [3, 4], none⟩,
 ⟨(some 18), .mov (.t 117), [2, 0, 1, 2], none⟩,
 ⟨(some 19), .mov (.t 120), [5, 6, 0, 1, 2, 3, 4, 5, 6], none⟩] [] [115, 116, 117, 118, 119, 120])
 (.seq (.region [⟨(some 121), .mov (.t 12), [], none⟩,
 ⟨(some 122), .bin .quo (.t 121) (.c (.int .i64 8)), [0], none⟩,
 ⟨(some 20), .mov (.t 122), [1, 0, 1], none⟩] [] [12, 121, 122])
 (.seq (.region [⟨(some 123), .mov (.t 18), [], none⟩,
 ⟨(some 124), .mov (.t 19), [], none⟩,
 ⟨(some 125), .bin .lss (.t 123) (.t 124), [0, 1], none⟩] [] [123, 124])
 (.cond (.t 125)
 (.seq (.region [⟨(some 126), .mov (.t 18), [], none⟩,
 ⟨(some 127), .mov (.t 20), [], none⟩,
 ⟨(some 128), .bin .geq (.t 126) (.t 127), [0, 1], none⟩,
 ⟨(some 10), .mov (.t 128), [2, 0, 1, 2], none⟩] [] [18, 19, 20, 125, 126, 127, 128])
 (.seq (.region [⟨(some 129), .mov (.t 0), [], none⟩,
 ⟨(some 130), .mov (.t 1), [], none⟩,
 ⟨(some 131), .mov (.t 16), [], none⟩,
 ⟨(some 132), .mov (.t 3), [], none⟩,
 ⟨(some 133), .mov (.t 4), [], none⟩,
 ⟨(some 134), .call .heap (.f 63) [(.t 129), (.t 130), (.t 131), (.t 132), (.t 133)], [0, 1, 2, 3, 4], none⟩] [] [1, 129, 130, 131, 132, 133, 134])
 (.region [⟨(some 135), .mov (.t 16), [], none⟩,
 ⟨(some 136), .bin .add (.t 135) (.c (.int .i64 1)), [0], none⟩,
 ⟨(some 1), .mov (.t 136), [1, 0, 1], none⟩] [] [16, 135, 136])))
 (.seq (.region [⟨(some 137), .mov (.t 19), [], none⟩,
 ⟨(some 138), .mov (.t 20), [], none⟩,
 ⟨(some 139), .bin .geq (.t 137) (.t 138), [0, 1], none⟩,
 ⟨(some 10), .mov (.t 139), [2, 0, 1, 2], none⟩] [] [18, 19, 20, 125, 137, 138, 139])
 (.seq (.region [⟨(some 140), .mov (.t 0), [], none⟩,
 ⟨(some 141), .mov (.t 16), [], none⟩,
 ⟨(some 142), .bin .add (.t 141) (.c (.int .i64 1)), [1], none⟩,
 ⟨(some 143), .mov (.t 2), [], none⟩,
 ⟨(some 144), .mov (.t 3), [], none⟩,
 ⟨(some 145), .mov (.t 4), [], none⟩,
 ⟨(some 146), .call .heap (.f 63) [(.t 140), (.t 142), (.t 143), (.t 144), (.t 145)], [0, 2, 3, 4, 5], none⟩] [] [2, 140, 141, 142, 143, 144, 145, 146])
 (.region [⟨(some 147), .mov (.t 16), [], none⟩,
 ⟨(some 2), .mov (.t 147), [0, 0], none⟩] [] [16, 147]))))))))))))))))))))))⟩
def s64 : SFn := ⟨8, [.tmp 2],
 (.seq (.region [⟨(some 2), .mov (.c (.int .i64 0)), [], none⟩] [] [2])
 (.seq (.cond (.c (.bool false))
 (.seq (.region [⟨(some 3), .mov (.t 0), [], none⟩,
 ⟨(some 4), .conv .u32 (.t 3), [0], none⟩,
 ⟨(some 5), .call .pure (.f 79) [(.t 4)], [1], none⟩,
 ⟨(some 2), .mov (.t 5), [2, 2, 0, 1, 2], none⟩] [] [0, 3, 4, 5])
 .ret)
 .skip)
 (.seq (.region [⟨(some 6), .mov (.t 0), [], none⟩,
 ⟨(some 7), .call .pure (.f 80) [(.t 6)], [0], none⟩,
 ⟨(some 2), .mov (.t 7), [1, 1, 0, 1], none⟩] [] [0, 6, 7])
 .ret)))⟩
def s65 : SFn := ⟨17, [.tmp 4],
 (.seq (.region [⟨(some 4), .mov (.c (.bool false)), [], none⟩] [] [4])
 (.seq (.region [⟨(some 5), .mov (.t 0), [], none⟩,
 ⟨(some 6), .call .pure (.f 81) [(.t 5)], [0], none⟩,
 ⟨(some 7), .mov (.t 6), [1, 1], none⟩,
 ⟨(some 8), .mov (.t 1), [2], (some (7, true))⟩,
 ⟨(some 9), .call .pure (.f 81) [(.t 8)], [3, 2, 2], (some (7, true))⟩,
 ⟨(some 10), .un .not (.t 9), [4, 2], (some (7, true))⟩,
 ⟨(some 11), .pick (.t 7) (.t 10) (.c (.bool false)), [2, 5], none⟩,
 ⟨(some 12), .mov (.t 11), [6, 4], none⟩,
 ⟨(some 13), .mov (.t 0), [7], (some (12, false))⟩,
 ⟨(some 14), .mov (.t 1), [7], (some (12, false))⟩,
 ⟨(some 15), .bin .lss (.t 13) (.t 14), [8, 9, 7], (some (12, false))⟩,
 ⟨(some 16), .pick (.t 12) (.c (.bool true)) (.t 15), [7, 10], none⟩,
 ⟨(some 4), .mov (.t 16), [11, 7, 0, 1, 2, 3, 4, 5, 6, 7, 8, 9, 10, 11], none⟩] [] [0, 1, 5, 6, 7, 8, 9, 10, 11, 12, 13, 14, 15, 16])
 .ret))⟩
def s66 : SFn := ⟨6, [.tmp 2],
 (.seq (.region [⟨(some 2), .mov (.c (.bool false)), [], none⟩] [] [2])
 (.seq (.region [⟨(some 3), .mov (.t 0), [], none⟩,
 ⟨(some 4), .mov (.t 0), [], none⟩,
 ⟨(some 5), .bin .neq (.t 3) (.t 4), [0, 1], none⟩,
 ⟨(some 2), .mov (.t 5), [2, 0, 1, 2], none⟩] [] [0, 3, 4, 5])
 .ret))⟩
def s67 : SFn := ⟨49, [.tmp 6, .tmp 7],
 (.seq (.region [⟨(some 6), .mov (.c (.int .i64 0)), [], none⟩,
 ⟨(some 7), .mov (.c (.bool false)), [0], none⟩] [] [6, 7])
 (.seq (.region [⟨(some 12), .mov (.t 0), [], none⟩,
 ⟨(some 13), .len 1 (.t 12), [0], none⟩,
 ⟨(some 8), .mov (.t 13), [1, 0, 1], none⟩] [] [12, 13])
 (.seq (.region [⟨(some 14), .mov (.t 8), [], none⟩,
 ⟨(some 9), .mov (.c (.int .i64 0)), [], none⟩,
 ⟨(some 10), .mov (.t 14), [0, 1, 0, 1], none⟩] [] [14])
 (.seq (.block 0 (.loop (.seq (.seq (.region [⟨(some 15), .mov (.t 9), [], none⟩,
 ⟨(some 16), .mov (.t 10), [], none⟩,
 ⟨(some 17), .bin .lss (.t 15) (.t 16), [0, 1], none⟩] [] [15, 16])
 (.cond (.t 17)
 .skip
 (.exit 0)))
 (.block 1 (.seq (.region [⟨(some 18), .mov (.t 9), [], none⟩,
 ⟨(some 19), .mov (.t 10), [], none⟩,
 ⟨(some 20), .bin .add (.t 18) (.t 19), [0, 1], none⟩,
 ⟨(some 21), .conv .u64 (.t 20), [2], none⟩,
 ⟨(some 22), .bin .shr (.t 21) (.c (.int .u64 1)), [3], none⟩,
 ⟨(some 23), .conv .i64 (.t 22), [4], none⟩,
 ⟨(some 11), .mov (.t 23), [5, 0, 1, 2, 3, 4, 5], none⟩] [] [17, 18, 19, 20, 21, 22, 23])
 (.seq (.region [⟨(some 24), .mov (.t 2), [], none⟩,
 ⟨(some 25), .mov (.t 0), [], none⟩,
 ⟨(some 26), .mov (.t 11), [], none⟩,
 ⟨(some 27), .iaddr none 3 (.t 25) (.t 26), [1, 2], none⟩,
 ⟨(some 28), .load (some 3) (.t 27), [3], none⟩,
 ⟨(some 29), .mov (.t 1), [], none⟩,
 ⟨(some 30), .call .pure (.t 24) [(.t 28), (.t 29)], [0, 4, 5], none⟩,
 ⟨(some 31), .bin .lss (.t 30) (.c (.int .i64 0)), [6], none⟩] [] [24, 25, 26, 27, 28, 29, 30])
 (.cond (.t 31)
 (.region [⟨(some 32), .mov (.t 11), [], none⟩,
 ⟨(some 33), .bin .add (.t 32) (.c (.int .i64 1)), [0], none⟩,
 ⟨(some 9), .mov (.t 33), [1, 0, 1], none⟩] [] [11, 31, 32, 33])
 (.region [⟨(some 34), .mov (.t 11), [], none⟩,
 ⟨(some 10), .mov (.t 34), [0, 0], none⟩] [] [11, 31, 34]))))))))
 (.seq (.region [⟨(some 35), .mov (.t 9), [], none⟩,
 ⟨(some 36), .mov (.t 9), [], none⟩,
 ⟨(some 37), .mov (.t 8), [], none⟩,
 ⟨(some 38), .bin .lss (.t 36) (.t 37), [1, 2], none⟩,
 ⟨(some 39), .mov (.t 38), [3], none⟩,
 ⟨(some 40), .mov (.t 2), [4], (some (39, true))⟩,
 ⟨(some 41), .mov (.t 0), [4], (some (39, true))⟩,
 ⟨(some 42), .mov (.t 9), [4], (some (39, true))⟩,
 ⟨(some 43), .iaddr none 3 (.t 41) (.t 42), [6, 7, 4], (some (39, true))⟩,
 ⟨(some 44), .load (some 3) (.t 43), [8, 4], (some (39, true))⟩,
 ⟨(some 45), .mov (.t 1), [4], (some (39, true))⟩,
 ⟨(some 46), .call .pure (.t 40) [(.t 44), (.t 45)], [5, 9, 10, 4, 4], (some (39, true))⟩,
 ⟨(some 47), .bin .eql (.t 46) (.c (.int .i64 0)), [11, 4], (some (39, true))⟩,
 ⟨(some 48), .pick (.t 39) (.t 47) (.c (.bool false)), [4, 12], none⟩,
 ⟨(some 6), .mov (.t 35), [0, 11, 0], none⟩,
 ⟨(some 7), .mov (.t 48), [13, 14, 0, 1, 2, 3, 4, 5, 6, 7, 8, 9, 10, 11, 12, 13, 14], none⟩] [] [0, 1, 2, 8, 9, 10, 47, 46, 40, 44, 45, 43, 41, 42, 35, 36, 37, 38, 39, 48])
 .ret)))))⟩
def s68 : SFn := ⟨9, [.tmp 4],
 (.seq (.region [⟨(some 2), .box .dyn (.t 0), [], none⟩,
 ⟨(some 4), .mov (.c (.int .i64 0)), [], none⟩] [] [0, 4])
 (.seq (.region [⟨(some 5), .faddr 0 (.t 2), [], none⟩,
 ⟨(some 6), .load none (.t 5), [0], none⟩,
 ⟨(some 7), .mov (.t 1), [], none⟩,
 ⟨(some 8), .bin .sub (.t 6) (.t 7), [1, 2], none⟩,
 ⟨(some 4), .mov (.t 8), [3, 0, 1, 2, 3], none⟩] [] [1, 2, 5, 6, 7, 8])
 .ret))⟩
def s69 : SFn := ⟨9, [.tmp 4],
 (.seq (.region [⟨(some 2), .box .dyn (.t 0), [], none⟩,
 ⟨(some 4), .mov (.c (.int .i64 0)), [], none⟩] [] [0, 4])
 (.seq (.region [⟨(some 5), .faddr 0 (.t 2), [], none⟩,
 ⟨(some 6), .load none (.t 5), [0], none⟩,
 ⟨(some 7), .mov (.t 1), [], none⟩,
 ⟨(some 8), .bin .sub (.t 6) (.t 7), [1, 2], none⟩,
 ⟨(some 4), .mov (.t 8), [3, 0, 1, 2, 3], none⟩] [] [1, 2, 5, 6, 7, 8])
 .ret))⟩
def s70 : SFn := ⟨19, [.tmp 4],
 (.seq (.region [⟨(some 4), .mov (.c (.int .i64 0)), [], none⟩] [] [4])
 (.seq (.seq (.region [⟨(some 6), .mov (.t 0), [], none⟩,
 ⟨(some 7), .len 1 (.t 6), [0], none⟩,
 ⟨(some 8), .mov (.c (.int .i64 0)), [], none⟩] [] [6])
 (.block 0 (.loop (.seq (.region [⟨(some 9), .bin .lss (.t 8) (.t 7), [], none⟩] [] [])
 (.seq (.cond (.t 9)
 .skip
 (.exit 0))
 (.seq (.block 1 (.seq (.region [⟨(some 10), .mov (.t 8), [], none⟩,
 ⟨(some 5), .mov (.t 10), [0, 0], none⟩] [] [9, 10])
 (.seq (.region [⟨(some 11), .mov (.t 1), [], none⟩,
 ⟨(some 12), .mov (.t 0), [], none⟩,
 ⟨(some 13), .mov (.t 5), [], none⟩,
 ⟨(some 14), .iaddr none 1 (.t 12) (.t 13), [1, 2], none⟩,
 ⟨(some 15), .load none (.t 14), [3], none⟩,
 ⟨(some 16), .bin .eql (.t 11) (.t 15), [0, 4], none⟩] [] [11, 12, 13, 14, 15])
 (.cond (.t 16)
 (.seq (.region [⟨(some 17), .mov (.t 5), [], none⟩,
 ⟨(some 4), .mov (.t 17), [0, 0], none⟩] [] [0, 1, 7, 8, 5, 16, 17])
 .ret)
 .skip))))
 (.region [⟨(some 18), .bin .add (.t 8) (.c (.int .i64 1)), [], none⟩,
 ⟨(some 8), .mov (.t 18), [0], none⟩] [] [4, 5, 16, 18])))))))
 (.seq (.region [⟨(some 4), .mov (.c (.int .i64 (-1))), [], none⟩] [] [0, 1, 7, 8])
 .ret)))⟩
def s71 : SFn := ⟨53, [],
 (.seq (.region [⟨(some 10), .mov (.t 1), [], none⟩,
 ⟨(some 11), .bin .add (.t 10) (.c (.int .i64 1)), [0], none⟩,
 ⟨(some 8), .mov (.t 11), [1, 0, 1], none⟩] [] [10, 11])
 (.block 0 (.loop (.seq (.seq (.region [⟨(some 12), .mov (.t 8), [], none⟩,
 ⟨(some 13), .mov (.t 2), [], none⟩,
 ⟨(some 14), .bin .lss (.t 12) (.t 13), [0, 1], none⟩] [] [12, 13])
 (.cond (.t 14)
 .skip
 (.exit 0)))
 (.seq (.block 1 (.seq (.region [⟨(some 17), .mov (.t 8), [], none⟩,
 ⟨(some 9), .mov (.t 17), [0, 0], none⟩] [] [14, 17])
 (.block 2 (.loop (.seq (.seq (.region [⟨(some 18), .mov (.t 9), [], none⟩,
 ⟨(some 19), .mov (.t 1), [], none⟩,
 ⟨(some 20), .bin .gtr (.t 18) (.t 19), [0, 1], none⟩,
 ⟨(some 21), .mov (.t 20), [2], none⟩,
 ⟨(some 22), .mov (.t 3), [3], (some (21, true))⟩,
 ⟨(some 23), .mov (.t 0), [3], (some (21, true))⟩,
 ⟨(some 24), .mov (.t 9), [3], (some (21, true))⟩,
 ⟨(some 25), .iaddr none 4 (.t 23) (.t 24), [5, 6, 3], (some (21, true))⟩,
 ⟨(some 26), .load (some 4) (.t 25), [7, 3], (some (21, true))⟩,
 ⟨(some 27), .mov (.t 0), [3], (some (21, true))⟩,
 ⟨(some 28), .mov (.t 9), [3], (some (21, true))⟩,
 ⟨(some 29), .bin .sub (.t 28) (.c (.int .i64 1)), [10, 3], (some (21, true))⟩,
 ⟨(some 30), .iaddr none 4 (.t 27) (.t 29), [9, 11, 3], (some (21, true))⟩,
 ⟨(some 31), .load (some 4) (.t 30), [12, 3], (some (21, true))⟩,
 ⟨(some 32), .call .pure (.t 22) [(.t 26), (.t 31)], [4, 8, 13, 3, 3], (some (21, true))⟩,
 ⟨(some 33), .bin .lss (.t 32) (.c (.int .i64 0)), [14, 3], (some (21, true))⟩,
 ⟨(some 34), .pick (.t 21) (.t 33) (.c (.bool false)), [3, 15], none⟩] [] [18, 19, 20, 21])
 (.cond (.t 34)
 .skip
 (.exit 2)))
 (.seq (.block 3 (.region [⟨(some 37), .mov (.t 0), [], none⟩,
 ⟨(some 38), .mov (.t 9), [], none⟩,
 ⟨(some 39), .mov (.t 0), [], none⟩,
 ⟨(some 40), .mov (.t 9), [], none⟩,
 ⟨(some 41), .bin .sub (.t 40) (.c (.int .i64 1)), [3], none⟩,
 ⟨(some 42), .mov (.t 0), [], none⟩,
 ⟨(some 43), .mov (.t 9), [], none⟩,
 ⟨(some 44), .bin .sub (.t 43) (.c (.int .i64 1)), [6], none⟩,
 ⟨(some 45), .iaddr none 4 (.t 42) (.t 44), [5, 7], none⟩,
 ⟨(some 46), .load (some 4) (.t 45), [8], none⟩,
 ⟨(some 47), .mov (.t 0), [], none⟩,
 ⟨(some 48), .mov (.t 9), [], none⟩,
 ⟨(some 49), .iaddr none 4 (.t 47) (.t 48), [10, 11], none⟩,
 ⟨(some 50), .load (some 4) (.t 49), [12], none⟩,
 ⟨(some 51), .iaddr none 4 (.t 37) (.t 38), [0, 1, 0, 1, 5, 6, 7, 8, 9, 13], none⟩,
 ⟨none, .store 4 (.t 51) (.t 46), [14, 9, 0, 1, 5, 6, 7, 8, 9, 13], none⟩,
 ⟨(some 52), .iaddr none 4 (.t 39) (.t 41), [2, 4, 0, 1, 2, 3, 4, 5, 6, 7, 8, 9, 10, 11, 12, 13, 14, 15], none⟩,
 ⟨none, .store 4 (.t 52) (.t 50), [16, 13, 15, 0, 1, 2, 3, 4, 5, 6, 7, 8, 9, 10, 11, 12, 13, 14, 15], none⟩] [] [34, 37, 38, 39, 40, 41, 42, 43, 44, 45, 46, 47, 48, 49, 50, 51, 52]))
 (.region [⟨(some 35), .mov (.t 9), [], none⟩,
 ⟨(some 36), .bin .sub (.t 35) (.c (.int .i64 1)), [0], none⟩,
 ⟨(some 9), .mov (.t 36), [1, 0, 1], none⟩] [] [35, 36])))))))
 (.region [⟨(some 15), .mov (.t 8), [], none⟩,
 ⟨(some 16), .bin .add (.t 15) (.c (.int .i64 1)), [0], none⟩,
 ⟨(some 8), .mov (.t 16), [1, 0, 1], none⟩] [] [9, 15, 16]))))))⟩
def s80 : SFn := ⟨25, [.tmp 2],
 (.seq (.region [⟨(some 2), .mov (.c (.int .i64 0)), [], none⟩] [] [])
 (.seq (.seq (.region [⟨(some 3), .mov (.t 0), [], none⟩,
 ⟨(some 4), .bin .geq (.t 3) (.c (.int .u64 4294967296)), [0], none⟩] [] [3])
 (.cond (.t 4)
 (.seq (.region [⟨(some 5), .mov (.t 0), [], none⟩,
 ⟨(some 6), .bin .shr (.t 5) (.c (.int .u64 32)), [0], none⟩,
 ⟨(some 0), .mov (.t 6), [1, 0, 1], none⟩] [] [2, 4, 5, 6])
 (.region [⟨(some 2), .mov (.c (.int .i64 32)), [], none⟩] [] []))
 .skip))
 (.seq (.seq (.region [⟨(some 7), .mov (.t 0), [], none⟩,
 ⟨(some 8), .bin .geq (.t 7) (.c (.int .u64 65536)), [0], none⟩] [] [4, 7])
 (.cond (.t 8)
 (.seq (.region [⟨(some 9), .mov (.t 0), [], none⟩,
 ⟨(some 10), .bin .shr (.t 9) (.c (.int .u64 16)), [0], none⟩,
 ⟨(some 0), .mov (.t 10), [1, 0, 1], none⟩] [] [8, 9, 10])
 (.region [⟨(some 11), .mov (.t 2), [], none⟩,
 ⟨(some 12), .bin .add (.t 11) (.c (.int .i64 16)), [0], none⟩,
 ⟨(some 2), .mov (.t 12), [1, 0, 1], none⟩] [] [11, 12]))
 .skip))
 (.seq (.seq (.region [⟨(some 13), .mov (.t 0), [], none⟩,
 ⟨(some 14), .bin .geq (.t 13) (.c (.int .u64 256)), [0], none⟩] [] [8, 13])
 (.cond (.t 14)
 (.seq (.region [⟨(some 15), .mov (.t 0), [], none⟩,
 ⟨(some 16), .bin .shr (.t 15) (.c (.int .u64 8)), [0], none⟩,
 ⟨(some 0), .mov (.t 16), [1, 0, 1], none⟩] [] [14, 15, 16])
 (.region [⟨(some 17), .mov (.t 2), [], none⟩,
 ⟨(some 18), .bin .add (.t 17) (.c (.int .i64 8)), [0], none⟩,
 ⟨(some 2), .mov (.t 18), [1, 0, 1], none⟩] [] [17, 18]))
 .skip))
 (.seq (.region [⟨(some 19), .mov (.t 2), [], none⟩,
 ⟨(some 20), .mov (.t 0), [], none⟩,
 ⟨(some 21), .conv .u8 (.t 20), [1], none⟩,
 ⟨(some 22), .index none (.c (.str [0, 1, 2, 2, 3, 3, 3, 3, 4, 4, 4, 4, 4, 4, 4, 4, 5, 5, 5, 5, 5, 5, 5, 5, 5, 5, 5, 5, 5, 5, 5, 5, 6, 6, 6, 6, 6, 6, 6, 6, 6, 6, 6, 6, 6, 6, 6, 6, 6, 6, 6, 6, 6, 6, 6, 6, 6, 6, 6, 6, 6, 6, 6, 6, 7, 7, 7, 7, 7, 7, 7, 7, 7, 7, 7, 7, 7, 7, 7, 7, 7, 7, 7, 7, 7, 7, 7, 7, 7, 7, 7, 7, 7, 7, 7, 7, 7, 7, 7, 7, 7, 7, 7, 7, 7, 7, 7, 7, 7, 7, 7, 7, 7, 7, 7, 7, 7, 7, 7, 7, 7, 7, 7, 7, 7, 7, 7, 7, 8, 8, 8, 8, 8, 8, 8, 8, 8, 8, 8, 8, 8, 8, 8, 8, 8, 8, 8, 8, 8, 8, 8, 8, 8, 8, 8, 8, 8, 8, 8, 8, 8, 8, 8, 8, 8, 8, 8, 8, 8, 8, 8, 8, 8, 8, 8, 8, 8, 8, 8, 8, 8, 8, 8, 8, 8, 8, 8, 8, 8, 8, 8, 8, 8, 8, 8, 8, 8, 8, 8, 8, 8, 8, 8, 8, 8, 8, 8, 8, 8, 8, 8, 8, 8, 8, 8, 8, 8, 8, 8, 8, 8, 8, 8, 8, 8, 8, 8, 8, 8, 8, 8, 8, 8, 8, 8, 8, 8, 8, 8, 8, 8, 8, 8, 8, 8, 8, 8, 8, 8, 8, 8, 8, 8, 8, 8, 8])) (.t 21), [2], none⟩,
 ⟨(some 23), .conv .i64 (.t 22), [3], none⟩,
 ⟨(some 24), .bin .add (.t 19) (.t 23), [0, 4], none⟩,
 ⟨(some 2), .mov (.t 24), [5, 0, 1, 2, 3, 4, 5], none⟩] [] [0, 14, 19, 20, 21, 22, 23, 24])
 .ret)))))⟩
def s81 : SFn := ⟨6, [.tmp 2],
 (.seq (.region [⟨(some 2), .mov (.c (.bool false)), [], none⟩] [] [2])
 (.seq (.region [⟨(some 3), .mov (.t 0), [], none⟩,
 ⟨(some 4), .mov (.t 0), [], none⟩,
 ⟨(some 5), .bin .neq (.t 3) (.t 4), [0, 1], none⟩,
 ⟨(some 2), .mov (.t 5), [2, 0, 1, 2], none⟩] [] [0, 3, 4, 5])
 .ret))⟩
theorem ok8 : okFn Try.prog 8 s8 = true := by kernel_rfl
theorem ok10 : okFn Try.prog 10 s10 = true := by kernel_rfl
theorem ok11 : okFn Try.prog 11 s11 = true := by kernel_rfl
theorem ok12 : okFn Try.prog 12 s12 = true := by kernel_rfl
theorem ok14 : okFn Try.prog 14 s14 = true := by kernel_rfl
theorem ok15 : okFn Try.prog 15 s15 = true := by kernel_rfl
theorem ok16 : okFn Try.prog 16 s16 = true := by kernel_rfl
theorem ok18 : okFn Try.prog 18 s18 = true := by kernel_rfl
theorem ok22 : okFn Try.prog 22 s22 = true := by kernel_rfl
theorem ok23 : okFn Try.prog 23 s23 = true := by kernel_rfl
theorem ok24 : okFn Try.prog 24 s24 = true := by kernel_rfl
theorem ok29 : okFn Try.prog 29 s29 = true := by kernel_rfl
theorem ok30 : okFn Try.prog 30 s30 = true := by kernel_rfl
theorem ok31 : okFn Try.prog 31 s31 = true := by kernel_rfl
theorem ok32 : okFn Try.prog 32 s32 = true := by kernel_rfl
theorem ok34 : okFn Try.prog 34 s34 = true := by kernel_rfl
theorem ok35 : okFn Try.prog 35 s35 = true := by kernel_rfl
theorem ok36 : okFn Try.prog 36 s36 = true := by kernel_rfl
theorem ok37 : okFn Try.prog 37 s37 = true := by kernel_rfl
theorem ok38 : okFn Try.prog 38 s38 = true := by kernel_rfl
theorem ok39 : okFn Try.prog 39 s39 = true := by kernel_rfl
theorem ok44 : okFn Try.prog 44 s44 = true := by kernel_rfl
theorem ok45 : okFn Try.prog 45 s45 = true := by kernel_rfl
theorem ok46 : okFn Try.prog 46 s46 = true := by kernel_rfl
theorem ok47 : okFn Try.prog 47 s47 = true := by kernel_rfl
theorem ok48 : okFn Try.prog 48 s48 = true := by kernel_rfl
theorem ok49 : okFn Try.prog 49 s49 = true := by kernel_rfl
theorem ok50 : okFn Try.prog 50 s50 = true := by kernel_rfl
theorem ok51 : okFn Try.prog 51 s51 = true := by kernel_rfl
theorem ok52 : okFn Try.prog 52 s52 = true := by kernel_rfl
theorem ok53 : okFn Try.prog 53 s53 = true := by kernel_rfl
theorem ok54 : okFn Try.prog 54 s54 = true := by kernel_rfl
theorem ok56 : okFn Try.prog 56 s56 = true := by kernel_rfl
theorem ok57 : okFn Try.prog 57 s57 = true := by kernel_rfl
theorem ok58 : okFn Try.prog 58 s58 = true := by kernel_rfl
theorem ok59 : okFn Try.prog 59 s59 = true := by kernel_rfl
theorem ok60 : okFn Try.prog 60 s60 = true := by kernel_rfl
theorem ok61 : okFn Try.prog 61 s61 = true := by kernel_rfl
theorem ok62 : okFn Try.prog 62 s62 = true := by kernel_rfl
theorem ok63 : okFn Try.prog 63 s63 = true := by kernel_rfl
theorem ok64 : okFn Try.prog 64 s64 = true := by kernel_rfl
theorem ok65 : okFn Try.prog 65 s65 = true := by kernel_rfl
theorem ok66 : okFn Try.prog 66 s66 = true := by kernel_rfl
theorem ok67 : okFn Try.prog 67 s67 = true := by kernel_rfl
theorem ok68 : okFn Try.prog 68 s68 = true := by kernel_rfl
theorem ok69 : okFn Try.prog 69 s69 = true := by kernel_rfl
theorem ok70 : okFn Try.prog 70 s70 = true := by kernel_rfl
theorem ok71 : okFn Try.prog 71 s71 = true := by kernel_rfl
theorem ok80 : okFn Try.prog 80 s80 = true := by kernel_rfl
theorem ok81 : okFn Try.prog 81 s81 = true := by kernel_rfl
end Go.AM.SE
namespace Go.AM.SE
open Go.Proofs Go.AM.SD
set_option maxRecDepth 100000
set_option linter.unusedSimpArgs false
set_option linter.unusedVariables false
theorem PSpec.weak {P : Program} {f : Nat} {args bs : List AV} {v : AV} (hL : ∀ (c : Ctx) (w : World) (vs : List Value), HRel c .e w → VRels c w args vs → VRels c w bs vs) (hn : noRefs args = true) (hp : PSpec P f bs v) : PSpec P f args v := by
  obtain ⟨n1, n2, h', hc, hs⟩ := hp
  exact ⟨hn, n2, h', hc, fun c w cargs H ha => hs c w cargs H (hL c w _ H ha)⟩
theorem _root_.Go.AM.au0 {p : Prop} (h : p := by repeat (first | exact RO.zero | exact RO.e | refine RO.set rfl ?_)) : p := h
theorem _root_.Go.AM.au1 {p : Prop} (h : p := by repeat' (first | exact RB.nil | (refine RnL.same ?_; first | rfl | (simp only [noRef, noRefs, noRefs_append, Bool.and_self, Bool.and_true, Bool.true_and, noRefs_ints, noRefs_eg, noRefs_ed, noRefs_rm, noRefs_bls, noRef_sli, noRef_sliN, noRef_egs, noRef_egsN]; done)) | exact RnM.keyM rfl | exact RnL.nil | exact (True.intro : RnM _ _ _ [] []) | refine RnL.cons ?_ ?_ | (refine Rn.same ?_; first | rfl | (simp only [noRef, noRefs, noRefs_append, Bool.and_self, Bool.and_true, Bool.true_and, noRefs_ints, noRefs_eg, noRefs_ed, noRefs_rm, noRefs_bls, noRef_sli, noRef_sliN, noRef_egs, noRef_egsN]; done)) | exact Rn.x1 rfl rfl | exact Rn.x2 rfl rfl | exact Rn.x3 rfl rfl | exact Rn.x4 rfl rfl | exact Rn.x5 rfl | exact Rn.x6 rfl | exact Rn.x7 rfl | refine RB.newnil rfl rfl ?_ | refine RB.cells rfl rfl rfl ?_ ?_ | refine RB.map rfl rfl rfl ?_ ?_ | refine RB.cellsB rfl rfl ?_ ?_ | refine RB.mapB rfl rfl ?_ ?_)) : p := h
theorem _root_.Go.AM.au2 {p : Prop} (h : p := by repeat (first | exact RT.nil | (refine RT.cons ?_ ?_; · (first | exact Rn.any | exact Rn.x1 rfl rfl | exact Rn.x2 rfl rfl | exact Rn.x3 rfl rfl | exact Rn.x4 rfl rfl | exact Rn.x5 rfl | exact Rn.x6 rfl | exact Rn.x7 rfl | (refine Rn.slot ?_ ?_; (first | rfl | (rw [Int.natCast_add]; rfl)); (first | rfl | (simp only [noRef, noRefs, noRefs_append, Bool.and_self, Bool.and_true, Bool.true_and, noRefs_ints, noRefs_eg, noRefs_ed, noRefs_rm, noRefs_bls, noRef_sli, noRef_sliN, noRef_egs, noRef_egsN]; done))) | (refine Rn.fn ?_ ?_ <;> (repeat' (first | exact RnL.nil | refine RnL.cons ?_ ?_ | exact Rn.same rfl | exact Rn.x6 rfl | exact Rn.x2 rfl rfl | exact Rn.x5 rfl | exact Rn.x1 rfl rfl))))))) : p := h
theorem has15 (l : List Int) (n : Int) (hl : l.length ≤ 1099511627776) : PSpec Try.prog 15 [sli l, .int .i64 n] (.bool (decide (n ∈ l))) := by
  refine PSpec.of_flat 64 ok15 rfl (by (try simp only [noRefs, noRefs_ints, noRefs_eg, noRefs_ed, noRefs_rm, noRefs_bls, noRef, Bool.and_self, Bool.and_true]) <;> rfl) rfl ?_
  simp (maxSteps := 1000000) (disch := first | omega | (simp only [lenW] <;> omega)) only [s15, wordsN, Int.reduceGT, wordsR, ne_eq, words, Nat.reduceAdd, Nat.reduceEqDiff, Nat.reduceBEq, ↓reduceIte, reduceCtorEq, SX.exit.injEq, if_true, if_false, Int.reduceAdd, Int.reduceSub, Int.reduceMul, Int.reduceLT, Int.reduceLE, Int.reduceEq, Int.reduceNe, Int.reduceNeg, Int.reduceToNat, Nat.reduceMul, Nat.reduceLT, Nat.reduceSub, Nat.reduceLeDiff]
  refine wS_loopR 100 (fun i : Nat => [(0, sli l), (1, .int .i64 n), (5, .int .i64 i)]) (fun _ => []) (fun i => i ≤ l.length ∧ ∀ (j : Nat) y, j < i → l[j]? = some y → y ≠ n) (fun i => l.length - i) 0 ⟨[], rfl, au0, au1, au2⟩ ⟨Nat.zero_le _, fun j y hj => absurd hj (Nat.not_lt_zero _)⟩ ?_
  rintro i ⟨hi, hb⟩
  by_cases hlt : i < l.length
  · obtain ⟨x, hx⟩ := get_ex hlt
    by_cases h0 : x = n
    · simp (maxSteps := 1000000) (disch := first | omega | (simp only [lenW] <;> omega)) only [hlt, head_ints hx, h0, wordsN, Int.reduceGT, wordsR, ne_eq, words, Nat.reduceAdd, Nat.reduceEqDiff, Nat.reduceBEq, ↓reduceIte, reduceCtorEq, SX.exit.injEq, if_true, if_false, Int.reduceAdd, Int.reduceSub, Int.reduceMul, Int.reduceLT, Int.reduceLE, Int.reduceEq, Int.reduceNe, Int.reduceNeg, Int.reduceToNat, Nat.reduceMul, Nat.reduceLT, Nat.reduceSub, Nat.reduceLeDiff]
      refine ⟨.inr trivial, _, rfl, ?_⟩
      have : n ∈ l := h0 ▸ List.mem_of_getElem? hx
      simp [resOf, lk_cons, this]
    · simp (maxSteps := 1000000) (disch := first | omega | (simp only [lenW] <;> omega)) only [hlt, head_ints hx, h0, wordsN, Int.reduceGT, wordsR, ne_eq, words, Nat.reduceAdd, Nat.reduceEqDiff, Nat.reduceBEq, ↓reduceIte, reduceCtorEq, SX.exit.injEq, if_true, if_false, Int.reduceAdd, Int.reduceSub, Int.reduceMul, Int.reduceLT, Int.reduceLE, Int.reduceEq, Int.reduceNe, Int.reduceNeg, Int.reduceToNat, Nat.reduceMul, Nat.reduceLT, Nat.reduceSub, Nat.reduceLeDiff]
      refine ⟨i + 1, by omega, ⟨by omega, fun j y hj hy => ?_⟩, ⟨[], rfl, au0, au1, au2⟩⟩
      by_cases e : j = i
      · subst e; rw [hx] at hy; cases hy; exact h0
      · exact hb j y (by omega) hy
  · have : n ∉ l := fun h => by
      obtain ⟨j, hj, hjl⟩ := mem_at h
      exact hb j n (by omega) hj rfl
    simp (maxSteps := 1000000) (disch := first | omega | (simp only [lenW] <;> omega)) only [hlt, wordsN, Int.reduceGT, wordsR, ne_eq, words, Nat.reduceAdd, Nat.reduceEqDiff, Nat.reduceBEq, ↓reduceIte, reduceCtorEq, SX.exit.injEq, if_true, if_false, Int.reduceAdd, Int.reduceSub, Int.reduceMul, Int.reduceLT, Int.reduceLE, Int.reduceEq, Int.reduceNe, Int.reduceNeg, Int.reduceToNat, Nat.reduceMul, Nat.reduceLT, Nat.reduceSub, Nat.reduceLeDiff]
    exact ⟨.inr trivial, _, rfl, by simp [resOf, lk_cons, this]⟩
theorem has36 (l : List Int) (n : Int) (hl : l.length ≤ 1099511627776) : PSpec Try.prog 36 [sli l, .int .i64 n] (.bool (decide (n ∈ l))) := by
  refine PSpec.of_flat 64 ok36 rfl (by (try simp only [noRefs, noRefs_ints, noRefs_eg, noRefs_ed, noRefs_rm, noRefs_bls, noRef, Bool.and_self, Bool.and_true]) <;> rfl) rfl ?_
  simp (maxSteps := 1000000) (disch := first | omega | (simp only [lenW] <;> omega)) only [s36, wordsN, Int.reduceGT, wordsR, ne_eq, words, Nat.reduceAdd, Nat.reduceEqDiff, Nat.reduceBEq, ↓reduceIte, reduceCtorEq, SX.exit.injEq, if_true, if_false, Int.reduceAdd, Int.reduceSub, Int.reduceMul, Int.reduceLT, Int.reduceLE, Int.reduceEq, Int.reduceNe, Int.reduceNeg, Int.reduceToNat, Nat.reduceMul, Nat.reduceLT, Nat.reduceSub, Nat.reduceLeDiff]
  refine wS_loopR 100 (fun i : Nat => [(0, sli l), (1, .int .i64 n), (5, .int .i64 i)]) (fun _ => []) (fun i => i ≤ l.length ∧ ∀ (j : Nat) y, j < i → l[j]? = some y → y ≠ n) (fun i => l.length - i) 0 ⟨[], rfl, au0, au1, au2⟩ ⟨Nat.zero_le _, fun j y hj => absurd hj (Nat.not_lt_zero _)⟩ ?_
  rintro i ⟨hi, hb⟩
  by_cases hlt : i < l.length
  · obtain ⟨x, hx⟩ := get_ex hlt
    by_cases h0 : x = n
    · simp (maxSteps := 1000000) (disch := first | omega | (simp only [lenW] <;> omega)) only [hlt, head_ints hx, h0, wordsN, Int.reduceGT, wordsR, ne_eq, words, Nat.reduceAdd, Nat.reduceEqDiff, Nat.reduceBEq, ↓reduceIte, reduceCtorEq, SX.exit.injEq, if_true, if_false, Int.reduceAdd, Int.reduceSub, Int.reduceMul, Int.reduceLT, Int.reduceLE, Int.reduceEq, Int.reduceNe, Int.reduceNeg, Int.reduceToNat, Nat.reduceMul, Nat.reduceLT, Nat.reduceSub, Nat.reduceLeDiff]
      refine ⟨.inr trivial, _, rfl, ?_⟩
      have : n ∈ l := h0 ▸ List.mem_of_getElem? hx
      simp [resOf, lk_cons, this]
    · simp (maxSteps := 1000000) (disch := first | omega | (simp only [lenW] <;> omega)) only [hlt, head_ints hx, h0, wordsN, Int.reduceGT, wordsR, ne_eq, words, Nat.reduceAdd, Nat.reduceEqDiff, Nat.reduceBEq, ↓reduceIte, reduceCtorEq, SX.exit.injEq, if_true, if_false, Int.reduceAdd, Int.reduceSub, Int.reduceMul, Int.reduceLT, Int.reduceLE, Int.reduceEq, Int.reduceNe, Int.reduceNeg, Int.reduceToNat, Nat.reduceMul, Nat.reduceLT, Nat.reduceSub, Nat.reduceLeDiff]
      refine ⟨i + 1, by omega, ⟨by omega, fun j y hj hy => ?_⟩, ⟨[], rfl, au0, au1, au2⟩⟩
      by_cases e : j = i
      · subst e; rw [hx] at hy; cases hy; exact h0
      · exact hb j y (by omega) hy
  · have : n ∉ l := fun h => by
      obtain ⟨j, hj, hjl⟩ := mem_at h
      exact hb j n (by omega) hj rfl
    simp (maxSteps := 1000000) (disch := first | omega | (simp only [lenW] <;> omega)) only [hlt, wordsN, Int.reduceGT, wordsR, ne_eq, words, Nat.reduceAdd, Nat.reduceEqDiff, Nat.reduceBEq, ↓reduceIte, reduceCtorEq, SX.exit.injEq, if_true, if_false, Int.reduceAdd, Int.reduceSub, Int.reduceMul, Int.reduceLT, Int.reduceLE, Int.reduceEq, Int.reduceNe, Int.reduceNeg, Int.reduceToNat, Nat.reduceMul, Nat.reduceLT, Nat.reduceSub, Nat.reduceLeDiff]
    exact ⟨.inr trivial, _, rfl, by simp [resOf, lk_cons, this]⟩
theorem sameInts (a b : List Int) (hl : a.length ≤ 1099511627776) : PSpec Try.prog 14 [sli a, sli b] (.bool (decide (a = b))) := by
  refine PSpec.of_flat 64 ok14 rfl (by (try simp only [noRefs, noRefs_ints, noRefs_eg, noRefs_ed, noRefs_rm, noRefs_bls, noRef, Bool.and_self, Bool.and_true]) <;> rfl) rfl ?_
  by_cases hab : a.length = b.length
  · simp (maxSteps := 1000000) (disch := first | omega | (simp only [lenW] <;> omega)) only [s14, hab, wordsN, Int.reduceGT, wordsR, ne_eq, words, Nat.reduceAdd, Nat.reduceEqDiff, Nat.reduceBEq, ↓reduceIte, reduceCtorEq, SX.exit.injEq, if_true, if_false, Int.reduceAdd, Int.reduceSub, Int.reduceMul, Int.reduceLT, Int.reduceLE, Int.reduceEq, Int.reduceNe, Int.reduceNeg, Int.reduceToNat, Nat.reduceMul, Nat.reduceLT, Nat.reduceSub, Nat.reduceLeDiff]
    refine wS_loopR 100 (fun i : Nat => [(0, sli a), (1, sli b), (5, .int .i64 i)]) (fun _ => []) (fun i => i ≤ a.length ∧ ∀ j, j < i → a[j]? = b[j]?) (fun i => a.length - i) 0 ⟨[], rfl, au0, au1, au2⟩ ⟨Nat.zero_le _, fun j hj => absurd hj (Nat.not_lt_zero _)⟩ ?_
    rintro i ⟨hi, hb⟩
    by_cases hlt : i < a.length
    · obtain ⟨x, hx⟩ := get_ex hlt
      obtain ⟨y, hy⟩ := get_ex (l := b) (i := i) (by omega)
      have hlt2 : i < b.length := by omega
      by_cases h0 : x = y
      · simp (maxSteps := 1000000) (disch := first | omega | (simp only [lenW] <;> omega)) only [hlt, hlt2, head_ints hx, head_ints hy, h0, wordsN, Int.reduceGT, wordsR, ne_eq, words, Nat.reduceAdd, Nat.reduceEqDiff, Nat.reduceBEq, ↓reduceIte, reduceCtorEq, SX.exit.injEq, if_true, if_false, Int.reduceAdd, Int.reduceSub, Int.reduceMul, Int.reduceLT, Int.reduceLE, Int.reduceEq, Int.reduceNe, Int.reduceNeg, Int.reduceToNat, Nat.reduceMul, Nat.reduceLT, Nat.reduceSub, Nat.reduceLeDiff]
        refine ⟨i + 1, by omega, ⟨by omega, fun j hj => ?_⟩, ⟨[], rfl, au0, au1, au2⟩⟩
        by_cases e : j = i
        · subst e; rw [hx, hy, h0]
        · exact hb j (by omega)
      · simp (maxSteps := 1000000) (disch := first | omega | (simp only [lenW] <;> omega)) only [hlt, hlt2, head_ints hx, head_ints hy, h0, wordsN, Int.reduceGT, wordsR, ne_eq, words, Nat.reduceAdd, Nat.reduceEqDiff, Nat.reduceBEq, ↓reduceIte, reduceCtorEq, SX.exit.injEq, if_true, if_false, Int.reduceAdd, Int.reduceSub, Int.reduceMul, Int.reduceLT, Int.reduceLE, Int.reduceEq, Int.reduceNe, Int.reduceNeg, Int.reduceToNat, Nat.reduceMul, Nat.reduceLT, Nat.reduceSub, Nat.reduceLeDiff]
        refine ⟨.inr trivial, _, rfl, ?_⟩
        have : a ≠ b := fun e => by subst e; rw [hx] at hy; cases hy; exact h0 rfl
        simp [resOf, lk_cons, this]
    · have : a = b := List.ext_getElem? fun j => by
        by_cases hj : j < i
        · exact hb j hj
        · rw [List.getElem?_eq_none (by omega), List.getElem?_eq_none (by omega)]
      simp (maxSteps := 1000000) (disch := first | omega | (simp only [lenW] <;> omega)) only [hlt, wordsN, Int.reduceGT, wordsR, ne_eq, words, Nat.reduceAdd, Nat.reduceEqDiff, Nat.reduceBEq, ↓reduceIte, reduceCtorEq, SX.exit.injEq, if_true, if_false, Int.reduceAdd, Int.reduceSub, Int.reduceMul, Int.reduceLT, Int.reduceLE, Int.reduceEq, Int.reduceNe, Int.reduceNeg, Int.reduceToNat, Nat.reduceMul, Nat.reduceLT, Nat.reduceSub, Nat.reduceLeDiff]
      exact ⟨.inr trivial, _, rfl, by simp [resOf, lk_cons, this]⟩
  · simp (maxSteps := 1000000) (disch := first | omega | (simp only [lenW] <;> omega)) only [s14, hab, wordsN, Int.reduceGT, wordsR, ne_eq, words, Nat.reduceAdd, Nat.reduceEqDiff, Nat.reduceBEq, ↓reduceIte, reduceCtorEq, SX.exit.injEq, if_true, if_false, Int.reduceAdd, Int.reduceSub, Int.reduceMul, Int.reduceLT, Int.reduceLE, Int.reduceEq, Int.reduceNe, Int.reduceNeg, Int.reduceToNat, Nat.reduceMul, Nat.reduceLT, Nat.reduceSub, Nat.reduceLeDiff]
    have : a ≠ b := fun e => hab (by rw [e])
    exact ⟨.inr trivial, _, rfl, by simp [resOf, lk_cons, this]⟩
def indexR (l : List Int) (n : Int) : Int := if n ∈ l then (l.findIdx (· == n) : Int) else -1
theorem index70 (l : List Int) (n : Int) (hl : l.length ≤ 1099511627776) : PSpec Try.prog 70 [sli l, .int .i64 n] (.int .i64 (indexR l n)) := by
  refine PSpec.of_flat 64 ok70 rfl (by (try simp only [noRefs, noRefs_ints, noRefs_eg, noRefs_ed, noRefs_rm, noRefs_bls, noRef, Bool.and_self, Bool.and_true]) <;> rfl) rfl ?_
  simp (maxSteps := 1000000) (disch := first | omega | (simp only [lenW] <;> omega)) only [s70, wordsN, Int.reduceGT, wordsR, ne_eq, words, Nat.reduceAdd, Nat.reduceEqDiff, Nat.reduceBEq, ↓reduceIte, reduceCtorEq, SX.exit.injEq, if_true, if_false, Int.reduceAdd, Int.reduceSub, Int.reduceMul, Int.reduceLT, Int.reduceLE, Int.reduceEq, Int.reduceNe, Int.reduceNeg, Int.reduceToNat, Nat.reduceMul, Nat.reduceLT, Nat.reduceSub, Nat.reduceLeDiff]
  refine wS_loopR 100 (fun i : Nat => [(0, sli l), (1, .int .i64 n), (7, .int .i64 l.length), (8, .int .i64 i)]) (fun _ => []) (fun i => i ≤ l.length ∧ ∀ (j : Nat) y, j < i → l[j]? = some y → y ≠ n) (fun i => l.length - i) 0 ⟨[], rfl, au0, au1, au2⟩ ⟨Nat.zero_le _, fun j y hj => absurd hj (Nat.not_lt_zero _)⟩ ?_
  rintro i ⟨hi, hb⟩
  by_cases hlt : i < l.length
  · obtain ⟨x, hx⟩ := get_ex hlt
    by_cases h0 : n = x
    · simp (maxSteps := 1000000) (disch := first | omega | (simp only [lenW] <;> omega)) only [hlt, head_ints hx, h0, wordsN, Int.reduceGT, wordsR, ne_eq, words, Nat.reduceAdd, Nat.reduceEqDiff, Nat.reduceBEq, ↓reduceIte, reduceCtorEq, SX.exit.injEq, if_true, if_false, Int.reduceAdd, Int.reduceSub, Int.reduceMul, Int.reduceLT, Int.reduceLE, Int.reduceEq, Int.reduceNe, Int.reduceNeg, Int.reduceToNat, Nat.reduceMul, Nat.reduceLT, Nat.reduceSub, Nat.reduceLeDiff]
      refine ⟨.inr trivial, _, rfl, ?_⟩
      have h1 : n ∈ l := h0 ▸ List.mem_of_getElem? hx
      have h2 : l.findIdx (· == n) = i := by
        rw [List.findIdx_eq hlt]
        refine ⟨by rw [List.getElem?_eq_getElem hlt] at hx; cases hx; simp [h0], fun j hj => ?_⟩
        have := hb j l[j] hj (List.getElem?_eq_getElem (by omega))
        simpa using this
      subst h0
      simp only [indexR, if_pos h1, h2]; rfl
    · simp (maxSteps := 1000000) (disch := first | omega | (simp only [lenW] <;> omega)) only [hlt, head_ints hx, h0, wordsN, Int.reduceGT, wordsR, ne_eq, words, Nat.reduceAdd, Nat.reduceEqDiff, Nat.reduceBEq, ↓reduceIte, reduceCtorEq, SX.exit.injEq, if_true, if_false, Int.reduceAdd, Int.reduceSub, Int.reduceMul, Int.reduceLT, Int.reduceLE, Int.reduceEq, Int.reduceNe, Int.reduceNeg, Int.reduceToNat, Nat.reduceMul, Nat.reduceLT, Nat.reduceSub, Nat.reduceLeDiff]
      refine ⟨i + 1, by omega, ⟨by omega, fun j y hj hy => ?_⟩, ⟨[], rfl, au0, au1, au2⟩⟩
      by_cases e : j = i
      · subst e; rw [hx] at hy; cases hy; exact fun e => h0 e.symm
      · exact hb j y (by omega) hy
  · have : n ∉ l := fun h => by
      obtain ⟨j, hj, hjl⟩ := mem_at h
      exact hb j n (by omega) hj rfl
    simp (maxSteps := 1000000) (disch := first | omega | (simp only [lenW] <;> omega)) only [hlt, wordsN, Int.reduceGT, wordsR, ne_eq, words, Nat.reduceAdd, Nat.reduceEqDiff, Nat.reduceBEq, ↓reduceIte, reduceCtorEq, SX.exit.injEq, if_true, if_false, Int.reduceAdd, Int.reduceSub, Int.reduceMul, Int.reduceLT, Int.reduceLE, Int.reduceEq, Int.reduceNe, Int.reduceNeg, Int.reduceToNat, Nat.reduceMul, Nat.reduceLT, Nat.reduceSub, Nat.reduceLeDiff]
    exact ⟨.inr trivial, _, rfl, by simp only [indexR, if_neg this]; rfl⟩
theorem contains62 (l : List Int) (n : Int) (hl : l.length ≤ 1099511627776) : PSpec Try.prog 62 [sli l, .int .i64 n] (.bool (decide (n ∈ l))) := by
  refine PSpec.of_flat 64 ok62 rfl (by (try simp only [noRefs, noRefs_ints, noRefs_eg, noRefs_ed, noRefs_rm, noRefs_bls, noRef, Bool.and_self, Bool.and_true]) <;> rfl) rfl ?_
  simp (maxSteps := 1000000) (disch := first | omega | (simp only [lenW] <;> omega)) only [s62, wordsN, Int.reduceGT, wordsR, ne_eq, words, Nat.reduceAdd, Nat.reduceEqDiff, Nat.reduceBEq, ↓reduceIte, reduceCtorEq, SX.exit.injEq, if_true, if_false, Int.reduceAdd, Int.reduceSub, Int.reduceMul, Int.reduceLT, Int.reduceLE, Int.reduceEq, Int.reduceNe, Int.reduceNeg, Int.reduceToNat, Nat.reduceMul, Nat.reduceLT, Nat.reduceSub, Nat.reduceLeDiff]
  refine cp (index70 l n hl) ?_
  have e : decide (0 ≤ indexR l n) = decide (n ∈ l) := by
    unfold indexR
    by_cases h : n ∈ l
    · rw [if_pos h]; simp [h]
    · rw [if_neg h]; simp [h]
  by_cases h : n ∈ l
  · have e2 : 0 ≤ indexR l n := by rw [decide_eq_decide] at e; exact e.2 h
    simp (maxSteps := 1000000) (disch := first | omega | (simp only [lenW] <;> omega)) only [e2, wordsN, Int.reduceGT, wordsR, ne_eq, words, Nat.reduceAdd, Nat.reduceEqDiff, Nat.reduceBEq, ↓reduceIte, reduceCtorEq, SX.exit.injEq, if_true, if_false, Int.reduceAdd, Int.reduceSub, Int.reduceMul, Int.reduceLT, Int.reduceLE, Int.reduceEq, Int.reduceNe, Int.reduceNeg, Int.reduceToNat, Nat.reduceMul, Nat.reduceLT, Nat.reduceSub, Nat.reduceLeDiff]
    exact ⟨.inr trivial, _, rfl, by simp [resOf, lk_cons, h]⟩
  · have e2 : ¬ 0 ≤ indexR l n := by rw [decide_eq_decide] at e; exact fun h2 => h (e.1 h2)
    simp (maxSteps := 1000000) (disch := first | omega | (simp only [lenW] <;> omega)) only [e2, wordsN, Int.reduceGT, wordsR, ne_eq, words, Nat.reduceAdd, Nat.reduceEqDiff, Nat.reduceBEq, ↓reduceIte, reduceCtorEq, SX.exit.injEq, if_true, if_false, Int.reduceAdd, Int.reduceSub, Int.reduceMul, Int.reduceLT, Int.reduceLE, Int.reduceEq, Int.reduceNe, Int.reduceNeg, Int.reduceToNat, Nat.reduceMul, Nat.reduceLT, Nat.reduceSub, Nat.reduceLeDiff]
    exact ⟨.inr trivial, _, rfl, by simp [resOf, lk_cons, h]⟩
end Go.AM.SE
namespace Go.AM.SE
open Go.Proofs Go.AM.SD
set_option maxRecDepth 100000
set_option linter.unusedSimpArgs false
set_option linter.unusedVariables false
theorem aBin_shrN {k : IntKind} {a i : Nat} (hi : i ≤ k.bits) : aBin .shr (.int k (a : Int)) (.int .i64 (i : Int)) = some (.int k ((a / 2 ^ i : Nat) : Int)) := by
  have h1 : ¬ (i : Int) < 0 := by omega
  simp only [aBin, if_neg h1]
  have h2 : min (i : Int).toNat k.bits = i := by simp; omega
  rw [h2]
  have : (2 : Int) ^ i = ((2 ^ i : Nat) : Int) := by norm_cast
  rw [this, Int.fdiv_eq_ediv_of_nonneg _ (Int.natCast_nonneg _)]
  norm_cast
theorem and1 (n a : Nat) (hn : 0 < n) : (BitVec.ofInt n (a : Int) &&& BitVec.ofInt n 1).toNat = a % 2 := by
  rw [BitVec.toNat_and, BitVec.toNat_ofInt, BitVec.toNat_ofInt]
  have h1 : ((a : Int) % ((2 ^ n : Nat) : Int)).toNat = a % 2 ^ n := by norm_cast
  have h2 : ((1 : Int) % ((2 ^ n : Nat) : Int)).toNat = 1 := by
    have : 1 % 2 ^ n = 1 := Nat.mod_eq_of_lt (Nat.one_lt_two_pow (by omega))
    have h3 : ((1 : Int) % ((2 ^ n : Nat) : Int)) = ((1 % 2 ^ n : Nat) : Int) := by norm_cast
    rw [h3, this]; rfl
  rw [h1, h2, Nat.and_one_is_mod, Nat.mod_mod_of_dvd _ ⟨2 ^ (n - 1), by rw [← Nat.pow_succ']; congr 1; omega⟩]
theorem aBin_and8 {a : Nat} : aBin .and (.int .u8 (a : Int)) (.int .u8 1) = some (.int .u8 ((a % 2 : Nat) : Int)) := by
  simp only [aBin, if_true]
  rw [show IntKind.u8.bits = 8 from rfl, and1 8 a (by omega), wr_u8 (by omega) (by omega)]
theorem aBin_and32 {a : Nat} : aBin .and (.int .u32 (a : Int)) (.int .u32 1) = some (.int .u32 ((a % 2 : Nat) : Int)) := by
  simp only [aBin, if_true]
  rw [show IntKind.u32.bits = 32 from rfl, and1 32 a (by omega), wr_u32 (by omega) (by omega)]
theorem bit_iff {s i : Nat} : (((s / 2 ^ i % 2 : Nat) : Int) = 1) ↔ s.testBit i = true := by
  rw [Nat.testBit_eq_decide_div_mod_eq, decide_eq_true_eq]; omega
theorem part_take {n b i : Nat} : SD.part (i + 1) b = SD.part i b ++ if b.testBit i = true then [i] else [] := by
  unfold SD.part
  rw [List.range_succ, List.filter_append]
  congr 1
  by_cases h : b.testBit i = true <;> simp [h]
theorem part_len {i b : Nat} : (SD.part i b).length ≤ i := by
  unfold SD.part
  exact Nat.le_trans (List.length_filter_le _ _) (by simp)
theorem events16 (s : Nat) (hs : s < 256) : PSpec Try.prog 16 [.int .u8 s] (sliN (SD.part 5 s)) := by
  refine PSpec.of_rn 64 ok16 rfl (by (try simp only [noRefs, noRefs_ints, noRefs_eg, noRefs_ed, noRefs_rm, noRefs_bls, noRef, Bool.and_self, Bool.and_true]) <;> rfl) (noRef_sliN _) ?_
  simp (maxSteps := 1000000) (disch := first | omega | (simp only [lenW] <;> omega)) only [s16, wordsN, Int.reduceGT, wordsR, ne_eq, words, Nat.reduceAdd, Nat.reduceEqDiff, Nat.reduceBEq, ↓reduceIte, reduceCtorEq, SX.exit.injEq, if_true, if_false, Int.reduceAdd, Int.reduceSub, Int.reduceMul, Int.reduceLT, Int.reduceLE, Int.reduceEq, Int.reduceNe, Int.reduceNeg, Int.reduceToNat, Nat.reduceMul, Nat.reduceLT, Nat.reduceSub, Nat.reduceLeDiff]
  refine wS_loopR 100 (fun i : Nat => [(0, .int .u8 s), (3, .sl 50 0 0 (SD.part i s).length 1), (4, .int .i64 i)]) (fun i => [(50, .cells 0 (ints (nz (SD.part i s))))]) (fun i => i ≤ 5) (fun i => 5 - i) 0 ⟨[(50, .nil)], rfl, au0, au1, au2⟩ (Nat.zero_le _) ?_
  rintro i hi
  have hpl := @part_len i s
  by_cases hlt : i < 5
  · have hlt2 : (i : Int) < 5 := by omega
    by_cases h0 : s.testBit i = true
    · have hb := bit_iff.2 h0
      have hp := part_take (n := 5) (b := s) (i := i)
      rw [if_pos h0] at hp
      simp (maxSteps := 1000000) (disch := first | omega | (simp only [lenW] <;> omega)) only [hlt2, aBin_shrN (k := .u8) (show i ≤ 8 by omega), aBin_and8, hb, wordsN, Int.reduceGT, wordsR, ne_eq, words, Nat.reduceAdd, Nat.reduceEqDiff, Nat.reduceBEq, ↓reduceIte, reduceCtorEq, SX.exit.injEq, if_true, if_false, Int.reduceAdd, Int.reduceSub, Int.reduceMul, Int.reduceLT, Int.reduceLE, Int.reduceEq, Int.reduceNe, Int.reduceNeg, Int.reduceToNat, Nat.reduceMul, Nat.reduceLT, Nat.reduceSub, Nat.reduceLeDiff]
      refine ⟨i + 1, by omega, by omega, ?_⟩
      rw [hp, nz_append, ints_append, List.length_append]
      exact ⟨[(50, .blk 50 1)], rfl, au0, au1, au2⟩
    · have hb : ¬ ((s / 2 ^ i % 2 : Nat) : Int) = 1 := fun e => h0 (bit_iff.1 e)
      have hp := part_take (n := 5) (b := s) (i := i)
      rw [if_neg h0, List.append_nil] at hp
      simp (maxSteps := 1000000) (disch := first | omega | (simp only [lenW] <;> omega)) only [hlt2, aBin_shrN (k := .u8) (show i ≤ 8 by omega), aBin_and8, hb, wordsN, Int.reduceGT, wordsR, ne_eq, words, Nat.reduceAdd, Nat.reduceEqDiff, Nat.reduceBEq, ↓reduceIte, reduceCtorEq, SX.exit.injEq, if_true, if_false, Int.reduceAdd, Int.reduceSub, Int.reduceMul, Int.reduceLT, Int.reduceLE, Int.reduceEq, Int.reduceNe, Int.reduceNeg, Int.reduceToNat, Nat.reduceMul, Nat.reduceLT, Nat.reduceSub, Nat.reduceLeDiff]
      refine ⟨i + 1, by omega, by omega, ?_⟩
      rw [hp]
      exact ⟨[(50, .blk 50 0)], rfl, au0, au1, au2⟩
  · have hlt2 : ¬ (i : Int) < 5 := by omega
    have e : i = 5 := by omega
    subst e
    simp (maxSteps := 1000000) (disch := first | omega | (simp only [lenW] <;> omega)) only [hlt2, wordsN, Int.reduceGT, wordsR, ne_eq, words, Nat.reduceAdd, Nat.reduceEqDiff, Nat.reduceBEq, ↓reduceIte, reduceCtorEq, SX.exit.injEq, if_true, if_false, Int.reduceAdd, Int.reduceSub, Int.reduceMul, Int.reduceLT, Int.reduceLE, Int.reduceEq, Int.reduceNe, Int.reduceNeg, Int.reduceToNat, Nat.reduceMul, Nat.reduceLT, Nat.reduceSub, Nat.reduceLeDiff]
    refine ⟨.inr trivial, _, rfl, ?_⟩
    exact Rn.fz0 rfl (by simp [ints]) (RnL.same (noRefs_ints _))
theorem part12 (n b : Nat) (hn : n ≤ 32) (hb32 : b < 4294967296) : PSpec Try.prog 12 [.int .i64 n, .int .u32 b] (sliN (SD.part n b)) := by
  refine PSpec.of_rn 64 ok12 rfl (by (try simp only [noRefs, noRefs_ints, noRefs_eg, noRefs_ed, noRefs_rm, noRefs_bls, noRef, Bool.and_self, Bool.and_true]) <;> rfl) (noRef_sliN _) ?_
  simp (maxSteps := 1000000) (disch := first | omega | (simp only [lenW] <;> omega)) only [s12, wordsN, Int.reduceGT, wordsR, ne_eq, words, Nat.reduceAdd, Nat.reduceEqDiff, Nat.reduceBEq, ↓reduceIte, reduceCtorEq, SX.exit.injEq, if_true, if_false, Int.reduceAdd, Int.reduceSub, Int.reduceMul, Int.reduceLT, Int.reduceLE, Int.reduceEq, Int.reduceNe, Int.reduceNeg, Int.reduceToNat, Nat.reduceMul, Nat.reduceLT, Nat.reduceSub, Nat.reduceLeDiff]
  refine wS_loopR 100 (fun i : Nat => [(0, .int .i64 n), (1, .int .u32 b), (5, .sl 50 0 0 (SD.part i b).length 1), (6, .int .i64 i)]) (fun i => [(50, .cells 0 (ints (nz (SD.part i b))))]) (fun i => i ≤ n) (fun i => n - i) 0 ⟨[(50, .nil)], rfl, au0, au1, au2⟩ (Nat.zero_le _) ?_
  rintro i hi
  have hpl := @part_len i b
  by_cases hlt : i < n
  · have hlt2 : (i : Int) < 32 := by omega
    by_cases h0 : b.testBit i = true
    · have hb := bit_iff.2 h0
      have hp := part_take (n := n) (b := b) (i := i)
      rw [if_pos h0] at hp
      simp (maxSteps := 1000000) (disch := first | omega | (simp only [lenW] <;> omega)) only [hlt, hlt2, aBin_shrN (k := .u32) (show i ≤ 32 by omega), aBin_and32, hb, wordsN, Int.reduceGT, wordsR, ne_eq, words, Nat.reduceAdd, Nat.reduceEqDiff, Nat.reduceBEq, ↓reduceIte, reduceCtorEq, SX.exit.injEq, if_true, if_false, Int.reduceAdd, Int.reduceSub, Int.reduceMul, Int.reduceLT, Int.reduceLE, Int.reduceEq, Int.reduceNe, Int.reduceNeg, Int.reduceToNat, Nat.reduceMul, Nat.reduceLT, Nat.reduceSub, Nat.reduceLeDiff]
      refine ⟨i + 1, by omega, by omega, ?_⟩
      rw [hp, nz_append, ints_append, List.length_append]
      exact ⟨[(50, .blk 50 1)], rfl, au0, au1, au2⟩
    · have hb : ¬ ((b / 2 ^ i % 2 : Nat) : Int) = 1 := fun e => h0 (bit_iff.1 e)
      have hp := part_take (n := n) (b := b) (i := i)
      rw [if_neg h0, List.append_nil] at hp
      simp (maxSteps := 1000000) (disch := first | omega | (simp only [lenW] <;> omega)) only [hlt, hlt2, aBin_shrN (k := .u32) (show i ≤ 32 by omega), aBin_and32, hb, wordsN, Int.reduceGT, wordsR, ne_eq, words, Nat.reduceAdd, Nat.reduceEqDiff, Nat.reduceBEq, ↓reduceIte, reduceCtorEq, SX.exit.injEq, if_true, if_false, Int.reduceAdd, Int.reduceSub, Int.reduceMul, Int.reduceLT, Int.reduceLE, Int.reduceEq, Int.reduceNe, Int.reduceNeg, Int.reduceToNat, Nat.reduceMul, Nat.reduceLT, Nat.reduceSub, Nat.reduceLeDiff]
      refine ⟨i + 1, by omega, by omega, ?_⟩
      rw [hp]
      exact ⟨[(50, .blk 50 0)], rfl, au0, au1, au2⟩
  · have e : i = n := by omega
    subst e
    simp (maxSteps := 1000000) (disch := first | omega | (simp only [lenW] <;> omega)) only [hlt, wordsN, Int.reduceGT, wordsR, ne_eq, words, Nat.reduceAdd, Nat.reduceEqDiff, Nat.reduceBEq, ↓reduceIte, reduceCtorEq, SX.exit.injEq, if_true, if_false, Int.reduceAdd, Int.reduceSub, Int.reduceMul, Int.reduceLT, Int.reduceLE, Int.reduceEq, Int.reduceNe, Int.reduceNeg, Int.reduceToNat, Nat.reduceMul, Nat.reduceLT, Nat.reduceSub, Nat.reduceLeDiff]
    refine ⟨.inr trivial, _, rfl, ?_⟩
    exact Rn.fz0 rfl (by simp [ints]) (RnL.same (noRefs_ints _))
def SetOk (l : List Int) (n : Int) : Prop := (∀ x ∈ l, 0 ≤ x ∧ x < n) ∧ l.Pairwise (· < ·)
theorem SetOk.up {l : List Int} {n : Int} (h : SetOk l n) {i : Nat} {x y : Int} (hx : l[i]? = some x) (hy : l[i + 1]? = some y) : x < y := by
  obtain ⟨h1, e1⟩ := List.getElem?_eq_some_iff.1 hx
  obtain ⟨h2, e2⟩ := List.getElem?_eq_some_iff.1 hy
  have := List.pairwise_iff_getElem.1 h.2 i (i + 1) h1 h2 (by omega)
  rw [e1, e2] at this; exact this
theorem SetOk.nz {l : List Nat} {n : Nat} (h1 : ∀ x ∈ l, x < n) (h2 : l.Pairwise (· < ·)) : SetOk (nz l) n := by
  refine ⟨fun x hx => ?_, ?_⟩
  · obtain ⟨a, ha, rfl⟩ := List.mem_map.1 hx
    have := h1 a ha; omega
  · rw [List.pairwise_map]; exact h2.imp fun h => by omega
theorem set38 (l : List Int) (n : Int) (hl : l.length ≤ 1099511627776) (h : SetOk l n) : PSpec Try.prog 38 [sli l, .int .i64 n] (.int .i64 0) := by
  refine PSpec.of_flat 64 ok38 rfl (by (try simp only [noRefs, noRefs_ints, noRefs_eg, noRefs_ed, noRefs_rm, noRefs_bls, noRef, Bool.and_self, Bool.and_true]) <;> rfl) rfl ?_
  simp (maxSteps := 1000000) (disch := first | omega | (simp only [lenW] <;> omega)) only [s38, wordsN, Int.reduceGT, wordsR, ne_eq, words, Nat.reduceAdd, Nat.reduceEqDiff, Nat.reduceBEq, ↓reduceIte, reduceCtorEq, SX.exit.injEq, if_true, if_false, Int.reduceAdd, Int.reduceSub, Int.reduceMul, Int.reduceLT, Int.reduceLE, Int.reduceEq, Int.reduceNe, Int.reduceNeg, Int.reduceToNat, Nat.reduceMul, Nat.reduceLT, Nat.reduceSub, Nat.reduceLeDiff]
  refine wS_loopR 100 (fun i : Nat => [(0, sli l), (1, .int .i64 n), (7, sli l), (8, .int .i64 l.length), (9, .int .i64 i)]) (fun _ => []) (fun i => i ≤ l.length) (fun i => l.length - i) 0 ⟨[], rfl, au0, au1, au2⟩ (Nat.zero_le _) ?_
  rintro i hi
  by_cases hlt : i < l.length
  · obtain ⟨x, hx⟩ := get_ex hlt
    obtain ⟨h1, h2⟩ := h.1 x (List.mem_of_getElem? hx)
    have h1' : ¬ x < 0 := by omega
    have h2' : ¬ n ≤ x := by omega
    by_cases h0 : i = 0
    · have h4 : ¬ (0 : Int) < (i : Int) := by omega
      simp (maxSteps := 1000000) (disch := first | omega | (simp only [lenW] <;> omega)) only [hlt, head_ints hx, h1', h2', h4, wordsN, Int.reduceGT, wordsR, ne_eq, words, Nat.reduceAdd, Nat.reduceEqDiff, Nat.reduceBEq, ↓reduceIte, reduceCtorEq, SX.exit.injEq, if_true, if_false, Int.reduceAdd, Int.reduceSub, Int.reduceMul, Int.reduceLT, Int.reduceLE, Int.reduceEq, Int.reduceNe, Int.reduceNeg, Int.reduceToNat, Nat.reduceMul, Nat.reduceLT, Nat.reduceSub, Nat.reduceLeDiff]
      exact ⟨i + 1, by omega, by omega, ⟨[], rfl, au0, au1, au2⟩⟩
    · obtain ⟨y, hy⟩ := get_ex (l := l) (i := i - 1) (by omega)
      have h3 := h.up hy (by rw [show i - 1 + 1 = i by omega]; exact hx)
      have h3' : ¬ x ≤ y := by omega
      have h4 : (0 : Int) < (i : Int) := by omega
      have h5 : (i : Int) - 1 = ((i - 1 : Nat) : Int) := by omega
      have h6 : ((i - 1 : Nat) : Int) < l.length := by omega
      simp (maxSteps := 1000000) (disch := first | omega | (simp only [lenW] <;> omega)) only [hlt, head_ints hx, h1', h2', h4, h5, h6, head_ints hy, h3', wordsN, Int.reduceGT, wordsR, ne_eq, words, Nat.reduceAdd, Nat.reduceEqDiff, Nat.reduceBEq, ↓reduceIte, reduceCtorEq, SX.exit.injEq, if_true, if_false, Int.reduceAdd, Int.reduceSub, Int.reduceMul, Int.reduceLT, Int.reduceLE, Int.reduceEq, Int.reduceNe, Int.reduceNeg, Int.reduceToNat, Nat.reduceMul, Nat.reduceLT, Nat.reduceSub, Nat.reduceLeDiff]
      exact ⟨i + 1, by omega, by omega, ⟨[], rfl, au0, au1, au2⟩⟩
  · simp (maxSteps := 1000000) (disch := first | omega | (simp only [lenW] <;> omega)) only [hlt, wordsN, Int.reduceGT, wordsR, ne_eq, words, Nat.reduceAdd, Nat.reduceEqDiff, Nat.reduceBEq, ↓reduceIte, reduceCtorEq, SX.exit.injEq, if_true, if_false, Int.reduceAdd, Int.reduceSub, Int.reduceMul, Int.reduceLT, Int.reduceLE, Int.reduceEq, Int.reduceNe, Int.reduceNeg, Int.reduceToNat, Nat.reduceMul, Nat.reduceLT, Nat.reduceSub, Nat.reduceLeDiff]
    exact ⟨.inr trivial, _, rfl, rfl⟩
theorem set49 (l : List Int) (n : Int) (hl : l.length ≤ 1099511627776) (h : SetOk l n) : PSpec Try.prog 49 [sli l, .int .i64 n] (.int .i64 0) := by
  refine PSpec.of_flat 64 ok49 rfl (by (try simp only [noRefs, noRefs_ints, noRefs_eg, noRefs_ed, noRefs_rm, noRefs_bls, noRef, Bool.and_self, Bool.and_true]) <;> rfl) rfl ?_
  simp (maxSteps := 1000000) (disch := first | omega | (simp only [lenW] <;> omega)) only [s49, wordsN, Int.reduceGT, wordsR, ne_eq, words, Nat.reduceAdd, Nat.reduceEqDiff, Nat.reduceBEq, ↓reduceIte, reduceCtorEq, SX.exit.injEq, if_true, if_false, Int.reduceAdd, Int.reduceSub, Int.reduceMul, Int.reduceLT, Int.reduceLE, Int.reduceEq, Int.reduceNe, Int.reduceNeg, Int.reduceToNat, Nat.reduceMul, Nat.reduceLT, Nat.reduceSub, Nat.reduceLeDiff]
  refine wS_loopR 100 (fun i : Nat => [(0, sli l), (1, .int .i64 n), (7, sli l), (8, .int .i64 l.length), (9, .int .i64 i)]) (fun _ => []) (fun i => i ≤ l.length) (fun i => l.length - i) 0 ⟨[], rfl, au0, au1, au2⟩ (Nat.zero_le _) ?_
  rintro i hi
  by_cases hlt : i < l.length
  · obtain ⟨x, hx⟩ := get_ex hlt
    obtain ⟨h1, h2⟩ := h.1 x (List.mem_of_getElem? hx)
    have h1' : ¬ x < 0 := by omega
    have h2' : ¬ n ≤ x := by omega
    by_cases h0 : i = 0
    · have h4 : ¬ (0 : Int) < (i : Int) := by omega
      simp (maxSteps := 1000000) (disch := first | omega | (simp only [lenW] <;> omega)) only [hlt, head_ints hx, h1', h2', h4, wordsN, Int.reduceGT, wordsR, ne_eq, words, Nat.reduceAdd, Nat.reduceEqDiff, Nat.reduceBEq, ↓reduceIte, reduceCtorEq, SX.exit.injEq, if_true, if_false, Int.reduceAdd, Int.reduceSub, Int.reduceMul, Int.reduceLT, Int.reduceLE, Int.reduceEq, Int.reduceNe, Int.reduceNeg, Int.reduceToNat, Nat.reduceMul, Nat.reduceLT, Nat.reduceSub, Nat.reduceLeDiff]
      exact ⟨i + 1, by omega, by omega, ⟨[], rfl, au0, au1, au2⟩⟩
    · obtain ⟨y, hy⟩ := get_ex (l := l) (i := i - 1) (by omega)
      have h3 := h.up hy (by rw [show i - 1 + 1 = i by omega]; exact hx)
      have h3' : ¬ x ≤ y := by omega
      have h4 : (0 : Int) < (i : Int) := by omega
      have h5 : (i : Int) - 1 = ((i - 1 : Nat) : Int) := by omega
      have h6 : ((i - 1 : Nat) : Int) < l.length := by omega
      simp (maxSteps := 1000000) (disch := first | omega | (simp only [lenW] <;> omega)) only [hlt, head_ints hx, h1', h2', h4, h5, h6, head_ints hy, h3', wordsN, Int.reduceGT, wordsR, ne_eq, words, Nat.reduceAdd, Nat.reduceEqDiff, Nat.reduceBEq, ↓reduceIte, reduceCtorEq, SX.exit.injEq, if_true, if_false, Int.reduceAdd, Int.reduceSub, Int.reduceMul, Int.reduceLT, Int.reduceLE, Int.reduceEq, Int.reduceNe, Int.reduceNeg, Int.reduceToNat, Nat.reduceMul, Nat.reduceLT, Nat.reduceSub, Nat.reduceLeDiff]
      exact ⟨i + 1, by omega, by omega, ⟨[], rfl, au0, au1, au2⟩⟩
  · simp (maxSteps := 1000000) (disch := first | omega | (simp only [lenW] <;> omega)) only [hlt, wordsN, Int.reduceGT, wordsR, ne_eq, words, Nat.reduceAdd, Nat.reduceEqDiff, Nat.reduceBEq, ↓reduceIte, reduceCtorEq, SX.exit.injEq, if_true, if_false, Int.reduceAdd, Int.reduceSub, Int.reduceMul, Int.reduceLT, Int.reduceLE, Int.reduceEq, Int.reduceNe, Int.reduceNeg, Int.reduceToNat, Nat.reduceMul, Nat.reduceLT, Nat.reduceSub, Nat.reduceLeDiff]
    exact ⟨.inr trivial, _, rfl, rfl⟩
end Go.AM.SE
namespace Go.AM.SE
open Go.Proofs Go.AM.SD
set_option maxRecDepth 100000
set_option linter.unusedSimpArgs false
set_option linter.unusedVariables false
structure EgsOk (a : Au) : Prop where
  len : a.es.length ≤ 1099511627776
  all : a.al.length ≤ 1099511627776
  fr : ∀ e ∈ a.es, 0 ≤ e.fr ∧ e.fr < a.n
  to : ∀ e ∈ a.es, 0 ≤ e.to ∧ e.to < a.n
  ev : ∀ e ∈ a.es, e.ev ∈ a.al
  up : a.es.Pairwise fun x y => x.fr < y.fr ∨ (x.fr = y.fr ∧ x.ev < y.ev)
theorem EgsOk.step {a : Au} (h : EgsOk a) {i : Nat} {x y : Eg} (hx : a.es[i]? = some x) (hy : a.es[i + 1]? = some y) : x.fr < y.fr ∨ (x.fr = y.fr ∧ x.ev < y.ev) := by
  obtain ⟨h1, e1⟩ := List.getElem?_eq_some_iff.1 hx
  obtain ⟨h2, e2⟩ := List.getElem?_eq_some_iff.1 hy
  have := List.pairwise_iff_getElem.1 h.up i (i + 1) h1 h2 (by omega)
  rw [e1, e2] at this; exact this
set_option maxHeartbeats 8000000 in
theorem edges50 (a : Au) (h : EgsOk a) : PSpec Try.prog 50 [auV a] (.int .i64 0) := by
  refine PSpec.of_flat 64 ok50 rfl (by (try simp only [noRefs, noRefs_ints, noRefs_eg, noRefs_ed, noRefs_rm, noRefs_bls, noRef, Bool.and_self, Bool.and_true]) <;> rfl) rfl ?_
  have hl := h.len
  simp (maxSteps := 1000000) (disch := first | omega | (simp only [lenW] <;> omega)) only [s50, wordsN, Int.reduceGT, wordsR, ne_eq, words, Nat.reduceAdd, Nat.reduceEqDiff, Nat.reduceBEq, ↓reduceIte, reduceCtorEq, SX.exit.injEq, if_true, if_false, Int.reduceAdd, Int.reduceSub, Int.reduceMul, Int.reduceLT, Int.reduceLE, Int.reduceEq, Int.reduceNe, Int.reduceNeg, Int.reduceToNat, Nat.reduceMul, Nat.reduceLT, Nat.reduceSub, Nat.reduceLeDiff]
  refine wS_loopR 100 (fun i : Nat => [(1, .ptr 50 0 0), (7, egs a.es), (8, .int .i64 a.es.length), (9, .int .i64 i)]) (fun _ => [(50, .cells 0 [sli a.al, .int .i64 a.n, sli a.ms, egs a.es])]) (fun i => i ≤ a.es.length) (fun i => a.es.length - i) 0 ⟨[(50, .blk 64 0)], rfl, au0, au1, au2⟩ (Nat.zero_le _) ?_
  rintro i hi
  by_cases hlt : i < a.es.length
  · obtain ⟨x, hx⟩ := get_ex hlt
    have hm := List.mem_of_getElem? hx
    obtain ⟨f1, f2⟩ := h.fr x hm
    obtain ⟨t1, t2⟩ := h.to x hm
    have f1' : ¬ x.fr < 0 := by omega
    have f2' : ¬ a.n ≤ x.fr := by omega
    have t1' : ¬ x.to < 0 := by omega
    have t2' : ¬ a.n ≤ x.to := by omega
    have hev : decide (x.ev ∈ a.al) = true := decide_eq_true (h.ev x hm)
    simp (maxSteps := 1000000) (disch := first | omega | (simp only [lenW] <;> omega)) only [hlt, drop_egs hx, f1', f2', t1', t2', wordsN, Int.reduceGT, wordsR, ne_eq, words, Nat.reduceAdd, Nat.reduceEqDiff, Nat.reduceBEq, ↓reduceIte, reduceCtorEq, SX.exit.injEq, if_true, if_false, Int.reduceAdd, Int.reduceSub, Int.reduceMul, Int.reduceLT, Int.reduceLE, Int.reduceEq, Int.reduceNe, Int.reduceNeg, Int.reduceToNat, Nat.reduceMul, Nat.reduceLT, Nat.reduceSub, Nat.reduceLeDiff]
    refine cp (contains62 a.al x.ev h.all) ?_
    rw [hev]
    by_cases h0 : i = 0
    · have h4 : (i : Int) = 0 := by omega
      simp (maxSteps := 1000000) (disch := first | omega | (simp only [lenW] <;> omega)) only [hlt, drop_egs hx, h4, wordsN, Int.reduceGT, wordsR, ne_eq, words, Nat.reduceAdd, Nat.reduceEqDiff, Nat.reduceBEq, ↓reduceIte, reduceCtorEq, SX.exit.injEq, if_true, if_false, Int.reduceAdd, Int.reduceSub, Int.reduceMul, Int.reduceLT, Int.reduceLE, Int.reduceEq, Int.reduceNe, Int.reduceNeg, Int.reduceToNat, Nat.reduceMul, Nat.reduceLT, Nat.reduceSub, Nat.reduceLeDiff]
      exact ⟨1, by omega, by omega, ⟨[(50, .blk 50 0)], rfl, au0, au1, au2⟩⟩
    · obtain ⟨y, hy⟩ := get_ex (l := a.es) (i := i - 1) (by omega)
      have h4 : ¬ (i : Int) = 0 := by omega
      have h5 : (i : Int) - 1 = ((i - 1 : Nat) : Int) := by omega
      have h6 : ((i - 1 : Nat) : Int) < a.es.length := by omega
      rcases h.step hy (by rw [show i - 1 + 1 = i by omega]; exact hx) with h3 | ⟨h3, h3b⟩
      · have g1 : ¬ x.fr < y.fr := by omega
        have g2 : ¬ x.fr = y.fr := by omega
        simp (maxSteps := 1000000) (disch := first | omega | (simp only [lenW] <;> omega)) only [hlt, drop_egs hx, h4, h5, h6, drop_egs hy, g1, g2, wordsN, Int.reduceGT, wordsR, ne_eq, words, Nat.reduceAdd, Nat.reduceEqDiff, Nat.reduceBEq, ↓reduceIte, reduceCtorEq, SX.exit.injEq, if_true, if_false, Int.reduceAdd, Int.reduceSub, Int.reduceMul, Int.reduceLT, Int.reduceLE, Int.reduceEq, Int.reduceNe, Int.reduceNeg, Int.reduceToNat, Nat.reduceMul, Nat.reduceLT, Nat.reduceSub, Nat.reduceLeDiff]
        exact ⟨i + 1, by omega, by omega, ⟨[(50, .blk 50 0)], rfl, au0, au1, au2⟩⟩
      · have g1 : ¬ x.fr < y.fr := by omega
        have g2 : x.fr = y.fr := by omega
        have g3 : ¬ x.ev ≤ y.ev := by omega
        simp (maxSteps := 1000000) (disch := first | omega | (simp only [lenW] <;> omega)) only [hlt, drop_egs hx, h4, h5, h6, drop_egs hy, g1, g2, g3, wordsN, Int.reduceGT, wordsR, ne_eq, words, Nat.reduceAdd, Nat.reduceEqDiff, Nat.reduceBEq, ↓reduceIte, reduceCtorEq, SX.exit.injEq, if_true, if_false, Int.reduceAdd, Int.reduceSub, Int.reduceMul, Int.reduceLT, Int.reduceLE, Int.reduceEq, Int.reduceNe, Int.reduceNeg, Int.reduceToNat, Nat.reduceMul, Nat.reduceLT, Nat.reduceSub, Nat.reduceLeDiff]
        exact ⟨i + 1, by omega, by omega, ⟨[(50, .blk 50 0)], rfl, au0, au1, au2⟩⟩
  · simp (maxSteps := 1000000) (disch := first | omega | (simp only [lenW] <;> omega)) only [hlt, wordsN, Int.reduceGT, wordsR, ne_eq, words, Nat.reduceAdd, Nat.reduceEqDiff, Nat.reduceBEq, ↓reduceIte, reduceCtorEq, SX.exit.injEq, if_true, if_false, Int.reduceAdd, Int.reduceSub, Int.reduceMul, Int.reduceLT, Int.reduceLE, Int.reduceEq, Int.reduceNe, Int.reduceNeg, Int.reduceToNat, Nat.reduceMul, Nat.reduceLT, Nat.reduceSub, Nat.reduceLeDiff]
    exact ⟨.inr trivial, _, rfl, rfl⟩
structure AuOk (a : Au) : Prop extends EgsOk a where
  alS : SetOk a.al 32
  msS : SetOk a.ms a.n
  mslen : a.ms.length ≤ 1099511627776
  n0 : 0 ≤ a.n
  nm : a.n ≤ 4096
set_option maxHeartbeats 8000000 in
theorem check37 (a : Au) (h : AuOk a) : PSpec Try.prog 37 [auV a] (.int .i64 0) := by
  refine PSpec.of_flat 64 ok37 rfl (by (try simp only [noRefs, noRefs_ints, noRefs_eg, noRefs_ed, noRefs_rm, noRefs_bls, noRef, Bool.and_self, Bool.and_true]) <;> rfl) rfl ?_
  have h1 : ¬ a.n < 0 := by have := h.n0; omega
  have h2 : ¬ 4096 < a.n := by have := h.nm; omega
  simp (maxSteps := 1000000) (disch := first | omega | (simp only [lenW] <;> omega)) only [s37, wordsN, Int.reduceGT, wordsR, ne_eq, words, Nat.reduceAdd, Nat.reduceEqDiff, Nat.reduceBEq, ↓reduceIte, reduceCtorEq, SX.exit.injEq, if_true, if_false, Int.reduceAdd, Int.reduceSub, Int.reduceMul, Int.reduceLT, Int.reduceLE, Int.reduceEq, Int.reduceNe, Int.reduceNeg, Int.reduceToNat, Nat.reduceMul, Nat.reduceLT, Nat.reduceSub, Nat.reduceLeDiff]
  refine cp (set49 a.al 32 h.all h.alS) ?_
  simp (maxSteps := 1000000) (disch := first | omega | (simp only [lenW] <;> omega)) only [h1, h2, wordsN, Int.reduceGT, wordsR, ne_eq, words, Nat.reduceAdd, Nat.reduceEqDiff, Nat.reduceBEq, ↓reduceIte, reduceCtorEq, SX.exit.injEq, if_true, if_false, Int.reduceAdd, Int.reduceSub, Int.reduceMul, Int.reduceLT, Int.reduceLE, Int.reduceEq, Int.reduceNe, Int.reduceNeg, Int.reduceToNat, Nat.reduceMul, Nat.reduceLT, Nat.reduceSub, Nat.reduceLeDiff]
  refine cp (set49 a.ms a.n h.mslen h.msS) ?_
  simp (maxSteps := 1000000) (disch := first | omega | (simp only [lenW] <;> omega)) only [wordsN, Int.reduceGT, wordsR, ne_eq, words, Nat.reduceAdd, Nat.reduceEqDiff, Nat.reduceBEq, ↓reduceIte, reduceCtorEq, SX.exit.injEq, if_true, if_false, Int.reduceAdd, Int.reduceSub, Int.reduceMul, Int.reduceLT, Int.reduceLE, Int.reduceEq, Int.reduceNe, Int.reduceNeg, Int.reduceToNat, Nat.reduceMul, Nat.reduceLT, Nat.reduceSub, Nat.reduceLeDiff]
  refine cp (edges50 a h.toEgsOk) ?_
  simp (maxSteps := 1000000) (disch := first | omega | (simp only [lenW] <;> omega)) only [wordsN, Int.reduceGT, wordsR, ne_eq, words, Nat.reduceAdd, Nat.reduceEqDiff, Nat.reduceBEq, ↓reduceIte, reduceCtorEq, SX.exit.injEq, if_true, if_false, Int.reduceAdd, Int.reduceSub, Int.reduceMul, Int.reduceLT, Int.reduceLE, Int.reduceEq, Int.reduceNe, Int.reduceNeg, Int.reduceToNat, Nat.reduceMul, Nat.reduceLT, Nat.reduceSub, Nat.reduceLeDiff]
  exact ⟨.inr trivial, _, rfl, rfl⟩
set_option maxHeartbeats 8000000 in
theorem check22 (a : Au) (f u : List Int) (h : AuOk a) (hf : SetOk f a.n) (hu : SetOk u 32) (hfl : f.length ≤ 1099511627776) (hul : u.length ≤ 1099511627776) : PSpec Try.prog 22 [auV a, sli f, sli u] (.int .i64 0) := by
  refine PSpec.of_flat 64 ok22 rfl (by (try simp only [noRefs, noRefs_ints, noRefs_eg, noRefs_ed, noRefs_rm, noRefs_bls, noRef, Bool.and_self, Bool.and_true]) <;> rfl) rfl ?_
  simp (maxSteps := 1000000) (disch := first | omega | (simp only [lenW] <;> omega)) only [s22, wordsN, Int.reduceGT, wordsR, ne_eq, words, Nat.reduceAdd, Nat.reduceEqDiff, Nat.reduceBEq, ↓reduceIte, reduceCtorEq, SX.exit.injEq, if_true, if_false, Int.reduceAdd, Int.reduceSub, Int.reduceMul, Int.reduceLT, Int.reduceLE, Int.reduceEq, Int.reduceNe, Int.reduceNeg, Int.reduceToNat, Nat.reduceMul, Nat.reduceLT, Nat.reduceSub, Nat.reduceLeDiff]
  refine cp (check37 a h) ?_
  simp (maxSteps := 1000000) (disch := first | omega | (simp only [lenW] <;> omega)) only [wordsN, Int.reduceGT, wordsR, ne_eq, words, Nat.reduceAdd, Nat.reduceEqDiff, Nat.reduceBEq, ↓reduceIte, reduceCtorEq, SX.exit.injEq, if_true, if_false, Int.reduceAdd, Int.reduceSub, Int.reduceMul, Int.reduceLT, Int.reduceLE, Int.reduceEq, Int.reduceNe, Int.reduceNeg, Int.reduceToNat, Nat.reduceMul, Nat.reduceLT, Nat.reduceSub, Nat.reduceLeDiff]
  refine cp (set38 f a.n hfl hf) ?_
  simp (maxSteps := 1000000) (disch := first | omega | (simp only [lenW] <;> omega)) only [wordsN, Int.reduceGT, wordsR, ne_eq, words, Nat.reduceAdd, Nat.reduceEqDiff, Nat.reduceBEq, ↓reduceIte, reduceCtorEq, SX.exit.injEq, if_true, if_false, Int.reduceAdd, Int.reduceSub, Int.reduceMul, Int.reduceLT, Int.reduceLE, Int.reduceEq, Int.reduceNe, Int.reduceNeg, Int.reduceToNat, Nat.reduceMul, Nat.reduceLT, Nat.reduceSub, Nat.reduceLeDiff]
  refine cp (set38 u 32 hul hu) ?_
  simp (maxSteps := 1000000) (disch := first | omega | (simp only [lenW] <;> omega)) only [wordsN, Int.reduceGT, wordsR, ne_eq, words, Nat.reduceAdd, Nat.reduceEqDiff, Nat.reduceBEq, ↓reduceIte, reduceCtorEq, SX.exit.injEq, if_true, if_false, Int.reduceAdd, Int.reduceSub, Int.reduceMul, Int.reduceLT, Int.reduceLE, Int.reduceEq, Int.reduceNe, Int.reduceNeg, Int.reduceToNat, Nat.reduceMul, Nat.reduceLT, Nat.reduceSub, Nat.reduceLeDiff]
  exact ⟨.inr trivial, _, rfl, rfl⟩
end Go.AM.SE
set_option linter.unusedSimpArgs false
set_option linter.unusedVariables false
namespace Go.AM
variable {P : Program}
def rowsL (f : Nat → List AV) (ks : List Nat) : HL := ks.map fun k => (300 + k, .cells 0 (f k))
def psL (s : Nat → Src) (ks : List Nat) : List (Nat × Src) := ks.map fun k => (300 + k, s k)
theorem rowsL_get {f : Nat → List AV} : ∀ {ks : List Nat}, ks.Nodup → (∀ k ∈ ks, k < 1000000) → ∀ {k : Nat}, k ∈ ks → (hp (rowsL f ks)).get (300 + k) = some (.cells 0 (f k))
  | [], _, _, k, h => by cases h
  | j :: ks, hn, hl, k, h => by
    have hj := hl j (by simp)
    show ((hp (rowsL f ks)).set (300 + j) _).get (300 + k) = _
    by_cases e : k = j
    · subst e; rw [get_same (by omega)]
    · rw [get_ne (by omega) (by omega)]
      exact rowsL_get (List.nodup_cons.1 hn).2 (fun k hk => hl k (by simp [hk])) (by simpa [e] using h)
theorem rowsL_none {f : Nat → List AV} : ∀ {ks : List Nat}, (∀ k ∈ ks, k < 1000000) → ∀ {b : Nat}, (∀ k ∈ ks, b ≠ 300 + k) → (hp (rowsL f ks)).get b = none
  | [], _, b, _ => get_e
  | j :: ks, hl, b, h => by
    have hj := hl j (by simp)
    show ((hp (rowsL f ks)).set (300 + j) _).get b = _
    rw [get_ne (by omega) (h j (by simp))]
    exact rowsL_none (fun k hk => hl k (by simp [hk])) (fun k hk => h k (by simp [hk]))
theorem srcNew_rows {b g : Nat} {s : Nat → Src} : ∀ {ks : List Nat}, (∀ k ∈ ks, ∀ b' g', s k = .blk b' g' → b ≠ b') → srcNew (.blk b g) (psL s ks) = true
  | [], _ => rfl
  | j :: ks, h => by
    show ((match (Src.blk b g), s j with | .blk b _, .blk b' _ => !Nat.beq b b' | _, _ => true) && srcNew (.blk b g) (psL s ks)) = true
    rw [srcNew_rows fun k hk => h k (by simp [hk]), Bool.and_true]
    cases e : s j with
    | nil => rfl
    | blk b' g' =>
      have := h j (by simp) b' g' e
      have h2 : Nat.beq b b' = false := by rw [Bool.eq_false_iff]; simpa using this
      simp [h2]
theorem srcNew_nil {s : Nat → Src} : ∀ {ks : List Nat}, srcNew .nil (psL s ks) = true
  | [] => rfl
  | j :: ks => by
    show ((match Src.nil, s j with | .blk b _, .blk b' _ => !Nat.beq b b' | _, _ => true) && srcNew .nil (psL s ks)) = true
    rw [srcNew_nil]; rfl
theorem okPs_rows {s : Nat → Src} {f : Nat → List AV} : ∀ {ks : List Nat}, ks.Nodup → (∀ k ∈ ks, k < 1000000) → (∀ k ∈ ks, ∀ j ∈ ks, k ≠ j → ∀ b g b' g', s k = .blk b g → s j = .blk b' g' → b ≠ b') → okPs 0 (psL s ks) (rowsL f ks) = true
  | [], _, _, _ => rfl
  | j :: ks, hn, hl, hs => by
    have hj := hl j (by simp)
    obtain ⟨h1, h2⟩ := List.nodup_cons.1 hn
    show okPs 0 ((300 + j, s j) :: psL s ks) ((300 + j, .cells 0 (f j)) :: rowsL f ks) = true
    simp only [okPs, Bool.and_eq_true, Nat.beq_eq, Nat.blt_eq, Bool.or_eq_true, List.all_eq_true]
    refine ⟨⟨⟨⟨trivial, by omega⟩, .inr ⟨?_, ?_⟩⟩, ?_⟩, okPs_rows h2 (fun k hk => hl k (by simp [hk])) (fun k hk i hi => hs k (by simp [hk]) i (by simp [hi]))⟩
    · cases s j with
      | nil => rfl
      | blk b g => simp
    · cases e : s j with
      | nil => exact srcNew_nil
      | blk b g => exact srcNew_rows fun k hk b' g' e' => hs j (by simp) k (by simp [hk]) (fun e => h1 (e ▸ hk)) b g b' g' e e'
    · rintro ⟨b, x⟩ hp
      obtain ⟨k, hk, e⟩ := List.mem_map.1 hp
      cases e
      have : k ≠ j := fun e => h1 (e ▸ hk)
      have h2 : Nat.beq (300 + k) (300 + j) = false := by rw [Bool.eq_false_iff]; simpa using this
      simp [h2]
theorem lkS_rows {s : Nat → Src} : ∀ {ks : List Nat} {k : Nat}, k ∈ ks → lkS (psL s ks) (300 + k) = some (s k)
  | [], k, h => by cases h
  | j :: ks, k, h => by
    show (if 300 + k = 300 + j then some (s j) else lkS (psL s ks) (300 + k)) = _
    by_cases e : k = j
    · subst e; simp
    · rw [if_neg (by omega)]; exact lkS_rows (by simpa [e] using h)
theorem RB_rows {m : Nat} {π : Nat → Option Src} {h : Heap} {f : Nat → List AV} : ∀ {ks : List Nat}, (∀ k ∈ ks, RB m π h [(300 + k, .cells 0 (f k))]) → RB m π h (rowsL f ks)
  | [], _ => trivial
  | j :: ks, hk => ⟨(hk j (by simp)).1, RB_rows fun k h => hk k (by simp [h])⟩
mutual
theorem flatV_noRef : ∀ v : AV, flatV v = true → noRef v = true
  | .any, _ => rfl
  | .bool _, _ => rfl
  | .int _ _, _ => rfl
  | .str _, _ => rfl
  | .agg cs, h => by simp only [flatV] at h; simp only [noRef]; exact flatVs_noRefs cs h
  | .tup cs, h => by simp only [flatV] at h; simp only [noRef]; exact flatVs_noRefs cs h
  | .nilptr, _ => rfl
  | .ptr _ _ _, h => by simp [flatV] at h
  | .fptr _, h => by simp [flatV] at h
  | .nilsl, _ => rfl
  | .sl _ _ _ _ _, h => by simp [flatV] at h
  | .fsl _ _ _, h => by simp [flatV] at h
  | .esl, _ => rfl
  | .nsl, _ => rfl
  | .nilmap, _ => rfl
  | .map _ _, h => by simp [flatV] at h
  | .fmap _ _, h => by simp [flatV] at h
  | .nilfn, _ => rfl
  | .fn f x y, h => by
    simp only [flatV, Bool.and_eq_true] at h
    simp only [noRef, Bool.and_eq_true]
    exact ⟨flatVs_noRefs x h.1, flatVs_noRefs y h.2⟩
  | .nilif, _ => rfl
  | .ifc t v, h => by simp only [flatV] at h; simp only [noRef]; exact flatV_noRef v h
theorem flatVs_noRefs : ∀ l : List AV, flatVs l = true → noRefs l = true
  | [], _ => rfl
  | x :: l, h => by
    simp only [flatVs, Bool.and_eq_true] at h
    simp only [noRefs, Bool.and_eq_true]
    exact ⟨flatV_noRef x h.1, flatVs_noRefs l h.2⟩
end
theorem FSpec.of_new {f b len sz : Nat} {args cs : List AV} (hs : HSpec P f args .e (.sl b 0 0 len sz) (hp [(b, .cells 0 cs)])) (ha : noRefs args = true) (hf : flatVs cs = true) (hl : cs.length = len * sz) (hb : Nat.blt b 1099511627775 = true) :
    FSpec P f args (.fsl cs len sz) := by
  obtain ⟨hc, hs⟩ := hs
  refine ⟨hc, ha, by simp only [noRef]; exact flatVs_noRefs _ hf, fun F w cargs hF hargs => (hs (only F) w cargs (HRel.only hF) hargs).mono ?_⟩
  rintro e w' ⟨cv, c', rfl, E, H', V⟩
  have hnew : ∀ k, c'.O k → w.heap.size ≤ k := fun k hO => (E.own k hO).elim (fun h => h.elim) id
  refine ⟨cv, c'.O, rfl, ?_, fun k hO => ⟨hnew k hO, H'.inO k hO⟩, RnO.sl (h := hp [(b, .cells 0 cs)]) (by simp only [hp]; exact get_same (by simpa using hb)) hf hl c' w' cv H' V⟩
  refine ⟨E.os, E.tape, E.output, E.size, E.shape, fun k hk _ => E.keep k hk (fun h => h), fun b g p hb => absurd hb (Nat.not_lt_zero _), fun k hk => .inl hk, fun k hk => ?_, fun k hk => hk.elim⟩
  rcases hk with hk | hk
  · exact .inl hk
  · exact .inr (.inr (hnew k hk))
end Go.AM
namespace Go.AM
theorem srcNew_cons {b g c k g' : Nat} {ps : List (Nat × Src)} (hb : b ≠ k) (h : srcNew (.blk b g) ps = true) : srcNew (.blk b g) ((c, .blk k g') :: ps) = true := by
  have h2 : Nat.beq b k = false := by rw [Bool.eq_false_iff]; simpa using hb
  simp [srcNew, h, h2]
theorem okPs_cons {b k g : Nat} {x : Blk} {ps : List (Nat × Src)} {L : HL} (hb : b < 1099511627775) (hn : srcNew (.blk k g) ps = true) (hd : ∀ p ∈ ps, p.1 ≠ b) (h : okPs 0 ps L = true) : okPs 0 ((b, .blk k g) :: ps) ((b, x) :: L) = true := by
  simp only [okPs, Bool.and_eq_true, Nat.beq_eq, Nat.blt_eq, Bool.or_eq_true, List.all_eq_true]
  refine ⟨⟨⟨⟨trivial, by omega⟩, .inr ⟨by simp, hn⟩⟩, fun p hp => ?_⟩, h⟩
  have h2 : Nat.beq p.1 b = false := by rw [Bool.eq_false_iff]; simpa using hd p hp
  simp [h2]
theorem psL_names {s : Nat → Src} {ks : List Nat} {p : Nat × Src} (h : p ∈ psL s ks) : 300 ≤ p.1 := by
  obtain ⟨k, _, rfl⟩ := List.mem_map.1 h; simp
theorem okPs_three {s : Nat → Src} {f : Nat → List AV} {ks : List Nat} {x1 x2 x3 : Blk} {k1 k2 k3 g1 g2 g3 : Nat} (hn : ks.Nodup) (hl : ∀ k ∈ ks, k < 1000000) (hs : ∀ k ∈ ks, ∀ j ∈ ks, k ≠ j → ∀ b g b' g', s k = .blk b g → s j = .blk b' g' → b ≠ b')
    (hnew : ∀ k ∈ ks, ∀ b g, s k = .blk b g → k1 ≠ b ∧ k2 ≠ b ∧ k3 ≠ b) (h12 : k1 ≠ k2) (h13 : k1 ≠ k3) (h23 : k2 ≠ k3) :
    okPs 0 ((70, .blk k1 g1) :: (71, .blk k2 g2) :: (72, .blk k3 g3) :: psL s ks) ((70, x1) :: (71, x2) :: (72, x3) :: rowsL f ks) = true := by
  have n1 := srcNew_rows (b := k1) (g := g1) (s := s) (ks := ks) fun k hk b' g' e => (hnew k hk b' g' e).1
  have n2 := srcNew_rows (b := k2) (g := g2) (s := s) (ks := ks) fun k hk b' g' e => (hnew k hk b' g' e).2.1
  have n3 := srcNew_rows (b := k3) (g := g3) (s := s) (ks := ks) fun k hk b' g' e => (hnew k hk b' g' e).2.2
  refine okPs_cons (by omega) (srcNew_cons h12 (srcNew_cons h13 n1)) ?_ (okPs_cons (by omega) (srcNew_cons h23 n2) ?_ (okPs_cons (by omega) n3 ?_ (okPs_rows hn hl hs)))
  · intro p hp
    simp only [List.mem_cons] at hp
    rcases hp with rfl | rfl | hp
    · simp
    · simp
    · have := psL_names hp; omega
  · intro p hp
    simp only [List.mem_cons] at hp
    rcases hp with rfl | hp
    · simp
    · have := psL_names hp; omega
  · intro p hp
    have := psL_names hp; omega
theorem ow_rows {s : Nat → Src} {ks : List Nat} {k : Nat} {q1 q2 q3 : Src} (hk : k ∈ ks) : ow 0 ((70, q1) :: (71, q2) :: (72, q3) :: psL s ks) (300 + k) = some (s k) := by
  unfold ow
  rw [if_neg (Nat.not_lt_zero _)]
  simp only [lkS]
  rw [if_neg (by omega), if_neg (by omega), if_neg (by omega)]
  exact lkS_rows hk
end Go.AM
namespace Go.AM
variable {P : Program}
abbrev Claims := List (Nat × List Nat)
def clm : Claims → Nat → Option (List Nat)
  | [], _ => none
  | (j, bs) :: r, d => bif Nat.beq j d then some bs else clm r d
def absH (C : Claims) (d : Nat) (a : Option (List Nat)) : Option (List Nat) := match clm C d with | some bs => some bs | none => a
def touch2 (i : Nat) (ax : Opd → Option (List Nat)) : SOp → Option (List Nat)
  | .call .pure _ _ => some []
  | s => s.touch i ax
theorem touch2_sound {i : Nat} {T : Tmps} {ax : Opd → Option (List Nat)} {s : SOper} {h h1 : Heap} {v : AV} {f : FP} {ts : List Nat} (hax : ∀ x bs, ax x = some bs → Pts (ev T x) bs) (ht : touch2 i ax s.op = some ts) (hs : StepV P i s T h v h1 f) :
    f.all = false ∧ ∀ b, b ∈ f.R ∨ b ∈ f.W → b ∈ ts := by
  by_cases hc : ∃ x asx, s.op = .call .pure x asx
  · obtain ⟨x, asx, hop⟩ := hc
    have key : StepX P i s.op T h v h1 f → f.all = false ∧ ∀ b, b ∈ f.R ∨ b ∈ f.W → b ∈ ts := by
      rintro ⟨out, h2, hm, ho⟩
      rw [hop] at hm ho
      simp only [aop] at hm ho
      cases hx : ev T x with
      | fn f' first cap =>
        rw [hx] at hm ho
        simp only [aCall, HM.run, Option.some.injEq, Prod.mk.injEq] at hm
        obtain ⟨rfl, rfl⟩ := hm
        simp only [aCall, HM.fp] at ho
        obtain ⟨_, _, rfl⟩ := ho
        exact ⟨rfl, fun b hb => by simp [fpOf] at hb⟩
      | _ => rw [hx] at hm; simp [aCall, HM.run] at hm
    unfold StepV at hs
    split at hs
    · exact key hs
    · obtain ⟨t, _, hs⟩ := hs
      split at hs
      · exact key hs
      · obtain ⟨_, _, rfl⟩ := hs; exact ⟨rfl, fun b hb => by simp at hb⟩
  · refine touch_sound hax ?_ hs
    unfold touch2 at ht
    split at ht
    · rename_i x asx e; exact absurd ⟨x, asx, e⟩ hc
    · exact ht
def touchesH (C : Claims) (n : Nat) (T : Tmps) : List SOper → Abs → List (Option (List Nat))
  | [], _ => []
  | s :: r, A => touch2 n (absO T A) s.op :: touchesH C (n + 1) T r (match s.dst with | some d => (d, absH C d (s.op.absV n (absO T A))) :: A | none => A)
def ssa (C : Claims) : List SOper → Bool
  | [] => true
  | s :: r => (match s.dst with | some d => (clm C d).isNone || r.all fun s' => (match s'.dst with | some e => !Nat.beq e d | none => true) | none => true) && ssa C r
theorem wpR_end : ∀ {r : List SOper} {n : Nat} {T : Tmps} {h : Heap} {K : Tmps → Heap → Nat → Prop}, wpR P n r T h K → ∃ T' h' n', K T' h' n' ∧ ∀ d, (∀ s ∈ r, s.dst ≠ some d) → lk T' d = lk T d
  | [], n, T, h, K, hk => ⟨T, h, n, hk, fun _ _ => rfl⟩
  | s :: r, n, T, h, K, ⟨v, h1, f, hs, hr⟩ => by
    obtain ⟨T', h', n', hk, he⟩ := wpR_end hr
    refine ⟨T', h', n', hk, fun d hd => ?_⟩
    rw [he d fun s' hs' => hd s' (by simp [hs'])]
    have := hd s (by simp)
    rw [lk_putD, if_neg this]
theorem wpRF_ofH {T0 : Tmps} {C : Claims} : ∀ {r : List SOper} {n : Nat} {A : Abs} {T : Tmps} {h : Heap} {K : Tmps → Heap → Nat → Prop} (hA : AbsOK T0 A T) (K' : List FP → Tmps → Heap → Nat → Prop)
    (hC : ∀ T h n, K T h n → ∀ d bs, clm C d = some bs → Pts (lk T d) bs) (hssa : ssa C r = true),
    (∀ fs T h n', fs.length = r.length → (∀ (j : Nat) ts, (touchesH C n T0 r A).getD j none = some ts → (fs.getD j ⟨false, [], []⟩).all = false ∧ ∀ b, b ∈ (fs.getD j ⟨false, [], []⟩).R ∨ b ∈ (fs.getD j ⟨false, [], []⟩).W → b ∈ ts) → K T h n' → K' fs T h n') →
    wpR P n r T h K → wpRF P n r T h K'
  | [], n, A, T, h, K, hA, K', hC, hssa, hK, hw => hK [] T h n rfl (fun j ts hj => by simp [touchesH] at hj) hw
  | s :: r, n, A, T, h, K, hA, K', hC, hssa, hK, hw => by
    obtain ⟨v, h1, f, hs, hr⟩ := hw
    simp only [ssa, Bool.and_eq_true] at hssa
    obtain ⟨hs1, hs2⟩ := hssa
    refine ⟨v, h1, f, hs, ?_⟩
    have hA2 : AbsOK T0 (match s.dst with | some d => (d, absH C d (s.op.absV n (absO T0 A))) :: A | none => A) (putD T s.dst v) := by
      cases e : s.dst with
      | none => exact hA
      | some d =>
        refine AbsOK.up hA fun bs hb => ?_
        unfold absH at hb
        split at hb
        · rename_i bs' hc
          cases hb
          obtain ⟨T', h', n', hk, he⟩ := wpR_end hr
          have h3 := hC T' h' n' hk d _ hc
          rw [he d ?_, lk_putD, if_pos e] at h3
          · exact h3
          · intro s' hs'
            rw [e] at hs1
            simp only [hc, Option.isNone_some, Bool.false_or, List.all_eq_true] at hs1
            have := hs1 s' hs'
            intro e2
            rw [e2] at this
            simp at this
        · exact absV_sound hA.opd hb hs
    refine wpRF_ofH hA2 (fun fs T h n => K' (f :: fs) T h n) hC hs2 (fun fs T h n' hl hf hk => ?_) hr
    refine hK (f :: fs) T h n' (by simp [hl]) (fun j ts hj => ?_) hk
    cases j with
    | zero =>
      simp only [touchesH, List.getD_cons_zero] at hj ⊢
      exact touch2_sound hA.opd hj hs
    | succ j =>
      simp only [touchesH, List.getD_cons_succ] at hj ⊢
      exact hf j ts hj
def Clms (T : Tmps) : Claims → Prop
  | [] => True
  | (d, bs) :: r => Pts (lk T d) bs ∧ Clms T r
theorem Clms.get {T : Tmps} : ∀ {C : Claims}, Clms T C → ∀ d bs, clm C d = some bs → Pts (lk T d) bs
  | [], _, d, bs, h => by cases h
  | (j, cs) :: r, hh, d, bs, h => by
    simp only [clm] at h
    cases e : Nat.beq j d with
    | true =>
      rw [e] at h
      simp only [cond_true, Option.some.injEq] at h
      have : j = d := by simpa using e
      subst this; subst h; exact hh.1
    | false => rw [e] at h; exact Clms.get hh.2 d bs h
theorem wS_regionH (C : Claims) {N : NM} {ops : List SOper} {p : Nat × Nat} {ps : List (Nat × Nat)} {dead : List Nat} {fs : List Fr} {n : Nat} {T : Tmps} {h : Heap} {Q : QC} (hssa : ssa C ops = true) (hp : pairsOK (touchesH C n T ops []) (p :: ps) = true)
    (hw : wR P N ops [] [] n T h fun e T h n => Clms T C ∧ wX P N .normal fs n (rm T dead) h Q) : wS P N (.region ops (p :: ps) dead) fs n T h Q := by
  have rm0 : ∀ T : Tmps, rm T [] = T := by
    intro T
    induction T with
    | nil => rfl
    | cons p T ih => obtain ⟨j, v⟩ := p; simp [rm, ih]
  refine wpRF_ofH (C := C) (K := fun T h n => Clms T C ∧ wX P N .normal fs n (rm T dead) h Q) AbsOK.nil _ (fun T h n hk d bs hc => hk.1.get d bs hc) hssa (fun fs' T h n' hl hf hk => ⟨?_, hk.2⟩) ?_
  · rw [List.all_eq_true]
    intro q hq
    have := List.all_eq_true.1 hp q hq
    split at this
    · rename_i a b ha hb
      obtain ⟨f1, f2⟩ := hf _ _ ha
      obtain ⟨g1, g2⟩ := hf _ _ hb
      have hd : ∀ x y, x ∈ a → y ∈ b → x ≠ y := by
        rintro x y hx hy rfl
        have := List.all_eq_true.1 this x hx
        simp [hy] at this
      have dj : ∀ xs ys : List Nat, (∀ x ∈ xs, ∀ y ∈ ys, x ≠ y) → disj xs ys = true := by
        intro xs ys hh
        unfold disj
        rw [List.all_eq_true]
        intro x hx
        simp only [Bool.not_eq_true', List.contains_eq_mem, decide_eq_false_iff_not]
        intro hy
        exact hh x hx x hy rfl
      unfold FP.apart
      rw [f1, g1]
      simp only [Bool.and_eq_true]
      refine ⟨⟨dj _ _ fun x hx y hy => ?_, dj _ _ fun x hx y hy => ?_⟩, dj _ _ fun x hx y hy => ?_⟩
      · first | exact hd x y (f2 x (.inr hx)) (g2 y (.inl hy)) | exact fun e => hd y x (f2 y (.inl hy)) (g2 x (.inr hx)) e.symm
      · first | exact hd x y (f2 x (.inr hx)) (g2 y (.inr hy)) | exact fun e => hd y x (f2 y (.inr hy)) (g2 x (.inr hx)) e.symm
      · first | exact fun e => hd y x (f2 y (.inl hy)) (g2 x (.inr hx)) e.symm | exact fun e => hd y x (f2 y (.inr hy)) (g2 x (.inl hx)) e.symm | exact hd x y (f2 x (.inl hx)) (g2 y (.inr hy))
    · cases this
  · have hw' : wpR P n ops T h fun T h n => Clms (rm T []) C ∧ wX P N .normal fs n (rm (rm T []) dead) h Q := hw
    simp only [rm0] at hw'
    exact hw'
end Go.AM
namespace Go.AM
variable {P : Program} {N : NM} {n : Nat} {d : Option Nat} {af dead : List Nat} {r : List SOper} {T : Tmps} {h : Heap} {Q : QC} {fs : List Fr}
def wAn (P : Program) (N : NM) (ys : Option (List AV)) (len sz bytes : Nat) (d : Option Nat) (ops : List SOper) (dead : List Nat) (fs : List Fr) (n : Nat) (T : Tmps) (h : Heap) (Q : QC) : Prop :=
  ∃ y, ys = some y ∧ (len * bytes ≤ 1099511627776 ∧ len ≤ 1099511627776) ∧ y.all AV.one = true ∧ wN P N y (.sl n 0 0 len sz) d ops dead fs n T h Q
theorem aAppend_nilW {sz bytes b g off len : Nat} (hl : 0 < len) : wM P N (aAppend .dyn n sz bytes .nilsl (.sl b g off len sz)) d r dead fs n T h Q = wAn P N (srcB (h.get b) g off len sz) len sz bytes d r dead fs n T h Q := by
  obtain ⟨k, rfl⟩ : ∃ k, len = k + 1 := ⟨len - 1, by omega⟩
  rw [aAppend_nil]
  rfl
theorem wAn_some {ys : List AV} {len sz bytes : Nat} (h1 : len * bytes ≤ 1099511627776) (h2 : len ≤ 1099511627776) : wAn P N (some ys) len sz bytes d r dead fs n T h Q = if ys.all AV.one = true then wN P N ys (.sl n 0 0 len sz) d r dead fs n T h Q else False := by
  by_cases ho : ys.all AV.one = true
  · rw [if_pos ho]; apply propext; constructor
    · rintro ⟨y, e1, _, _, h5⟩; cases e1; exact h5
    · intro h5; exact ⟨ys, rfl, ⟨h1, h2⟩, ho, h5⟩
  · rw [if_neg ho]; apply propext; constructor
    · rintro ⟨y, e1, _, h4, h5⟩; cases e1; exact ho h4
    · exact fun h => h.elim
end Go.AM
namespace Go.AM
theorem pairs_nil {ts : List (Option (List Nat))} : pairsOK ts [] = true := rfl
theorem pairs_cons {ts : List (Option (List Nat))} {i j : Nat} {a b : List Nat} {ps : List (Nat × Nat)} (h1 : ts.getD i none = some a) (h2 : ts.getD j none = some b) (hd : ∀ x ∈ a, x ∉ b) (hr : pairsOK ts ps = true) : pairsOK ts ((i, j) :: ps) = true := by
  unfold pairsOK at hr ⊢
  rw [List.all_cons, hr, Bool.and_true]
  simp only [h1, h2]
  rw [List.all_eq_true]
  intro x hx
  have := hd x hx
  simpa using this
end Go.AM
namespace Go.AM
theorem Rn.nilK {m : Nat} {π : Nat → Option Src} {h : Heap} {sz : Nat} : Rn m π h (.fsl [] 0 sz) .nilsl := fun c w v H M hv => by
  simp only [VRel] at hv ⊢
  exact .inl ⟨⟨none, hv⟩, trivial, trivial⟩
end Go.AM
set_option linter.unusedSimpArgs false
set_option linter.unusedVariables false
namespace Go.AM
variable {P : Program}
section
variable {N : NM} {n : Nat} {T L : Tmps} {h : Heap} {Q : QC} {fs : List Fr} {b2 : Nat} {G : Prop}
theorem Rec.sub {m : Nat} {T1 T Lx : Tmps} {L : HL} {h : Heap} (hr : Rec m T1 L Lx h) (hS : Sub Lx T) : Rec m T1 L T h := by
  obtain ⟨ps, h1, h2, h3, h4⟩ := hr
  refine ⟨ps, h1, h2, h3, fun i => ?_⟩
  rcases hS i with e | e
  · intro c w v H M _
    exact h4 i c w v H M (by rw [e]; simp [VRel])
  · rw [← e]; exact h4 i
end
end Go.AM
set_option linter.unusedSimpArgs false
set_option linter.unusedVariables false
namespace Go.AM
variable {P : Program}
section
variable {N : NM} {n : Nat} {d : Option Nat} {af dead : List Nat} {r : List SOper} {T : Tmps} {h : Heap} {Q : QC} {fs : List Fr}
theorem aMakeMap_new (hl : n < 1099511627775) : wM P N (aMakeMap .dyn n) d r dead fs n T h Q = if h.get n = none then wR P N r dead fs (n + 1) (putD T d (.map n 0)) (h.set n (.map 0 [])) Q else False := by
  have hl' : Nat.blt n lim = true := by simp [Nat.blt]; unfold lim; omega
  apply propext; constructor
  · rintro ⟨v', h1, hm, hk⟩
    unfold aMakeMap HM.new at hm
    simp only [HM.run] at hm
    cases hn : h.get n with
    | none =>
      rw [hn] at hm
      obtain ⟨hl, hm⟩ := run_put hm
      simp only [HM.run, Option.some.injEq, Prod.mk.injEq] at hm
      obtain ⟨rfl, rfl⟩ := hm
      rw [if_pos rfl]; exact hk
    | some z => rw [hn] at hm; cases hm
  · split
    · rename_i hn
      intro hk
      refine ⟨_, _, ?_, hk⟩
      unfold aMakeMap HM.new
      simp only [HM.run, hn]
      rw [hl']; rfl
    · exact fun h => h.elim
def keyM (k : IntKind) (v : AV) (l : List Nat) : List (AV × AV) := l.map fun x : Nat => (.int k (x : Int), v)
theorem RnM.keyM {m : Nat} {π : Nat → Option Src} {h : Heap} {k : IntKind} {v : AV} (hv : noRef v = true) : ∀ {l : List Nat}, RnM m π h (keyM k v l) (keyM k v l)
  | [] => trivial
  | x :: l => ⟨⟨Rn.same rfl, Rn.same hv⟩, RnM.keyM hv (l := l)⟩
end
def wZ (P : Program) (N : NM) (o : Option (List AV)) (k len sz : Nat) (d : Option Nat) (ops : List SOper) (dead : List Nat) (fs : List Fr) (n : Nat) (T : Tmps) (h : Heap) (Q : QC) : Prop :=
  ∃ cs, o = some cs ∧ cs.length = k ∧ cs.all AV.one = true ∧ wR P N ops dead fs (n + 1) (putD T d (.fsl cs len sz)) h Q
theorem wZ_some {N : NM} {n : Nat} {d : Option Nat} {dead : List Nat} {r : List SOper} {T : Tmps} {h : Heap} {Q : QC} {fs : List Fr} {cs : List AV} {k len sz : Nat} :
    wZ P N (some cs) k len sz d r dead fs n T h Q = if cs.length = k then (if cs.all AV.one = true then wR P N r dead fs (n + 1) (putD T d (.fsl cs len sz)) h Q else False) else False := by
  by_cases h1 : cs.length = k <;> by_cases h2 : cs.all AV.one = true <;> simp only [wZ, h1, h2, if_true, if_false, Option.some.injEq, exists_eq_left', true_and, false_and] <;> simp [h1, h2]
theorem aBuildSlice_frz {N : NM} {n : Nat} {d : Option Nat} {dead : List Nat} {r : List SOper} {T : Tmps} {h : Heap} {Q : QC} {fs : List Fr} {s : Site} {sz len : Nat} {z : List AV} {ps : List (Nat × Nat × AV)} :
    wM P N (aBuildSlice true s n sz len z ps) d r dead fs n T h Q = wZ P N (fillA z ps) (len * sz) len sz d r dead fs n T h Q := by
  unfold aBuildSlice
  cases fillA z ps with
  | none => simp [wM_fail, wZ]
  | some cs =>
    simp only [wZ_some, if_true]
    split
    · split
      · exact wM_ret
      · exact wM_fail
    · exact wM_fail
theorem wordsM : AV.nilmap.boxable = true ∧ AV.nilmap.cells = [.nilmap] ∧ (∀ b g, (AV.map b g).cells = [.map b g]) ∧ (∀ b g, (AV.map b g).one = true) ∧ (∀ b g, (AV.map b g).boxable = true) ∧ AV.nilmap.one = true :=
  ⟨rfl, rfl, fun _ _ => rfl, fun _ _ => rfl, fun _ _ => rfl, rfl⟩
theorem HSpec.of_rec {f m : Nat} {sf : SFn} {args : List AV} {L0 L : HL} {v : AV} (n : Nat) (hok : okFn P f sf = true) (hl : Nat.ble args.length sf.n = true) (hm : (Nat.ble m 1099511627775 && L0.all fun p => Nat.blt p.1 m) = true)
    (hv : noRef v = true) (hw : wS P ⟨sf.n, m⟩ sf.body [] n (argT 0 args) (hp L0) fun e T k _ => (e = .normal ∨ e = .ret) ∧ ∃ vs, resV T k sf.res = some vs ∧ resOf vs = v ∧ Rec m [] L T k) : HSpec P f args (hp L0) v (hp L) := by
  simp only [Bool.and_eq_true, Nat.ble_eq] at hm
  refine HSpec.of_W2 hok (Nat.le_of_ble_eq_true hl) (fun b hb => ?_) ((wpC.toW hw).mono ?_)
  · have : ∀ M : HL, M.all (fun p => Nat.blt p.1 m) = true → (hp M).get b = none := by
      intro M
      induction M with
      | nil => intro _; exact get_e
      | cons q M ih =>
        obtain ⟨j, x⟩ := q
        intro hM
        simp only [List.all_cons, Bool.and_eq_true, Nat.blt, Nat.ble_eq] at hM
        rw [hp_cons, get_ne (by omega) (by omega)]; exact ih (by simpa [Nat.blt] using hM.2)
    exact this L0 hm.2
  · rintro e B ⟨n', h1, vs, h2, h3, ps, ho, hro, hb, ht⟩
    exact ⟨h1, vs, _, h2, Rec.maps ho hb, Rec.heap ho hb, Rec.dom ho hro, by rw [h3]; exact Rn.same hv⟩
end Go.AM
namespace Go.AM.SD
open Go.AM
theorem wD : type_of% @wordsN ∧ type_of% @wordsR ∧ type_of% @wS_regionP ∧ type_of% @aAppend_slF ∧ type_of% @aAppend_slN ∧ type_of% @aSlice_fslH ∧ type_of% @setL_cons ∧ type_of% @setL_nil ∧ type_of% @aMakeMap_new ∧ type_of% @wordsM ∧ type_of% @aNil_ptr ∧ type_of% @aNil_fptr ∧ type_of% @Int.one_mul ∧ type_of% @bls_len ∧ type_of% @ints_len ∧ type_of% @cells_bl ∧ type_of% @one_bl ∧ type_of% @box_bl ∧ type_of% @words := ⟨@wordsN, @wordsR, @wS_regionP, @aAppend_slF, @aAppend_slN, @aSlice_fslH, @setL_cons, @setL_nil, @aMakeMap_new, @wordsM, @aNil_ptr, @aNil_fptr, @Int.one_mul, @bls_len, @ints_len, @cells_bl, @one_bl, @box_bl, @words⟩
end Go.AM.SD
namespace Go.AM.SE
open Go.Proofs Go.AM.SD
set_option maxRecDepth 100000
set_option linter.unusedSimpArgs false
set_option linter.unusedVariables false
def keysR (es : List Ed) : List Nat := es.foldl (fun l e => if l.contains e.2.2 then l else l ++ [e.2.2]) []
theorem keysR_take {es : List Ed} {i : Nat} {e : Ed} (h : es[i]? = some e) : keysR (es.take (i + 1)) = if (keysR (es.take i)).contains e.2.2 then keysR (es.take i) else keysR (es.take i) ++ [e.2.2] := by
  unfold keysR
  rw [List.take_add_one, h, Option.toList, List.foldl_append]; rfl
theorem keysR_mem : ∀ {es : List Ed} {x : Nat}, x ∈ keysR es ↔ ∃ e ∈ es, e.2.2 = x := by
  have key : ∀ (es : List Ed) (l : List Nat) (x : Nat), x ∈ es.foldl (fun l e => if l.contains e.2.2 then l else l ++ [e.2.2]) l ↔ x ∈ l ∨ ∃ e ∈ es, e.2.2 = x := by
    intro es
    induction es with
    | nil => intro l x; simp
    | cons e es ih =>
      intro l x
      rw [List.foldl_cons, ih]
      by_cases h : l.contains e.2.2 = true
      · rw [if_pos h]
        have h' : e.2.2 ∈ l := by simpa using h
        constructor
        · rintro (h1 | ⟨e', h1, h2⟩)
          · exact .inl h1
          · exact .inr ⟨e', by simp [h1], h2⟩
        · rintro (h1 | ⟨e', h1, h2⟩)
          · exact .inl h1
          · rcases List.mem_cons.1 h1 with rfl | h1
            · exact .inl (h2 ▸ h')
            · exact .inr ⟨e', h1, h2⟩
      · rw [if_neg h]
        constructor
        · rintro (h1 | ⟨e', h1, h2⟩)
          · rcases List.mem_append.1 h1 with h1 | h1
            · exact .inl h1
            · exact .inr ⟨e, by simp, (by simpa using h1 : x = e.2.2).symm⟩
          · exact .inr ⟨e', by simp [h1], h2⟩
        · rintro (h1 | ⟨e', h1, h2⟩)
          · exact .inl (by simp [h1])
          · rcases List.mem_cons.1 h1 with rfl | h1
            · exact .inl (by simp [h2])
            · exact .inr ⟨e', h1, h2⟩
  intro es x
  have := key es [] x
  unfold keysR
  rw [this]; simp
theorem keysR_nodup (es : List Ed) : (keysR es).Nodup := by
  have key : ∀ (es : List Ed) (l : List Nat), l.Nodup → (es.foldl (fun l e => if l.contains e.2.2 then l else l ++ [e.2.2]) l).Nodup := by
    intro es
    induction es with
    | nil => intro l h; exact h
    | cons e es ih =>
      intro l h
      rw [List.foldl_cons]
      refine ih _ ?_
      split
      · exact h
      · rename_i h1
        rw [List.nodup_append]
        refine ⟨h, by simp, fun a ha b hb => ?_⟩
        rw [List.mem_singleton.1 hb]
        intro e2; subst e2; exact h1 (by simpa using ha)
  exact key es [] List.nodup_nil
theorem preds_take {es : List Ed} {i : Nat} {e : Ed} (h : es[i]? = some e) (v : Nat) : preds (es.take (i + 1)) v = preds (es.take i) v ++ if e.2.2 = v then [e.1] else [] := by
  unfold preds
  rw [List.take_add_one, h, Option.toList, List.filter_append, List.map_append]
  congr 1
  by_cases h1 : e.2.2 = v <;> simp [h1]
theorem preds_none {es : List Ed} {v : Nat} (h : v ∉ keysR es) : preds es v = [] := by
  unfold preds
  rw [List.map_eq_nil_iff, List.filter_eq_nil_iff]
  intro e he h1
  exact h (keysR_mem.2 ⟨e, he, by simpa using h1⟩)
theorem preds_len (es : List Ed) (v : Nat) : (preds es v).length ≤ es.length := by
  unfold preds
  rw [List.length_map]; exact List.length_filter_le _ _
abbrev pblk (a : Aut) (u : List Nat) : List AV := [sliN a.al, .int .i64 (a.n : Int), sliN a.ms, egsN a.es, sliN u, .map 71 0, .sl 72 0 0 a.n 1]
abbrev backF (es : List Ed) : Nat → AV := fun k => sliN (preds es k)
abbrev startL (a : Aut) (f u : List Nat) : HL := [(70, .cells 0 (pblk a u)), (71, .map 0 (mapF .i64 (backF a.es) (keysR a.es))), (72, .cells 0 (bls (left0 a.n f)))]
abbrev rowF (es : List Ed) : Nat → List AV := fun k => ints (nz (preds es k))
abbrev ptrF (es : List Ed) : Nat → AV := fun k => .sl (300 + k) 0 0 (preds es k).length 1
theorem left0_take {n i x : Nat} {f : List Nat} (h : f[i]? = some x) : left0 n (f.take (i + 1)) = (left0 n (f.take i)).set x false := by
  unfold left0 offs
  rw [List.take_add_one, h, Option.toList, List.foldl_append]; rfl
theorem left0_len {n : Nat} {f : List Nat} : (left0 n f).length = n := by unfold left0; rw [offs_len]; simp
theorem reps (n : Nat) : (List.replicate n [AV.bool false]).flatten = bls (List.replicate n false) := by
  induction n with
  | zero => rfl
  | succ n ih => rw [List.replicate_succ, List.flatten_cons, ih]; rfl
theorem half_set {n i : Nat} (h : i < n) : (List.replicate i true ++ List.replicate (n - i) false).set i true = List.replicate (i + 1) true ++ List.replicate (n - (i + 1)) false := by
  rw [List.set_append_right _ _ (by simp), List.length_replicate, Nat.sub_self, show n - i = (n - (i + 1)) + 1 by omega, List.replicate_succ, List.set_cons_zero, List.replicate_succ', List.append_assoc]; rfl
set_option maxHeartbeats 16000000 in
theorem start34 (a : Aut) (f u : List Nat) (hes : ∀ e ∈ a.es, e.1 < a.n ∧ e.2.2 < a.n) (hf : ∀ x ∈ f, x < a.n) (hn : a.n ≤ 4096) (hel : a.es.length ≤ 1000000) (hfl : f.length ≤ 1000000) :
    HSpec Try.prog 34 [aV a, sliN f, sliN u] .e (.ptr 70 0 0) (hp (startL a f u)) := by
  refine HSpec.of_new 74 ok34 rfl ?_
  have hn' : (a.n : Int) ≤ 1099511627776 := by omega
  simp (maxSteps := 1000000) (disch := first | omega | exact PairsOK.mk rfl | (simp only [lenW] <;> omega)) only [s34, hn', reps, Int.reduceGT, ne_eq, List.length_replicate, wD, Nat.reduceAdd, Nat.reduceEqDiff, Nat.reduceBEq, ↓reduceIte, reduceCtorEq, SX.exit.injEq, if_true, if_false, Int.reduceAdd, Int.reduceSub, Int.reduceMul, Int.reduceLT, Int.reduceLE, Int.reduceEq, Int.reduceNe, Int.reduceNeg, Int.reduceToNat, Nat.reduceMul, Nat.reduceLT, Nat.reduceSub, Nat.reduceLeDiff]
  refine wS_loopX 100 (fun i : Nat => [(1, sliN f), (3, .ptr 60 0 0), (7, .ptr 70 0 0), (25, .int .i64 a.n), (26, .int .i64 i)])
    (fun i => [(60, .cells 0 [sliN a.al, .int .i64 (a.n : Int), sliN a.ms, egsN a.es]), (70, .cells 0 (pblk a u)), (71, .map 0 []), (72, .cells 0 (bls (List.replicate i true ++ List.replicate (a.n - i) false)))])
    (fun i => i ≤ a.n) (fun i => a.n - i) 0 0 120
    (fun _ : Unit => [(1, sliN f), (3, .ptr 60 0 0), (7, .ptr 70 0 0)])
    (fun _ => [(60, .cells 0 [sliN a.al, .int .i64 (a.n : Int), sliN a.ms, egsN a.es]), (70, .cells 0 (pblk a u)), (71, .map 0 []), (72, .cells 0 (bls (left0 a.n (f.take 0))))]) (fun _ => True) ?_ (Nat.zero_le _) ?_ ?_
  · exact ⟨[(60, .blk 74 0), (70, .blk 83 0), (71, .blk 78 0), (72, .blk 81 0)], rfl, au0, au1, au2⟩
  · rintro i hi
    by_cases hlt : i < a.n
    · have h1 : i + 1 ≤ i + (a.n - i) := by omega
      simp (maxSteps := 1000000) (disch := first | omega | exact PairsOK.mk rfl | (simp only [lenW] <;> omega)) only [hlt, h1, bls_set, half_set hlt, Int.reduceGT, ne_eq, List.length_replicate, wD, Nat.reduceAdd, Nat.reduceEqDiff, Nat.reduceBEq, ↓reduceIte, reduceCtorEq, SX.exit.injEq, if_true, if_false, Int.reduceAdd, Int.reduceSub, Int.reduceMul, Int.reduceLT, Int.reduceLE, Int.reduceEq, Int.reduceNe, Int.reduceNeg, Int.reduceToNat, Nat.reduceMul, Nat.reduceLT, Nat.reduceSub, Nat.reduceLeDiff]
      exact ⟨i + 1, by omega, by omega, ⟨[(60, .blk 60 0), (70, .blk 70 0), (71, .blk 71 0), (72, .blk 72 0)], rfl, au0, au1, au2⟩⟩
    · have e : i = a.n := by omega
      subst e
      have e2 : List.replicate a.n true ++ List.replicate (a.n - a.n) false = left0 a.n (f.take 0) := by simp [left0, offs]
      simp (maxSteps := 1000000) (disch := first | omega | exact PairsOK.mk rfl | (simp only [lenW] <;> omega)) only [hlt, Int.reduceGT, ne_eq, List.length_replicate, wD, Nat.reduceAdd, Nat.reduceEqDiff, Nat.reduceBEq, ↓reduceIte, reduceCtorEq, SX.exit.injEq, if_true, if_false, Int.reduceAdd, Int.reduceSub, Int.reduceMul, Int.reduceLT, Int.reduceLE, Int.reduceEq, Int.reduceNe, Int.reduceNeg, Int.reduceToNat, Nat.reduceMul, Nat.reduceLT, Nat.reduceSub, Nat.reduceLeDiff]
      refine ⟨(), ?_⟩
      rw [e2]
      exact ⟨[(60, .blk 60 0), (70, .blk 70 0), (71, .blk 71 0), (72, .blk 72 0)], rfl, au0, au1, au2⟩
  rintro _ _
  simp (maxSteps := 1000000) (disch := first | omega | exact PairsOK.mk rfl | (simp only [lenW] <;> omega)) only [Int.reduceGT, ne_eq, List.length_replicate, wD, Nat.reduceAdd, Nat.reduceEqDiff, Nat.reduceBEq, ↓reduceIte, reduceCtorEq, SX.exit.injEq, if_true, if_false, Int.reduceAdd, Int.reduceSub, Int.reduceMul, Int.reduceLT, Int.reduceLE, Int.reduceEq, Int.reduceNe, Int.reduceNeg, Int.reduceToNat, Nat.reduceMul, Nat.reduceLT, Nat.reduceSub, Nat.reduceLeDiff]
  refine wS_loopX 140 (fun i : Nat => [(3, .ptr 60 0 0), (7, .ptr 70 0 0), (36, sliN f), (37, .int .i64 f.length), (38, .int .i64 i)])
    (fun i => [(60, .cells 0 [sliN a.al, .int .i64 (a.n : Int), sliN a.ms, egsN a.es]), (70, .cells 0 (pblk a u)), (71, .map 0 []), (72, .cells 0 (bls (left0 a.n (f.take i))))])
    (fun i => i ≤ f.length) (fun i => f.length - i) 0 2 160
    (fun _ : Unit => [(3, .ptr 60 0 0), (7, .ptr 70 0 0)])
    (fun _ => [(60, .cells 0 [sliN a.al, .int .i64 (a.n : Int), sliN a.ms, egsN a.es]), (70, .cells 0 (pblk a u)), (71, .map 0 []), (72, .cells 0 (bls (left0 a.n f)))]) (fun _ => True) ?_ (Nat.zero_le _) ?_ ?_
  · exact ⟨[(60, .blk 60 0), (70, .blk 70 0), (71, .blk 71 0), (72, .blk 72 0)], rfl, au0, au1, au2⟩
  · rintro i hi
    by_cases hlt : i < f.length
    · obtain ⟨x, hx⟩ := get_ex hlt
      have hxn := hf x (List.mem_of_getElem? hx)
      have hll : x + 1 ≤ (left0 a.n (f.take i)).length := by rw [left0_len]; exact hxn
      simp (maxSteps := 1000000) (disch := first | omega | exact PairsOK.mk rfl | (simp only [lenW] <;> omega)) only [hlt, head_nz hx, hxn, hll, bls_set, ← left0_take hx, Int.reduceGT, ne_eq, List.length_replicate, wD, Nat.reduceAdd, Nat.reduceEqDiff, Nat.reduceBEq, ↓reduceIte, reduceCtorEq, SX.exit.injEq, if_true, if_false, Int.reduceAdd, Int.reduceSub, Int.reduceMul, Int.reduceLT, Int.reduceLE, Int.reduceEq, Int.reduceNe, Int.reduceNeg, Int.reduceToNat, Nat.reduceMul, Nat.reduceLT, Nat.reduceSub, Nat.reduceLeDiff]
      exact ⟨i + 1, by omega, by omega, ⟨[(60, .blk 60 0), (70, .blk 70 0), (71, .blk 71 0), (72, .blk 72 0)], rfl, au0, au1, au2⟩⟩
    · have e : i = f.length := by omega
      subst e
      simp (maxSteps := 1000000) (disch := first | omega | exact PairsOK.mk rfl | (simp only [lenW] <;> omega)) only [hlt, Int.reduceGT, ne_eq, List.length_replicate, wD, Nat.reduceAdd, Nat.reduceEqDiff, Nat.reduceBEq, ↓reduceIte, reduceCtorEq, SX.exit.injEq, if_true, if_false, Int.reduceAdd, Int.reduceSub, Int.reduceMul, Int.reduceLT, Int.reduceLE, Int.reduceEq, Int.reduceNe, Int.reduceNeg, Int.reduceToNat, Nat.reduceMul, Nat.reduceLT, Nat.reduceSub, Nat.reduceLeDiff]
      refine ⟨(), ?_⟩
      exact ⟨[(60, .blk 60 0), (70, .blk 70 0), (71, .blk 71 0), (72, .blk 72 0)], rfl, au0, au1, au2⟩
  rintro _ _
  simp (maxSteps := 1000000) (disch := first | omega | exact PairsOK.mk rfl | (simp only [lenW] <;> omega)) only [Int.reduceGT, ne_eq, List.length_replicate, wD, Nat.reduceAdd, Nat.reduceEqDiff, Nat.reduceBEq, ↓reduceIte, reduceCtorEq, SX.exit.injEq, if_true, if_false, Int.reduceAdd, Int.reduceSub, Int.reduceMul, Int.reduceLT, Int.reduceLE, Int.reduceEq, Int.reduceNe, Int.reduceNeg, Int.reduceToNat, Nat.reduceMul, Nat.reduceLT, Nat.reduceSub, Nat.reduceLeDiff]
  have hrn : ∀ k ∈ List.range a.n, k < 1000000 := fun k hk => by have := List.mem_range.1 hk; omega
  refine wS_loopX 170 (fun i : Nat => [(7, .ptr 70 0 0), (50, egsN a.es), (51, .int .i64 a.es.length), (52, .int .i64 i)])
    (fun i => (70, .cells 0 (pblk a u)) :: (71, .map 0 (mapF .i64 (ptrF (a.es.take i)) (keysR (a.es.take i)))) :: (72, .cells 0 (bls (left0 a.n f))) :: rowsL (rowF (a.es.take i)) (List.range a.n))
    (fun i => i ≤ a.es.length) (fun i => a.es.length - i) 0 4 200
    (fun _ : Unit => [(7, .ptr 70 0 0)])
    (fun _ => startL a f u) (fun _ => True) ?_ (Nat.zero_le _) ?_ ?_
  · refine ⟨(70, .blk 70 0) :: (71, .blk 71 0) :: (72, .blk 72 0) :: psL (fun _ => .nil) (List.range a.n), okPs_three List.nodup_range hrn (fun _ _ _ _ _ b g b' g' h => by cases h) (fun _ _ b g h => by cases h) (by decide) (by decide) (by decide), RO.zero, ?_, au2⟩
    repeat' (first | exact RB.nil | (refine RnL.same ?_; first | rfl | (simp only [noRef, noRefs, noRefs_append, Bool.and_self, Bool.and_true, Bool.true_and, noRefs_ints, noRefs_eg, noRefs_ed, noRefs_rm, noRefs_bls, noRef_sli, noRef_sliN, noRef_egs, noRef_egsN]; done)) | exact RnM.keyM rfl | exact RnL.nil | exact (True.intro : RnM _ _ _ [] []) | refine RnL.cons ?_ ?_ | (refine Rn.same ?_; first | rfl | (simp only [noRef, noRefs, noRefs_append, Bool.and_self, Bool.and_true, Bool.true_and, noRefs_ints, noRefs_eg, noRefs_ed, noRefs_rm, noRefs_bls, noRef_sli, noRef_sliN, noRef_egs, noRef_egsN]; done)) | exact Rn.x1 rfl rfl | exact Rn.x2 rfl rfl | exact Rn.x3 rfl rfl | exact Rn.x4 rfl rfl | exact Rn.x5 rfl | exact Rn.x6 rfl | exact Rn.x7 rfl | refine RB.newnil rfl rfl ?_ | refine RB.cells rfl rfl rfl ?_ ?_ | refine RB.map rfl rfl rfl ?_ ?_ | refine RB.cellsB rfl rfl ?_ ?_ | refine RB.mapB rfl rfl ?_ ?_)
    refine RB_rows fun k hk => ?_
    exact RB.newnil rfl (ow_rows hk) RB.nil
  · rintro i hi
    by_cases hlt : i < a.es.length
    · obtain ⟨e, he⟩ := get_ex hlt
      obtain ⟨hfr, hto⟩ := hes e (List.mem_of_getElem? he)
      have hkt := keysR_take he
      have hnd := keysR_nodup (a.es.take i)
      have hpl : (preds (a.es.take i) e.2.2).length ≤ 1000000 := by have := preds_len (a.es.take i) e.2.2; rw [List.length_take] at this; omega
      have hrow := rowsL_get (f := rowF (a.es.take i)) List.nodup_range hrn (List.mem_range.2 hto)
      have hr0 : ∀ b, b < 300 → (hp (rowsL (rowF (a.es.take i)) (List.range a.n))).get b = none := fun b hb => rowsL_none hrn fun k hk => by omega
      simp (maxSteps := 1000000) (disch := first | omega | exact PairsOK.mk rfl | (simp only [lenW] <;> omega)) only [hlt, drop_eds he, hr0, Int.reduceGT, ne_eq, List.length_replicate, wD, Nat.reduceAdd, Nat.reduceEqDiff, Nat.reduceBEq, ↓reduceIte, reduceCtorEq, SX.exit.injEq, if_true, if_false, Int.reduceAdd, Int.reduceSub, Int.reduceMul, Int.reduceLT, Int.reduceLE, Int.reduceEq, Int.reduceNe, Int.reduceNeg, Int.reduceToNat, Nat.reduceMul, Nat.reduceLT, Nat.reduceSub, Nat.reduceLeDiff]
      refine wS_regionH [(57, [70]), (59, [71]), (63, [70]), (65, [71]), (68, [300 + e.2.2])] rfl ?_ ?_
      · exact pairs_cons (a := [71]) (b := [190]) rfl rfl (fun x hx => by simp only [List.mem_cons, List.not_mem_nil, or_false] at hx ⊢; omega) (pairs_cons (a := [70]) (b := [191, 300 + e.2.2, 190]) rfl rfl (fun x hx => by simp only [List.mem_cons, List.not_mem_nil, or_false] at hx ⊢; omega) (pairs_cons (a := [173]) (b := [191, 300 + e.2.2, 190]) rfl rfl (fun x hx => by simp only [List.mem_cons, List.not_mem_nil, or_false] at hx ⊢; omega) pairs_nil))
      simp (maxSteps := 1000000) (disch := first | omega | exact PairsOK.mk rfl | (simp only [lenW] <;> omega)) only [hr0, Int.reduceGT, ne_eq, List.length_replicate, wD, Nat.reduceAdd, Nat.reduceEqDiff, Nat.reduceBEq, ↓reduceIte, reduceCtorEq, SX.exit.injEq, if_true, if_false, Int.reduceAdd, Int.reduceSub, Int.reduceMul, Int.reduceLT, Int.reduceLE, Int.reduceEq, Int.reduceNe, Int.reduceNeg, Int.reduceToNat, Nat.reduceMul, Nat.reduceLT, Nat.reduceSub, Nat.reduceLeDiff]
      refine aLookup_new ?_
      simp (maxSteps := 1000000) (disch := first | omega | exact PairsOK.mk rfl | (simp only [lenW] <;> omega)) only [hr0, Int.reduceGT, ne_eq, List.length_replicate, wD, Nat.reduceAdd, Nat.reduceEqDiff, Nat.reduceBEq, ↓reduceIte, reduceCtorEq, SX.exit.injEq, if_true, if_false, Int.reduceAdd, Int.reduceSub, Int.reduceMul, Int.reduceLT, Int.reduceLE, Int.reduceEq, Int.reduceNe, Int.reduceNeg, Int.reduceToNat, Nat.reduceMul, Nat.reduceLT, Nat.reduceSub, Nat.reduceLeDiff]
      by_cases hk : e.2.2 ∈ keysR (a.es.take i)
      · refine wK_in hk ?_
        simp (maxSteps := 1000000) (disch := first | omega | exact PairsOK.mk rfl | (simp only [lenW] <;> omega)) only [hrow, hr0, Int.reduceGT, ne_eq, List.length_replicate, wD, Nat.reduceAdd, Nat.reduceEqDiff, Nat.reduceBEq, ↓reduceIte, reduceCtorEq, SX.exit.injEq, if_true, if_false, Int.reduceAdd, Int.reduceSub, Int.reduceMul, Int.reduceLT, Int.reduceLE, Int.reduceEq, Int.reduceNe, Int.reduceNeg, Int.reduceToNat, Nat.reduceMul, Nat.reduceLT, Nat.reduceSub, Nat.reduceLeDiff]
        refine aMapUpd_F ?_
        simp (maxSteps := 1000000) (disch := first | omega | exact PairsOK.mk rfl | (simp only [lenW] <;> omega)) only [hrow, hr0, Int.reduceGT, ne_eq, List.length_replicate, wD, Nat.reduceAdd, Nat.reduceEqDiff, Nat.reduceBEq, ↓reduceIte, reduceCtorEq, SX.exit.injEq, if_true, if_false, Int.reduceAdd, Int.reduceSub, Int.reduceMul, Int.reduceLT, Int.reduceLE, Int.reduceEq, Int.reduceNe, Int.reduceNeg, Int.reduceToNat, Nat.reduceMul, Nat.reduceLT, Nat.reduceSub, Nat.reduceLeDiff]
        refine wUF_in hnd hk (by decide) ?_
        simp (maxSteps := 1000000) (disch := first | omega | exact PairsOK.mk rfl | (simp only [lenW] <;> omega)) only [hrow, hr0, Int.reduceGT, ne_eq, List.length_replicate, wD, Nat.reduceAdd, Nat.reduceEqDiff, Nat.reduceBEq, ↓reduceIte, reduceCtorEq, SX.exit.injEq, if_true, if_false, Int.reduceAdd, Int.reduceSub, Int.reduceMul, Int.reduceLT, Int.reduceLE, Int.reduceEq, Int.reduceNe, Int.reduceNeg, Int.reduceToNat, Nat.reduceMul, Nat.reduceLT, Nat.reduceSub, Nat.reduceLeDiff]
        refine ⟨⟨⟨_, rfl, fun b hb => hb⟩, ⟨_, rfl, fun b hb => hb⟩, ⟨_, rfl, fun b hb => hb⟩, ⟨_, rfl, fun b hb => hb⟩, ⟨_, rfl, fun b hb => hb⟩, trivial⟩, i + 1, by omega, by omega, ?_⟩
        rw [if_pos (by simpa using hk)] at hkt
        have hnk : ∀ x ∈ keysR (a.es.take (i + 1)), x < a.n := fun x hx => by
          obtain ⟨e', he', rfl⟩ := keysR_mem.1 hx
          exact (hes e' (List.mem_of_mem_take he')).2
        generalize hps : psL (fun k => if k ∈ keysR (a.es.take (i + 1)) then (if k = e.2.2 then .blk (300 + e.2.2) 1 else .blk (300 + k) 0 : Src) else .nil) (List.range a.n) = PS
        have hroom : ∀ k : Nat, k < a.n → k ≠ e.2.2 → (hp (rowsL (rowF (a.es.take i)) (List.range a.n))).get (300 + k) = some (.cells 0 (rowF (a.es.take i) k)) := fun k hk _ => rowsL_get List.nodup_range hrn (List.mem_range.2 hk)
        refine ⟨(70, .blk 70 0) :: (71, .blk 71 0) :: (72, .blk 72 0) :: PS, ?_, RO.zero, ?_, ?_⟩
        · subst hps
          refine okPs_three List.nodup_range hrn (fun k hk j hj hkj b g b' g' h1 h2 => ?_) (fun k hk b g h1 => ?_) (by decide) (by decide) (by decide)
          · split at h1
            · split at h2
              · split at h1 <;> split at h2 <;> cases h1 <;> cases h2 <;> omega
              · cases h2
            · cases h1
          · split at h1
            · split at h1 <;> cases h1 <;> omega
            · cases h1
        · subst hps
          refine RB.cells rfl rfl (by simp (disch := omega) only [get_same, get_ne, hp_cons]; rfl) ?_ (RB.map rfl rfl (by simp (disch := omega) only [get_same, get_ne, hp_cons]; rfl) ?_ (RB.cells rfl rfl (by simp (disch := omega) only [get_same, get_ne, hp_cons]) (RnL.same (noRefs_bls _)) ?_))
          · repeat' (first | exact RB.nil | (refine RnL.same ?_; first | rfl | (simp only [noRef, noRefs, noRefs_append, Bool.and_self, Bool.and_true, Bool.true_and, noRefs_ints, noRefs_eg, noRefs_ed, noRefs_rm, noRefs_bls, noRef_sli, noRef_sliN, noRef_egs, noRef_egsN]; done)) | exact RnM.keyM rfl | exact RnL.nil | exact (True.intro : RnM _ _ _ [] []) | refine RnL.cons ?_ ?_ | (refine Rn.same ?_; first | rfl | (simp only [noRef, noRefs, noRefs_append, Bool.and_self, Bool.and_true, Bool.true_and, noRefs_ints, noRefs_eg, noRefs_ed, noRefs_rm, noRefs_bls, noRef_sli, noRef_sliN, noRef_egs, noRef_egsN]; done)) | exact Rn.x1 rfl rfl | exact Rn.x2 rfl rfl | exact Rn.x3 rfl rfl | exact Rn.x4 rfl rfl | exact Rn.x5 rfl | exact Rn.x6 rfl | exact Rn.x7 rfl | refine RB.newnil rfl rfl ?_ | refine RB.cells rfl rfl rfl ?_ ?_ | refine RB.map rfl rfl rfl ?_ ?_ | refine RB.cellsB rfl rfl ?_ ?_ | refine RB.mapB rfl rfl ?_ ?_)
          · rw [hkt]
            refine RnM.mapF fun x hx => ?_
            have hxk : x ∈ keysR (a.es.take (i + 1)) := by rw [hkt]; exact hx
            have hxn := hnk x hxk
            unfold updF ptrF
            split
            · rename_i hx2; subst hx2
              (rw [preds_take he, if_pos rfl, List.length_append]; exact Rn.x1 rfl (by rw [ow_rows (List.mem_range.2 hxn)]; simp [hx]))
            · rename_i hx2
              rw [preds_take he, if_neg (fun e2 => hx2 e2.symm), List.append_nil]
              exact Rn.x1 rfl (by rw [ow_rows (List.mem_range.2 hxn)]; simp [hx, hx2])
          · refine RB_rows fun k hk => ?_
            have hkn := List.mem_range.1 hk
            by_cases hkk : k ∈ keysR (a.es.take (i + 1))
            · by_cases hx2 : k = e.2.2
              · subst hx2
                refine RB.cells rfl (b := 300 + e.2.2) (g := 1) (ds := rowF (a.es.take i) e.2.2 ++ [.int .i64 (e.1 : Int)]) (by rw [ow_rows hk]; simp [hkk]) (by simp (disch := omega) only [get_same, get_ne, hp_cons]) (RnL.eq ?_ (noRefs_ints _)) RB.nil
                unfold SE.rowF
                rw [preds_take he, if_pos rfl, nz_append, ints_append]
                rfl
              · refine RB.cells rfl (b := 300 + k) (g := 0) (ds := SE.rowF (a.es.take i) k) (by rw [ow_rows hk]; simp [hkk, hx2]) (by simp (disch := omega) only [get_same, get_ne, hp_cons, hroom k hkn hx2]) (RnL.eq ?_ (noRefs_ints _)) RB.nil
                unfold SE.rowF
                rw [preds_take he, if_neg (fun e2 => hx2 e2.symm), List.append_nil]
            · have hp := preds_none hkk
              have : SE.rowF (a.es.take (i + 1)) k = [] := by unfold SE.rowF; rw [hp]; rfl
              rw [this]
              exact RB.newnil rfl (by rw [ow_rows hk]; simp [hkk]) RB.nil
        · exact au2
      · refine wK_out hk ?_
        simp (maxSteps := 1000000) (disch := first | omega | exact PairsOK.mk rfl | (simp only [lenW] <;> omega)) only [hrow, hr0, aAppend_nilW, wAn_some, Int.reduceGT, ne_eq, List.length_replicate, wD, Nat.reduceAdd, Nat.reduceEqDiff, Nat.reduceBEq, ↓reduceIte, reduceCtorEq, SX.exit.injEq, if_true, if_false, Int.reduceAdd, Int.reduceSub, Int.reduceMul, Int.reduceLT, Int.reduceLE, Int.reduceEq, Int.reduceNe, Int.reduceNeg, Int.reduceToNat, Nat.reduceMul, Nat.reduceLT, Nat.reduceSub, Nat.reduceLeDiff]
        refine aMapUpd_F ?_
        simp (maxSteps := 1000000) (disch := first | omega | exact PairsOK.mk rfl | (simp only [lenW] <;> omega)) only [hrow, hr0, Int.reduceGT, ne_eq, List.length_replicate, wD, Nat.reduceAdd, Nat.reduceEqDiff, Nat.reduceBEq, ↓reduceIte, reduceCtorEq, SX.exit.injEq, if_true, if_false, Int.reduceAdd, Int.reduceSub, Int.reduceMul, Int.reduceLT, Int.reduceLE, Int.reduceEq, Int.reduceNe, Int.reduceNeg, Int.reduceToNat, Nat.reduceMul, Nat.reduceLT, Nat.reduceSub, Nat.reduceLeDiff]
        refine wUF_out hk (by decide) ?_
        simp (maxSteps := 1000000) (disch := first | omega | exact PairsOK.mk rfl | (simp only [lenW] <;> omega)) only [hrow, hr0, Int.reduceGT, ne_eq, List.length_replicate, wD, Nat.reduceAdd, Nat.reduceEqDiff, Nat.reduceBEq, ↓reduceIte, reduceCtorEq, SX.exit.injEq, if_true, if_false, Int.reduceAdd, Int.reduceSub, Int.reduceMul, Int.reduceLT, Int.reduceLE, Int.reduceEq, Int.reduceNe, Int.reduceNeg, Int.reduceToNat, Nat.reduceMul, Nat.reduceLT, Nat.reduceSub, Nat.reduceLeDiff]
        refine ⟨⟨⟨_, rfl, fun b hb => hb⟩, ⟨_, rfl, fun b hb => hb⟩, ⟨_, rfl, fun b hb => hb⟩, ⟨_, rfl, fun b hb => hb⟩, ⟨[], rfl, fun b hb => by cases hb⟩, trivial⟩, i + 1, by omega, by omega, ?_⟩
        rw [if_neg (by simpa using hk)] at hkt
        have hnk : ∀ x ∈ keysR (a.es.take (i + 1)), x < a.n := fun x hx => by
          obtain ⟨e', he', rfl⟩ := keysR_mem.1 hx
          exact (hes e' (List.mem_of_mem_take he')).2
        have hp0 := preds_none hk
        generalize hps : psL (fun k => if k ∈ keysR (a.es.take (i + 1)) then (if k = e.2.2 then .blk 191 0 else .blk (300 + k) 0 : Src) else .nil) (List.range a.n) = PS
        have hroom : ∀ k : Nat, k < a.n → k ≠ e.2.2 → (hp (rowsL (rowF (a.es.take i)) (List.range a.n))).get (300 + k) = some (.cells 0 (rowF (a.es.take i) k)) := fun k hk _ => rowsL_get List.nodup_range hrn (List.mem_range.2 hk)
        refine ⟨(70, .blk 70 0) :: (71, .blk 71 0) :: (72, .blk 72 0) :: PS, ?_, RO.zero, ?_, ?_⟩
        · subst hps
          refine okPs_three List.nodup_range hrn (fun k hk j hj hkj b g b' g' h1 h2 => ?_) (fun k hk b g h1 => ?_) (by decide) (by decide) (by decide)
          · split at h1
            · split at h2
              · split at h1 <;> split at h2 <;> cases h1 <;> cases h2 <;> omega
              · cases h2
            · cases h1
          · split at h1
            · split at h1 <;> cases h1 <;> omega
            · cases h1
        · subst hps
          refine RB.cells rfl rfl (by simp (disch := omega) only [get_same, get_ne, hp_cons]; rfl) ?_ (RB.map rfl rfl (by simp (disch := omega) only [get_same, get_ne, hp_cons]; rfl) ?_ (RB.cells rfl rfl (by simp (disch := omega) only [get_same, get_ne, hp_cons]) (RnL.same (noRefs_bls _)) ?_))
          · repeat' (first | exact RB.nil | (refine RnL.same ?_; first | rfl | (simp only [noRef, noRefs, noRefs_append, Bool.and_self, Bool.and_true, Bool.true_and, noRefs_ints, noRefs_eg, noRefs_ed, noRefs_rm, noRefs_bls, noRef_sli, noRef_sliN, noRef_egs, noRef_egsN]; done)) | exact RnM.keyM rfl | exact RnL.nil | exact (True.intro : RnM _ _ _ [] []) | refine RnL.cons ?_ ?_ | (refine Rn.same ?_; first | rfl | (simp only [noRef, noRefs, noRefs_append, Bool.and_self, Bool.and_true, Bool.true_and, noRefs_ints, noRefs_eg, noRefs_ed, noRefs_rm, noRefs_bls, noRef_sli, noRef_sliN, noRef_egs, noRef_egsN]; done)) | exact Rn.x1 rfl rfl | exact Rn.x2 rfl rfl | exact Rn.x3 rfl rfl | exact Rn.x4 rfl rfl | exact Rn.x5 rfl | exact Rn.x6 rfl | exact Rn.x7 rfl | refine RB.newnil rfl rfl ?_ | refine RB.cells rfl rfl rfl ?_ ?_ | refine RB.map rfl rfl rfl ?_ ?_ | refine RB.cellsB rfl rfl ?_ ?_ | refine RB.mapB rfl rfl ?_ ?_)
          · rw [hkt]
            refine RnM.mapF fun x hx => ?_
            have hxk : x ∈ keysR (a.es.take (i + 1)) := by rw [hkt]; exact hx
            have hxn := hnk x hxk
            unfold updF ptrF
            split
            · rename_i hx2; subst hx2
              (rw [preds_take he, if_pos rfl, hp0]; exact Rn.x1 rfl (by rw [ow_rows (List.mem_range.2 hxn)]; simp [hx]))
            · rename_i hx2
              rw [preds_take he, if_neg (fun e2 => hx2 e2.symm), List.append_nil]
              exact Rn.x1 rfl (by rw [ow_rows (List.mem_range.2 hxn)]; simp [hx, hx2])
          · refine RB_rows fun k hk => ?_
            have hkn := List.mem_range.1 hk
            by_cases hkk : k ∈ keysR (a.es.take (i + 1))
            · by_cases hx2 : k = e.2.2
              · subst hx2
                refine RB.cells rfl (b := 191) (g := 0) (ds := [.int .i64 (e.1 : Int)]) (by rw [ow_rows hk]; simp [hkk]) (by simp (disch := omega) only [get_same, get_ne, hp_cons]) (RnL.eq ?_ (noRefs_ints _)) RB.nil
                unfold SE.rowF
                rw [preds_take he, if_pos rfl, nz_append, ints_append]
                (rw [hp0]; rfl)
              · refine RB.cells rfl (b := 300 + k) (g := 0) (ds := SE.rowF (a.es.take i) k) (by rw [ow_rows hk]; simp [hkk, hx2]) (by simp (disch := omega) only [get_same, get_ne, hp_cons, hroom k hkn hx2]) (RnL.eq ?_ (noRefs_ints _)) RB.nil
                unfold SE.rowF
                rw [preds_take he, if_neg (fun e2 => hx2 e2.symm), List.append_nil]
            · have hp := preds_none hkk
              have : SE.rowF (a.es.take (i + 1)) k = [] := by unfold SE.rowF; rw [hp]; rfl
              rw [this]
              exact RB.newnil rfl (by rw [ow_rows hk]; simp [hkk]) RB.nil
        · exact au2
    · have e : i = a.es.length := by omega
      subst e
      have hnk : ∀ x ∈ keysR a.es, x < a.n := fun x hx => by
        obtain ⟨e', he', rfl⟩ := keysR_mem.1 hx
        exact (hes e' he').2
      simp (maxSteps := 1000000) (disch := first | omega | exact PairsOK.mk rfl | (simp only [lenW] <;> omega)) only [hlt, Int.reduceGT, ne_eq, List.length_replicate, wD, Nat.reduceAdd, Nat.reduceEqDiff, Nat.reduceBEq, ↓reduceIte, reduceCtorEq, SX.exit.injEq, if_true, if_false, Int.reduceAdd, Int.reduceSub, Int.reduceMul, Int.reduceLT, Int.reduceLE, Int.reduceEq, Int.reduceNe, Int.reduceNeg, Int.reduceToNat, Nat.reduceMul, Nat.reduceLT, Nat.reduceSub, Nat.reduceLeDiff]
      refine ⟨(), [(70, .blk 70 0), (71, .blk 71 0), (72, .blk 72 0)], rfl, RO.zero, ?_, au2⟩
      refine RB.cells rfl rfl (by simp (disch := omega) only [get_same, get_ne, hp_cons]; rfl) ?_ (RB.map rfl rfl (by simp (disch := omega) only [get_same, get_ne, hp_cons]; rfl) ?_ (RB.cells rfl rfl (by simp (disch := omega) only [get_same, get_ne, hp_cons]) (RnL.same (noRefs_bls _)) RB.nil))
      · repeat' (first | exact RB.nil | (refine RnL.same ?_; first | rfl | (simp only [noRef, noRefs, noRefs_append, Bool.and_self, Bool.and_true, Bool.true_and, noRefs_ints, noRefs_eg, noRefs_ed, noRefs_rm, noRefs_bls, noRef_sli, noRef_sliN, noRef_egs, noRef_egsN]; done)) | exact RnM.keyM rfl | exact RnL.nil | exact (True.intro : RnM _ _ _ [] []) | refine RnL.cons ?_ ?_ | (refine Rn.same ?_; first | rfl | (simp only [noRef, noRefs, noRefs_append, Bool.and_self, Bool.and_true, Bool.true_and, noRefs_ints, noRefs_eg, noRefs_ed, noRefs_rm, noRefs_bls, noRef_sli, noRef_sliN, noRef_egs, noRef_egsN]; done)) | exact Rn.x1 rfl rfl | exact Rn.x2 rfl rfl | exact Rn.x3 rfl rfl | exact Rn.x4 rfl rfl | exact Rn.x5 rfl | exact Rn.x6 rfl | exact Rn.x7 rfl | refine RB.newnil rfl rfl ?_ | refine RB.cells rfl rfl rfl ?_ ?_ | refine RB.map rfl rfl rfl ?_ ?_ | refine RB.cellsB rfl rfl ?_ ?_ | refine RB.mapB rfl rfl ?_ ?_)
      · refine RnM.mapF fun x hx => ?_
        have hxn := hnk x hx
        have hr := rowsL_get (f := SE.rowF a.es) List.nodup_range hrn (List.mem_range.2 hxn)
        have h1 : Nat.beq (300 + x) 70 = false := by rw [Bool.eq_false_iff]; simp; try omega
        have h2 : Nat.beq (300 + x) 71 = false := by rw [Bool.eq_false_iff]; simp; try omega
        have h3 : Nat.beq (300 + x) 72 = false := by rw [Bool.eq_false_iff]; simp; try omega
        exact Rn.fzm (by simp (disch := omega) only [get_same, get_ne, hp_cons, hr]) (by simp [srcNew, h1, h2, h3]) (by simp) rfl (by rw [ints_len, List.length_map, Nat.mul_one]) (RnL.same (noRefs_ints _))
  rintro _ _
  simp (maxSteps := 1000000) (disch := first | omega | exact PairsOK.mk rfl | (simp only [lenW] <;> omega)) only [Int.reduceGT, ne_eq, List.length_replicate, wD, Nat.reduceAdd, Nat.reduceEqDiff, Nat.reduceBEq, ↓reduceIte, reduceCtorEq, SX.exit.injEq, if_true, if_false, Int.reduceAdd, Int.reduceSub, Int.reduceMul, Int.reduceLT, Int.reduceLE, Int.reduceEq, Int.reduceNe, Int.reduceNeg, Int.reduceToNat, Nat.reduceMul, Nat.reduceLT, Nat.reduceSub, Nat.reduceLeDiff]
  refine ⟨.inr trivial, _, rfl, [(70, .blk 70 0), (71, .blk 71 0), (72, .blk 72 0)], rfl, RO.zero, ?_, au2⟩
  refine RB.cells rfl rfl rfl ?_ (RB.map rfl rfl rfl (RnM.mapF fun x _ => Rn.same (noRef_sliN _)) (RB.cells rfl rfl rfl (RnL.same (noRefs_bls _)) RB.nil))
  repeat' (first | exact RB.nil | (refine RnL.same ?_; first | rfl | (simp only [noRef, noRefs, noRefs_append, Bool.and_self, Bool.and_true, Bool.true_and, noRefs_ints, noRefs_eg, noRefs_ed, noRefs_rm, noRefs_bls, noRef_sli, noRef_sliN, noRef_egs, noRef_egsN]; done)) | exact RnM.keyM rfl | exact RnL.nil | exact (True.intro : RnM _ _ _ [] []) | refine RnL.cons ?_ ?_ | (refine Rn.same ?_; first | rfl | (simp only [noRef, noRefs, noRefs_append, Bool.and_self, Bool.and_true, Bool.true_and, noRefs_ints, noRefs_eg, noRefs_ed, noRefs_rm, noRefs_bls, noRef_sli, noRef_sliN, noRef_egs, noRef_egsN]; done)) | exact Rn.x1 rfl rfl | exact Rn.x2 rfl rfl | exact Rn.x3 rfl rfl | exact Rn.x4 rfl rfl | exact Rn.x5 rfl | exact Rn.x6 rfl | exact Rn.x7 rfl | refine RB.newnil rfl rfl ?_ | refine RB.cells rfl rfl rfl ?_ ?_ | refine RB.map rfl rfl rfl ?_ ?_ | refine RB.cellsB rfl rfl ?_ ?_ | refine RB.mapB rfl rfl ?_ ?_)
end Go.AM.SE
namespace Go.AM.SE
open Go.Proofs Go.AM.SD
set_option maxRecDepth 100000
set_option linter.unusedSimpArgs false
set_option linter.unusedVariables false
abbrev pv (a : Aut) (u : List Nat) (l : LB) : AV := .fptr [sliN a.al, .int .i64 (a.n : Int), sliN a.ms, egsN a.es, sliN u, fmapF .i64 (backF a.es) (keysR a.es), .fsl (bls l) a.n 1]
theorem noRefs_mapS {f : Nat → AV} (h : ∀ x, noRef (f x) = true) (l : List Nat) : noRefs (l.map f) = true := by
  induction l with
  | nil => rfl
  | cons x l ih => simp only [List.map_cons, noRefs, h, ih]; rfl
theorem noRefs_keysI (k : IntKind) (l : List Nat) : noRefs (l.map fun x : Nat => AV.int k (x : Int)) = true := noRefs_mapS (fun _ => rfl) l
theorem noRefs_back (es : List Ed) (l : List Nat) : noRefs (l.map (backF es)) = true := noRefs_mapS (fun x => noRef_sliN _) l
theorem bMks_take {n : Nat} {mk : List Nat} {left : Nat → Bool} {i x : Nat} (h : mk[i]? = some x) : bMks n (mk.take (i + 1)) left = bMk left (bMks n (mk.take i) left) x := by
  unfold bMks
  rw [List.take_add_one, h, Option.toList, List.foldl_append]; rfl
theorem bMks_len (n : Nat) (mk : List Nat) (left : Nat → Bool) : (bMks n mk left).1.length = n := by
  have key : ∀ (mk : List Nat) (s : QS), (mk.foldl (bMk left) s).1.length = s.1.length := by
    intro mk
    induction mk with
    | nil => intro s; rfl
    | cons x mk ih =>
      intro s
      rw [List.foldl_cons, ih]
      unfold bMk; split <;> simp
  unfold bMks; rw [key]; simp
theorem bRow_take {left : Nat → Bool} {v : Nat} {s : QS} {ys : List Nat} {i y : Nat} (h : ys[i]? = some y) : (ys.take (i + 1)).foldl (bEd left v) s = bEd left v ((ys.take i).foldl (bEd left v) s) y := by
  rw [List.take_add_one, h, Option.toList, List.foldl_append]; rfl
theorem ints_rep (n : Nat) (x : Int) : (List.replicate n [AV.int .i64 x]).flatten = ints (List.replicate n x) := by
  induction n with
  | zero => rfl
  | succ n ih => rw [List.replicate_succ, List.flatten_cons, ih]; rfl
theorem half_setI {n i : Nat} (h : i < n) : (List.replicate i (-1 : Int) ++ List.replicate (n - i) 0).set i (-1) = List.replicate (i + 1) (-1) ++ List.replicate (n - (i + 1)) 0 := by
  rw [List.set_append_right _ _ (by simp), List.length_replicate, Nat.sub_self, show n - i = (n - (i + 1)) + 1 by omega, List.replicate_succ, List.set_cons_zero, List.replicate_succ', List.append_assoc]; rfl
theorem ints_set {l : List Int} {i : Nat} {x : Int} : (ints l).set i (.int .i64 x) = ints (l.set i x) := by simp [ints, List.map_set]
def Bd (s : QS) : Prop := ∀ x, s.1.getD x 0 ≤ s.2.length
theorem bEd_bd {left : Nat → Bool} {v y : Nat} {s : QS} (h : Bd s) : Bd (bEd left v s y) := by
  unfold bEd
  split
  · intro x
    have h1 := h x
    have h2 := h v
    show (s.1.set y (s.1.getD v 0 + 1)).getD x 0 ≤ ((s.2 ++ [y]).length : Int)
    rw [List.length_append, List.length_singleton]
    rw [List.getD_eq_getElem?_getD, List.getElem?_set]
    rw [List.getD_eq_getElem?_getD] at h1
    split
    · split
      · simp only [Option.getD_some]; omega
      · simp only [Option.getD_none]; omega
    · omega
  · exact h
theorem bMk_bd {left : Nat → Bool} {x : Nat} {s : QS} (h : Bd s) : Bd (bMk left s x) := by
  unfold bMk
  split
  · intro z
    have h1 := h z
    show (s.1.set x 0).getD z 0 ≤ ((s.2 ++ [x]).length : Int)
    rw [List.length_append, List.length_singleton]
    rw [List.getD_eq_getElem?_getD, List.getElem?_set]
    rw [List.getD_eq_getElem?_getD] at h1
    split
    · split
      · simp only [Option.getD_some]; omega
      · simp only [Option.getD_none]; omega
    · omega
  · exact h
theorem bRow_bd {left : Nat → Bool} {v : Nat} : ∀ (ys : List Nat) (s : QS), Bd s → Bd (ys.foldl (bEd left v) s)
  | [], s, h => h
  | y :: ys, s, h => bRow_bd ys _ (bEd_bd h)
theorem bMks_bd {n : Nat} {left : Nat → Bool} (mk : List Nat) : Bd (bMks n mk left) := by
  have key : ∀ (mk : List Nat) (s : QS), Bd s → Bd (mk.foldl (bMk left) s) := by
    intro mk
    induction mk with
    | nil => intro s h; exact h
    | cons x mk ih => intro s h; exact ih _ (bMk_bd h)
  refine key mk _ fun x => ?_
  simp only [List.getD_eq_getElem?_getD, List.getElem?_replicate]
  split <;> simp
theorem bMks_q (n : Nat) (left : Nat → Bool) (mk : List Nat) : (bMks n mk left).2.length ≤ mk.length := by
  have key : ∀ (mk : List Nat) (s : QS), (mk.foldl (bMk left) s).2.length ≤ s.2.length + mk.length := by
    intro mk
    induction mk with
    | nil => intro s; simp
    | cons x mk ih =>
      intro s
      rw [List.foldl_cons]
      refine Nat.le_trans (ih _) ?_
      unfold bMk
      split <;> simp <;> omega
  have := key mk (List.replicate n (-1), [])
  unfold bMks
  simpa using this
theorem get_ints {l : List Int} {i : Nat} {x : Int} (h : l[i]? = some x) : (ints l)[i]? = some (.int .i64 x) := by simp [ints, h]
theorem get_intsD {l : List Int} {i : Nat} (h : i < l.length) : (ints l)[i]? = some (.int .i64 (l.getD i 0)) := by simp [ints, h]
theorem _root_.Go.AM.au3 {p : Prop} (h : p := by repeat' (first | exact RB.nil | (refine RnL.same ?_; first | rfl | (simp only [noRef, noRefs, noRefs_append, Bool.and_self, Bool.and_true, Bool.true_and, noRefs_ints, noRefs_eg, noRefs_ed, noRefs_rm, noRefs_bls, noRef_sli, noRef_sliN, noRef_egs, noRef_egsN, noRefs_keysI, noRefs_back]; done)) | exact RnM.keyM rfl | exact RnL.nil | exact (True.intro : RnM _ _ _ [] []) | refine RnL.cons ?_ ?_ | (refine Rn.same ?_; first | rfl | (simp only [noRef, noRefs, noRefs_append, Bool.and_self, Bool.and_true, Bool.true_and, noRefs_ints, noRefs_eg, noRefs_ed, noRefs_rm, noRefs_bls, noRef_sli, noRef_sliN, noRef_egs, noRef_egsN, noRefs_keysI, noRefs_back]; done)) | exact Rn.x1 rfl rfl | exact Rn.x2 rfl rfl | exact Rn.x3 rfl rfl | exact Rn.x4 rfl rfl | exact Rn.x5 rfl | exact Rn.x6 rfl | exact Rn.x7 rfl | refine RB.newnil rfl rfl ?_ | refine RB.cells rfl rfl rfl ?_ ?_ | refine RB.map rfl rfl rfl ?_ ?_ | refine RB.cellsB rfl rfl ?_ ?_ | refine RB.mapB rfl rfl ?_ ?_)) : p := h
theorem _root_.Go.AM.au4 {p : Prop} (h : p := by repeat (first | exact RT.nil | (refine RT.cons ?_ ?_; · (first | exact Rn.any | exact Rn.x1 rfl rfl | exact Rn.x2 rfl rfl | exact Rn.x3 rfl rfl | exact Rn.x4 rfl rfl | exact Rn.x5 rfl | exact Rn.x6 rfl | exact Rn.x7 rfl | (refine Rn.slot ?_ ?_; (first | rfl | (rw [Int.natCast_add]; rfl)); (first | rfl | (simp only [noRef, noRefs, noRefs_append, Bool.and_self, Bool.and_true, Bool.true_and, noRefs_ints, noRefs_eg, noRefs_ed, noRefs_rm, noRefs_bls, noRef_sli, noRef_sliN, noRef_egs, noRef_egsN, noRefs_keysI, noRefs_back]; done))) | (refine Rn.fn ?_ ?_ <;> (repeat' (first | exact RnL.nil | refine RnL.cons ?_ ?_ | exact Rn.same rfl | exact Rn.x6 rfl | exact Rn.x2 rfl rfl | exact Rn.x5 rfl | exact Rn.x1 rfl rfl))))))) : p := h
set_option maxHeartbeats 16000000 in
theorem dist53 (a : Aut) (u : List Nat) (l : LB) (hin : InN a.n a.es a.ms) (hnd : a.ms.Nodup) (hl : l.length = a.n) (hn : a.n ≤ 4096) (hel : a.es.length ≤ 1000000) (hml : a.ms.length ≤ 1000000) :
    HSpec Try.prog 53 [pv a u l] .e (.sl 80 0 0 a.n 1) (hp [(80, .cells 0 (ints (pDist a.n a.es a.ms (lf l))))]) := by
  refine HSpec.of_new 100 ok53 rfl ?_
  have hn' : (a.n : Int) ≤ 1099511627776 := by omega
  have hn8 : (8 : Int) * a.n ≤ 1099511627776 := by omega
  simp (maxSteps := 1000000) (disch := first | omega | exact PairsOK.mk rfl | (simp only [lenW] <;> omega)) only [s53, hn', hn8, ints_rep, Int.reduceGT, ne_eq, List.length_replicate, wD, Nat.reduceAdd, Nat.reduceEqDiff, Nat.reduceBEq, ↓reduceIte, reduceCtorEq, SX.exit.injEq, if_true, if_false, Int.reduceAdd, Int.reduceSub, Int.reduceMul, Int.reduceLT, Int.reduceLE, Int.reduceEq, Int.reduceNe, Int.reduceNeg, Int.reduceToNat, Nat.reduceMul, Nat.reduceLT, Nat.reduceSub, Nat.reduceLeDiff]
  refine wS_loopX 100 (fun i : Nat => [(0, pv a u l), (3, .sl 80 0 0 a.n 1), (18, .int .i64 a.n), (19, .int .i64 i)])
    (fun i => [(80, .cells 0 (ints (List.replicate i (-1) ++ List.replicate (a.n - i) 0)))])
    (fun i => i ≤ a.n) (fun i => a.n - i) 0 0 120
    (fun _ : Unit => [(0, pv a u l), (3, .sl 80 0 0 a.n 1)])
    (fun _ => [(80, .cells 0 (ints (List.replicate a.n (-1))))]) (fun _ => True) ?_ (Nat.zero_le _) ?_ ?_
  · exact ⟨[(80, .blk 106 0)], rfl, au0, au3, au4⟩
  · rintro i hi
    by_cases hlt : i < a.n
    · have h1 : i + 1 ≤ i + (a.n - i) := by omega
      simp (maxSteps := 1000000) (disch := first | omega | exact PairsOK.mk rfl | (simp only [lenW] <;> omega)) only [hlt, h1, ints_set, half_setI hlt, Int.reduceGT, ne_eq, List.length_replicate, wD, Nat.reduceAdd, Nat.reduceEqDiff, Nat.reduceBEq, ↓reduceIte, reduceCtorEq, SX.exit.injEq, if_true, if_false, Int.reduceAdd, Int.reduceSub, Int.reduceMul, Int.reduceLT, Int.reduceLE, Int.reduceEq, Int.reduceNe, Int.reduceNeg, Int.reduceToNat, Nat.reduceMul, Nat.reduceLT, Nat.reduceSub, Nat.reduceLeDiff]
      exact ⟨i + 1, by omega, by omega, ⟨[(80, .blk 80 0)], rfl, au0, au3, au4⟩⟩
    · have e : i = a.n := by omega
      subst e
      have e2 : List.replicate a.n (-1 : Int) ++ List.replicate (a.n - a.n) 0 = List.replicate a.n (-1) := by simp
      simp (maxSteps := 1000000) (disch := first | omega | exact PairsOK.mk rfl | (simp only [lenW] <;> omega)) only [hlt, Int.reduceGT, ne_eq, List.length_replicate, wD, Nat.reduceAdd, Nat.reduceEqDiff, Nat.reduceBEq, ↓reduceIte, reduceCtorEq, SX.exit.injEq, if_true, if_false, Int.reduceAdd, Int.reduceSub, Int.reduceMul, Int.reduceLT, Int.reduceLE, Int.reduceEq, Int.reduceNe, Int.reduceNeg, Int.reduceToNat, Nat.reduceMul, Nat.reduceLT, Nat.reduceSub, Nat.reduceLeDiff]
      refine ⟨(), ?_⟩
      rw [e2]
      exact ⟨[(80, .blk 80 0)], rfl, au0, au3, au4⟩
  rintro _ _
  simp (maxSteps := 1000000) (disch := first | omega | exact PairsOK.mk rfl | (simp only [lenW] <;> omega)) only [Int.reduceGT, ne_eq, List.length_replicate, wD, Nat.reduceAdd, Nat.reduceEqDiff, Nat.reduceBEq, ↓reduceIte, reduceCtorEq, SX.exit.injEq, if_true, if_false, Int.reduceAdd, Int.reduceSub, Int.reduceMul, Int.reduceLT, Int.reduceLE, Int.reduceEq, Int.reduceNe, Int.reduceNeg, Int.reduceToNat, Nat.reduceMul, Nat.reduceLT, Nat.reduceSub, Nat.reduceLeDiff]
  refine wS_loopX 140 (fun i : Nat => [(0, pv a u l), (3, .sl 80 0 0 a.n 1), (5, .sl 81 0 0 (bMks a.n (a.ms.take i) (lf l)).2.length 1), (30, sliN a.ms), (31, .int .i64 a.ms.length), (32, .int .i64 i)])
    (fun i => [(80, .cells 0 (ints (bMks a.n (a.ms.take i) (lf l)).1)), (81, .cells 0 (ints (nz (bMks a.n (a.ms.take i) (lf l)).2)))])
    (fun i => i ≤ a.ms.length) (fun i => a.ms.length - i) 0 2 160
    (fun _ : Unit => [(0, pv a u l), (3, .sl 80 0 0 a.n 1), (5, .sl 81 0 0 (bMks a.n a.ms (lf l)).2.length 1)])
    (fun _ => [(80, .cells 0 (ints (bMks a.n a.ms (lf l)).1)), (81, .cells 0 (ints (nz (bMks a.n a.ms (lf l)).2)))]) (fun _ => True) ?_ (Nat.zero_le _) ?_ ?_
  · exact ⟨[(80, .blk 80 0), (81, .nil)], rfl, au0, au3, au4⟩
  · rintro i hi
    by_cases hlt : i < a.ms.length
    · obtain ⟨x, hx⟩ := get_ex hlt
      have hxn := hin.2 x (List.mem_of_getElem? hx)
      have hs := bMks_take (n := a.n) (left := lf l) hx
      have hq := bMks_q a.n (lf l) (a.ms.take i)
      rw [List.length_take] at hq
      have hlen := bMks_len a.n (a.ms.take i) (lf l)
      generalize bMks a.n (a.ms.take i) (lf l) = s at *
      have h1 : x + 1 ≤ s.1.length := by omega
      have hxl : x < l.length := by omega
      by_cases h0 : lf l x = true
      · rw [bMk, if_pos h0] at hs
        simp (maxSteps := 1000000) (disch := first | omega | exact PairsOK.mk rfl | (simp only [lenW] <;> omega)) only [hlt, head_nz hx, hxn, head_bls hxl, h0, ints_set, h1, Int.reduceGT, ne_eq, List.length_replicate, wD, Nat.reduceAdd, Nat.reduceEqDiff, Nat.reduceBEq, ↓reduceIte, reduceCtorEq, SX.exit.injEq, if_true, if_false, Int.reduceAdd, Int.reduceSub, Int.reduceMul, Int.reduceLT, Int.reduceLE, Int.reduceEq, Int.reduceNe, Int.reduceNeg, Int.reduceToNat, Nat.reduceMul, Nat.reduceLT, Nat.reduceSub, Nat.reduceLeDiff]
        refine ⟨i + 1, by omega, by omega, ?_⟩
        rw [hs, nz_append, ints_append, List.length_append]
        exact ⟨[(80, .blk 80 0), (81, .blk 81 1)], rfl, au0, au3, au4⟩
      · rw [bMk, if_neg h0] at hs
        rw [Bool.not_eq_true] at h0
        simp (maxSteps := 1000000) (disch := first | omega | exact PairsOK.mk rfl | (simp only [lenW] <;> omega)) only [hlt, head_nz hx, hxn, head_bls hxl, h0, Int.reduceGT, ne_eq, List.length_replicate, wD, Nat.reduceAdd, Nat.reduceEqDiff, Nat.reduceBEq, ↓reduceIte, reduceCtorEq, SX.exit.injEq, if_true, if_false, Int.reduceAdd, Int.reduceSub, Int.reduceMul, Int.reduceLT, Int.reduceLE, Int.reduceEq, Int.reduceNe, Int.reduceNeg, Int.reduceToNat, Nat.reduceMul, Nat.reduceLT, Nat.reduceSub, Nat.reduceLeDiff]
        refine ⟨i + 1, by omega, by omega, ?_⟩
        rw [hs]
        exact ⟨[(80, .blk 80 0), (81, .blk 81 0)], rfl, au0, au3, au4⟩
    · have e : i = a.ms.length := by omega
      subst e
      simp (maxSteps := 1000000) (disch := first | omega | exact PairsOK.mk rfl | (simp only [lenW] <;> omega)) only [hlt, Int.reduceGT, ne_eq, List.length_replicate, wD, Nat.reduceAdd, Nat.reduceEqDiff, Nat.reduceBEq, ↓reduceIte, reduceCtorEq, SX.exit.injEq, if_true, if_false, Int.reduceAdd, Int.reduceSub, Int.reduceMul, Int.reduceLT, Int.reduceLE, Int.reduceEq, Int.reduceNe, Int.reduceNeg, Int.reduceToNat, Nat.reduceMul, Nat.reduceLT, Nat.reduceSub, Nat.reduceLeDiff]
      refine ⟨(), ?_⟩
      exact ⟨[(80, .blk 80 0), (81, .blk 81 0)], rfl, au0, au3, au4⟩
  rintro _ _
  simp (maxSteps := 1000000) (disch := first | omega | exact PairsOK.mk rfl | (simp only [lenW] <;> omega)) only [Int.reduceGT, ne_eq, List.length_replicate, wD, Nat.reduceAdd, Nat.reduceEqDiff, Nat.reduceBEq, ↓reduceIte, reduceCtorEq, SX.exit.injEq, if_true, if_false, Int.reduceAdd, Int.reduceSub, Int.reduceMul, Int.reduceLT, Int.reduceLE, Int.reduceEq, Int.reduceNe, Int.reduceNeg, Int.reduceToNat, Nat.reduceMul, Nat.reduceLT, Nat.reduceSub, Nat.reduceLeDiff]
  have hb0 := bMks_bh (left := lf l) hin hnd
  have hd0 := bMks_bd (n := a.n) (left := lf l) a.ms
  have hfin : (bQ a.es (lf l) (a.n + 1) 0 (bMks a.n a.ms (lf l))).1 = pDist a.n a.es a.ms (lf l) := rfl
  generalize bMks a.n a.ms (lf l) = s0 at *
  refine wS_loopX 180 (fun t : Nat × QS => [(0, pv a u l), (3, .sl 80 0 0 a.n 1), (5, .sl 81 0 0 t.2.2.length 1), (8, .int .i64 t.1)])
    (fun t => [(80, .cells 0 (ints t.2.1)), (81, .cells 0 (ints (nz t.2.2)))])
    (fun t => t.1 ≤ a.n ∧ BH a.n a.es a.ms (lf l) t.1 t.2 ∧ Bd t.2 ∧ bQ a.es (lf l) (a.n + 1 - t.1) t.1 t.2 = bQ a.es (lf l) (a.n + 1) 0 s0) (fun t => a.n + 1 - t.1) (0, s0) 4 200
    (fun _ : Unit => [(3, .sl 80 0 0 a.n 1)])
    (fun _ => [(80, .cells 0 (ints (pDist a.n a.es a.ms (lf l))))]) (fun _ => True) ?_ ⟨Nat.zero_le _, hb0, hd0, rfl⟩ ?_ ?_
  · exact ⟨[(80, .blk 80 0), (81, .blk 81 0)], rfl, au0, au3, au4⟩
  · rintro ⟨i, s⟩ ⟨hi, hbh, hbd, hq⟩
    dsimp only at hi hbh hbd hq ⊢
    have hsl := hbh.bi.cnt
    have hlen := hbh.bi.len
    by_cases hlt : i < s.2.length
    · obtain ⟨v, hv⟩ := get_ex hlt
      have hvn := ((hbh.bi.inl v).1 (List.mem_of_getElem? hv)).1
      have hin' : i < a.n := by omega
      have hq' : bQ a.es (lf l) (a.n + 1 - (i + 1)) (i + 1) (bRow a.es (lf l) v s) = bQ a.es (lf l) (a.n + 1) 0 s0 := by
        rw [← hq, show a.n + 1 - i = (a.n + 1 - (i + 1)) + 1 by omega]
        simp only [bQ, hv]
      have hbh' := hbh.step hin hv
      have hrow := fun ys (hys : ∀ y ∈ ys, ∃ e ∈ a.es, e.1 = y ∧ e.2.2 = v) => BI.row (left := lf l) (mk := a.ms) hin (v := v) (i := i) ys s hys hbh.bi hv (hbh.near v hv) hbh.done
      have hpl := preds_len a.es v
      simp (maxSteps := 1000000) (disch := first | omega | exact PairsOK.mk rfl | (simp only [lenW] <;> omega)) only [hlt, head_nz hv, get_ints (nz_at hv), Int.reduceGT, ne_eq, List.length_replicate, wD, Nat.reduceAdd, Nat.reduceEqDiff, Nat.reduceBEq, ↓reduceIte, reduceCtorEq, SX.exit.injEq, if_true, if_false, Int.reduceAdd, Int.reduceSub, Int.reduceMul, Int.reduceLT, Int.reduceLE, Int.reduceEq, Int.reduceNe, Int.reduceNeg, Int.reduceToNat, Nat.reduceMul, Nat.reduceLT, Nat.reduceSub, Nat.reduceLeDiff]
      have hpn : ∀ y ∈ preds a.es v, y < a.n := fun y hy => by
        obtain ⟨e, he, h1, h2⟩ := mem_preds.1 hy
        have := (hin.1 e he).1; omega
      by_cases hk : v ∈ keysR a.es
      · refine aLookup_fin hk ?_
        simp (maxSteps := 1000000) (disch := first | omega | exact PairsOK.mk rfl | (simp only [lenW] <;> omega)) only [Int.reduceGT, ne_eq, List.length_replicate, wD, Nat.reduceAdd, Nat.reduceEqDiff, Nat.reduceBEq, ↓reduceIte, reduceCtorEq, SX.exit.injEq, if_true, if_false, Int.reduceAdd, Int.reduceSub, Int.reduceMul, Int.reduceLT, Int.reduceLE, Int.reduceEq, Int.reduceNe, Int.reduceNeg, Int.reduceToNat, Nat.reduceMul, Nat.reduceLT, Nat.reduceSub, Nat.reduceLeDiff]
        refine wS_loopX 220 (fun j : Nat => [(65, sliN (preds a.es v)), (66, .int .i64 (preds a.es v).length), (0, pv a u l), (3, .sl 80 0 0 a.n 1), (5, .sl 81 0 0 (((preds a.es v).take j).foldl (bEd (lf l) v) s).2.length 1), (8, .int .i64 i), (67, .int .i64 j)])
          (fun j => [(80, .cells 0 (ints (((preds a.es v).take j).foldl (bEd (lf l) v) s).1)), (81, .cells 0 (ints (nz (((preds a.es v).take j).foldl (bEd (lf l) v) s).2)))])
          (fun j => j ≤ (preds a.es v).length) (fun j => (preds a.es v).length - j) 0 6 240
          (fun _ : Unit => [(0, pv a u l), (3, .sl 80 0 0 a.n 1), (5, .sl 81 0 0 (bRow a.es (lf l) v s).2.length 1), (8, .int .i64 i)])
          (fun _ => [(80, .cells 0 (ints (bRow a.es (lf l) v s).1)), (81, .cells 0 (ints (nz (bRow a.es (lf l) v s).2)))]) (fun _ => True) ?_ (Nat.zero_le _) ?_ ?_
        · exact ⟨[(80, .blk 80 0), (81, .blk 81 0)], rfl, au0, au3, au4⟩
        · rintro j hj
          by_cases hjl : j < (preds a.es v).length
          · obtain ⟨y, hy⟩ := get_ex hjl
            have hyn := hpn y (List.mem_of_getElem? hy)
            obtain ⟨k1, k2, _, _, _, _⟩ := hrow ((preds a.es v).take j) (fun y hy => mem_preds.1 (List.mem_of_mem_take hy))
            have hbdj := bRow_bd (left := lf l) (v := v) ((preds a.es v).take j) s hbd
            have hstep := bRow_take (left := lf l) (v := v) (s := s) hy
            generalize ((preds a.es v).take j).foldl (bEd (lf l) v) s = t at *
            have hcn := k1.cnt
            have hln := k1.len
            have hil : i < t.2.length := (List.getElem?_eq_some_iff.1 k2).1
            have hyl : y < l.length := by omega
            have hy1 : y + 1 ≤ t.1.length := by omega
            have hyt : y < t.1.length := by omega
            have hvt : v < t.1.length := by omega
            have hv1 := k1.neg v hvn
            have hv2 := hbdj v
            by_cases h0 : lf l y = true
            · by_cases h2 : t.1.getD y 0 < 0
              · have hst : bEd (lf l) v t y = (t.1.set y (t.1.getD v 0 + 1), t.2 ++ [y]) := by unfold bEd; rw [if_pos (by rw [h0, decide_eq_true h2]; rfl)]
                rw [hst] at hstep
                simp (maxSteps := 1000000) (disch := first | omega | exact PairsOK.mk rfl | (simp only [lenW] <;> omega)) only [hjl, head_nz hy, hyn, head_bls hyl, h0, get_intsD hyt, h2, hil, get_ints (nz_at k2), hvn, get_intsD hvt, hy1, ints_set, Int.reduceGT, ne_eq, List.length_replicate, wD, Nat.reduceAdd, Nat.reduceEqDiff, Nat.reduceBEq, ↓reduceIte, reduceCtorEq, SX.exit.injEq, if_true, if_false, Int.reduceAdd, Int.reduceSub, Int.reduceMul, Int.reduceLT, Int.reduceLE, Int.reduceEq, Int.reduceNe, Int.reduceNeg, Int.reduceToNat, Nat.reduceMul, Nat.reduceLT, Nat.reduceSub, Nat.reduceLeDiff]
                refine ⟨j + 1, by omega, by omega, ?_⟩
                rw [hstep, nz_append, ints_append, List.length_append]
                exact ⟨[(80, .blk 80 0), (81, .blk 81 1)], rfl, au0, au3, au4⟩
              · have hst : bEd (lf l) v t y = t := by unfold bEd; rw [if_neg (by rw [h0, decide_eq_false h2]; decide)]
                rw [hst] at hstep
                simp (maxSteps := 1000000) (disch := first | omega | exact PairsOK.mk rfl | (simp only [lenW] <;> omega)) only [hjl, head_nz hy, hyn, head_bls hyl, h0, get_intsD hyt, h2, Int.reduceGT, ne_eq, List.length_replicate, wD, Nat.reduceAdd, Nat.reduceEqDiff, Nat.reduceBEq, ↓reduceIte, reduceCtorEq, SX.exit.injEq, if_true, if_false, Int.reduceAdd, Int.reduceSub, Int.reduceMul, Int.reduceLT, Int.reduceLE, Int.reduceEq, Int.reduceNe, Int.reduceNeg, Int.reduceToNat, Nat.reduceMul, Nat.reduceLT, Nat.reduceSub, Nat.reduceLeDiff]
                refine ⟨j + 1, by omega, by omega, ?_⟩
                rw [hstep]
                exact ⟨[(80, .blk 80 0), (81, .blk 81 0)], rfl, au0, au3, au4⟩
            · have hst : bEd (lf l) v t y = t := by unfold bEd; rw [if_neg (by simp [h0])]
              rw [hst] at hstep
              rw [Bool.not_eq_true] at h0
              simp (maxSteps := 1000000) (disch := first | omega | exact PairsOK.mk rfl | (simp only [lenW] <;> omega)) only [hjl, head_nz hy, hyn, head_bls hyl, h0, Int.reduceGT, ne_eq, List.length_replicate, wD, Nat.reduceAdd, Nat.reduceEqDiff, Nat.reduceBEq, ↓reduceIte, reduceCtorEq, SX.exit.injEq, if_true, if_false, Int.reduceAdd, Int.reduceSub, Int.reduceMul, Int.reduceLT, Int.reduceLE, Int.reduceEq, Int.reduceNe, Int.reduceNeg, Int.reduceToNat, Nat.reduceMul, Nat.reduceLT, Nat.reduceSub, Nat.reduceLeDiff]
              refine ⟨j + 1, by omega, by omega, ?_⟩
              rw [hstep]
              exact ⟨[(80, .blk 80 0), (81, .blk 81 0)], rfl, au0, au3, au4⟩
          · have e : j = (preds a.es v).length := by omega
            subst e
            simp (maxSteps := 1000000) (disch := first | omega | exact PairsOK.mk rfl | (simp only [lenW] <;> omega)) only [hjl, Int.reduceGT, ne_eq, List.length_replicate, wD, Nat.reduceAdd, Nat.reduceEqDiff, Nat.reduceBEq, ↓reduceIte, reduceCtorEq, SX.exit.injEq, if_true, if_false, Int.reduceAdd, Int.reduceSub, Int.reduceMul, Int.reduceLT, Int.reduceLE, Int.reduceEq, Int.reduceNe, Int.reduceNeg, Int.reduceToNat, Nat.reduceMul, Nat.reduceLT, Nat.reduceSub, Nat.reduceLeDiff]
            refine ⟨(), ?_⟩
            exact ⟨[(80, .blk 80 0), (81, .blk 81 0)], rfl, au0, au3, au4⟩
        rintro _ _
        simp (maxSteps := 1000000) (disch := first | omega | exact PairsOK.mk rfl | (simp only [lenW] <;> omega)) only [Int.reduceGT, ne_eq, List.length_replicate, wD, Nat.reduceAdd, Nat.reduceEqDiff, Nat.reduceBEq, ↓reduceIte, reduceCtorEq, SX.exit.injEq, if_true, if_false, Int.reduceAdd, Int.reduceSub, Int.reduceMul, Int.reduceLT, Int.reduceLE, Int.reduceEq, Int.reduceNe, Int.reduceNeg, Int.reduceToNat, Nat.reduceMul, Nat.reduceLT, Nat.reduceSub, Nat.reduceLeDiff]
        exact ⟨(i + 1, bRow a.es (lf l) v s), by dsimp only; omega, ⟨hin', hbh', bRow_bd _ _ hbd, hq'⟩, ⟨[(80, .blk 80 0), (81, .blk 81 0)], rfl, au0, au3, au4⟩⟩
      · refine aLookup_fout hk ?_
        have hp0 := preds_none hk
        simp (maxSteps := 1000000) (disch := first | omega | exact PairsOK.mk rfl | (simp only [lenW] <;> omega)) only [Int.reduceGT, ne_eq, List.length_replicate, wD, Nat.reduceAdd, Nat.reduceEqDiff, Nat.reduceBEq, ↓reduceIte, reduceCtorEq, SX.exit.injEq, if_true, if_false, Int.reduceAdd, Int.reduceSub, Int.reduceMul, Int.reduceLT, Int.reduceLE, Int.reduceEq, Int.reduceNe, Int.reduceNeg, Int.reduceToNat, Nat.reduceMul, Nat.reduceLT, Nat.reduceSub, Nat.reduceLeDiff]
        refine wS_loopX 220 (fun j : Nat => [(65, sliN (preds a.es v)), (66, .int .i64 (preds a.es v).length), (0, pv a u l), (3, .sl 80 0 0 a.n 1), (5, .sl 81 0 0 (((preds a.es v).take j).foldl (bEd (lf l) v) s).2.length 1), (8, .int .i64 i), (67, .int .i64 j)])
          (fun j => [(80, .cells 0 (ints (((preds a.es v).take j).foldl (bEd (lf l) v) s).1)), (81, .cells 0 (ints (nz (((preds a.es v).take j).foldl (bEd (lf l) v) s).2)))])
          (fun j => j ≤ (preds a.es v).length) (fun j => (preds a.es v).length - j) 0 6 240
          (fun _ : Unit => [(0, pv a u l), (3, .sl 80 0 0 a.n 1), (5, .sl 81 0 0 (bRow a.es (lf l) v s).2.length 1), (8, .int .i64 i)])
          (fun _ => [(80, .cells 0 (ints (bRow a.es (lf l) v s).1)), (81, .cells 0 (ints (nz (bRow a.es (lf l) v s).2)))]) (fun _ => True) ?_ (Nat.zero_le _) ?_ ?_
        · exact ⟨[(80, .blk 80 0), (81, .blk 81 0)], rfl, RO.zero, au3, RT.cons (by rw [hp0]; exact Rn.nilK) (RT.cons (by rw [hp0]; exact Rn.same rfl) au4)⟩
        · rintro j hj
          by_cases hjl : j < (preds a.es v).length
          · obtain ⟨y, hy⟩ := get_ex hjl
            have hyn := hpn y (List.mem_of_getElem? hy)
            obtain ⟨k1, k2, _, _, _, _⟩ := hrow ((preds a.es v).take j) (fun y hy => mem_preds.1 (List.mem_of_mem_take hy))
            have hbdj := bRow_bd (left := lf l) (v := v) ((preds a.es v).take j) s hbd
            have hstep := bRow_take (left := lf l) (v := v) (s := s) hy
            generalize ((preds a.es v).take j).foldl (bEd (lf l) v) s = t at *
            have hcn := k1.cnt
            have hln := k1.len
            have hil : i < t.2.length := (List.getElem?_eq_some_iff.1 k2).1
            have hyl : y < l.length := by omega
            have hy1 : y + 1 ≤ t.1.length := by omega
            have hyt : y < t.1.length := by omega
            have hvt : v < t.1.length := by omega
            have hv1 := k1.neg v hvn
            have hv2 := hbdj v
            by_cases h0 : lf l y = true
            · by_cases h2 : t.1.getD y 0 < 0
              · have hst : bEd (lf l) v t y = (t.1.set y (t.1.getD v 0 + 1), t.2 ++ [y]) := by unfold bEd; rw [if_pos (by rw [h0, decide_eq_true h2]; rfl)]
                rw [hst] at hstep
                simp (maxSteps := 1000000) (disch := first | omega | exact PairsOK.mk rfl | (simp only [lenW] <;> omega)) only [hjl, head_nz hy, hyn, head_bls hyl, h0, get_intsD hyt, h2, hil, get_ints (nz_at k2), hvn, get_intsD hvt, hy1, ints_set, Int.reduceGT, ne_eq, List.length_replicate, wD, Nat.reduceAdd, Nat.reduceEqDiff, Nat.reduceBEq, ↓reduceIte, reduceCtorEq, SX.exit.injEq, if_true, if_false, Int.reduceAdd, Int.reduceSub, Int.reduceMul, Int.reduceLT, Int.reduceLE, Int.reduceEq, Int.reduceNe, Int.reduceNeg, Int.reduceToNat, Nat.reduceMul, Nat.reduceLT, Nat.reduceSub, Nat.reduceLeDiff]
                refine ⟨j + 1, by omega, by omega, ?_⟩
                rw [hstep, nz_append, ints_append, List.length_append]
                exact ⟨[(80, .blk 80 0), (81, .blk 81 1)], rfl, au0, au3, au4⟩
              · have hst : bEd (lf l) v t y = t := by unfold bEd; rw [if_neg (by rw [h0, decide_eq_false h2]; decide)]
                rw [hst] at hstep
                simp (maxSteps := 1000000) (disch := first | omega | exact PairsOK.mk rfl | (simp only [lenW] <;> omega)) only [hjl, head_nz hy, hyn, head_bls hyl, h0, get_intsD hyt, h2, Int.reduceGT, ne_eq, List.length_replicate, wD, Nat.reduceAdd, Nat.reduceEqDiff, Nat.reduceBEq, ↓reduceIte, reduceCtorEq, SX.exit.injEq, if_true, if_false, Int.reduceAdd, Int.reduceSub, Int.reduceMul, Int.reduceLT, Int.reduceLE, Int.reduceEq, Int.reduceNe, Int.reduceNeg, Int.reduceToNat, Nat.reduceMul, Nat.reduceLT, Nat.reduceSub, Nat.reduceLeDiff]
                refine ⟨j + 1, by omega, by omega, ?_⟩
                rw [hstep]
                exact ⟨[(80, .blk 80 0), (81, .blk 81 0)], rfl, au0, au3, au4⟩
            · have hst : bEd (lf l) v t y = t := by unfold bEd; rw [if_neg (by simp [h0])]
              rw [hst] at hstep
              rw [Bool.not_eq_true] at h0
              simp (maxSteps := 1000000) (disch := first | omega | exact PairsOK.mk rfl | (simp only [lenW] <;> omega)) only [hjl, head_nz hy, hyn, head_bls hyl, h0, Int.reduceGT, ne_eq, List.length_replicate, wD, Nat.reduceAdd, Nat.reduceEqDiff, Nat.reduceBEq, ↓reduceIte, reduceCtorEq, SX.exit.injEq, if_true, if_false, Int.reduceAdd, Int.reduceSub, Int.reduceMul, Int.reduceLT, Int.reduceLE, Int.reduceEq, Int.reduceNe, Int.reduceNeg, Int.reduceToNat, Nat.reduceMul, Nat.reduceLT, Nat.reduceSub, Nat.reduceLeDiff]
              refine ⟨j + 1, by omega, by omega, ?_⟩
              rw [hstep]
              exact ⟨[(80, .blk 80 0), (81, .blk 81 0)], rfl, au0, au3, au4⟩
          · have e : j = (preds a.es v).length := by omega
            subst e
            simp (maxSteps := 1000000) (disch := first | omega | exact PairsOK.mk rfl | (simp only [lenW] <;> omega)) only [hjl, Int.reduceGT, ne_eq, List.length_replicate, wD, Nat.reduceAdd, Nat.reduceEqDiff, Nat.reduceBEq, ↓reduceIte, reduceCtorEq, SX.exit.injEq, if_true, if_false, Int.reduceAdd, Int.reduceSub, Int.reduceMul, Int.reduceLT, Int.reduceLE, Int.reduceEq, Int.reduceNe, Int.reduceNeg, Int.reduceToNat, Nat.reduceMul, Nat.reduceLT, Nat.reduceSub, Nat.reduceLeDiff]
            refine ⟨(), ?_⟩
            exact ⟨[(80, .blk 80 0), (81, .blk 81 0)], rfl, au0, au3, au4⟩
        rintro _ _
        simp (maxSteps := 1000000) (disch := first | omega | exact PairsOK.mk rfl | (simp only [lenW] <;> omega)) only [Int.reduceGT, ne_eq, List.length_replicate, wD, Nat.reduceAdd, Nat.reduceEqDiff, Nat.reduceBEq, ↓reduceIte, reduceCtorEq, SX.exit.injEq, if_true, if_false, Int.reduceAdd, Int.reduceSub, Int.reduceMul, Int.reduceLT, Int.reduceLE, Int.reduceEq, Int.reduceNe, Int.reduceNeg, Int.reduceToNat, Nat.reduceMul, Nat.reduceLT, Nat.reduceSub, Nat.reduceLeDiff]
        exact ⟨(i + 1, bRow a.es (lf l) v s), by dsimp only; omega, ⟨hin', hbh', bRow_bd _ _ hbd, hq'⟩, ⟨[(80, .blk 80 0), (81, .blk 81 0)], rfl, au0, au3, au4⟩⟩
    · have hv : s.2[i]? = none := List.getElem?_eq_none (by omega)
      have hqf : s.1 = pDist a.n a.es a.ms (lf l) := by
        rw [← hfin, ← hq, show a.n + 1 - i = (a.n - i) + 1 by omega]
        simp only [bQ, hv]
      simp (maxSteps := 1000000) (disch := first | omega | exact PairsOK.mk rfl | (simp only [lenW] <;> omega)) only [hlt, Int.reduceGT, ne_eq, List.length_replicate, wD, Nat.reduceAdd, Nat.reduceEqDiff, Nat.reduceBEq, ↓reduceIte, reduceCtorEq, SX.exit.injEq, if_true, if_false, Int.reduceAdd, Int.reduceSub, Int.reduceMul, Int.reduceLT, Int.reduceLE, Int.reduceEq, Int.reduceNe, Int.reduceNeg, Int.reduceToNat, Nat.reduceMul, Nat.reduceLT, Nat.reduceSub, Nat.reduceLeDiff]
      refine ⟨(), ?_⟩
      rw [hqf]
      exact ⟨[(80, .blk 80 0)], rfl, au0, au3, au4⟩
  rintro _ _
  simp (maxSteps := 1000000) (disch := first | omega | exact PairsOK.mk rfl | (simp only [lenW] <;> omega)) only [Int.reduceGT, ne_eq, List.length_replicate, wD, Nat.reduceAdd, Nat.reduceEqDiff, Nat.reduceBEq, ↓reduceIte, reduceCtorEq, SX.exit.injEq, if_true, if_false, Int.reduceAdd, Int.reduceSub, Int.reduceMul, Int.reduceLT, Int.reduceLE, Int.reduceEq, Int.reduceNe, Int.reduceNeg, Int.reduceToNat, Nat.reduceMul, Nat.reduceLT, Nat.reduceSub, Nat.reduceLeDiff]
  exact ⟨.inr trivial, _, rfl, ⟨[(80, .blk 80 0)], rfl, au0, au3, au4⟩⟩
end Go.AM.SE
